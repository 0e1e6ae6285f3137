/- Texts of this claim, part 3: EngAC, Find, Ins, Put, Aux, PEnt, ModK, EngAD, EngAE, EngAF, EngAG, EngAH, EngAI, EngAL, Maps, PBfs, Ent, OwnH, Hof2, Enter, Nam, Doer. No condition. -/
import Derived.Laws.StructEq
import Derived.Lib.SlBytesConst
import Derived.Laws.IdiomRangeMap
import Derived.Test.YtldpfleilffanaaXCT2
namespace Go.Eng
section
variable {P : Program} {T : Tab} {C : Ctx} {σ σ' : St} {Ret : St → Prop} {k : List It}

theorem sub_nil : ∀ H, sub [] H = []
  | [] => rfl
  | p :: r => by simp [sub, sub_nil r]
theorem del_nil : ∀ H, del [] H = H
  | [] => rfl
  | p :: r => by simp [del, del_nil r]
theorem killL_nil (l : List AV) : l.map (killL []) = l := by
  have : killL [] = id := by funext x; simp [killL]
  rw [this, List.map_id]

/-- A CALL IN A REGION THAT DRAWS, that holds nothing, and hands back what is held. -/
theorem seg_callN {ops : Array Oper} {Q : Exit → Act → World → Prop} {k n : Nat} {acc : Skel} {o : Oper} {l : List Oper} {c : Operand} {args : Array Operand} {ats : Array TypeId} (off : Nat) (ho : o.op = .call { callee := .value c, args, argTypes := ats }) (hg : o.guard = none) {p : Prop} {f : FuncId} {xs : List AV}
    (h : callArgs σ c args.toList = some (p, f, xs)) (hp : p) (hc : Callable P f) (hx : refsL xs = []) {K : List (Nat × Blk)} {r : AV} (hf : FnOK P f xs [] fun r' H' => r' = r ∧ ∀ id b, hget K id = some b → hget H' id = some b) (hc3 : closed K (refs r) = true)
    {r2 : AV} (hr : ren off r = r2) {K2 : List (Nat × Blk)} (hK : renH off K = K2) (hn : (K2.all fun b => (hget σ.hp b.1).isNone) = true)
    {sk : List Loc × List Loc} (hs : ((Sp.mk o.dst r2 K2 (locsG ops o.guard ++ (locsO σ c ++ locsL σ args.toList))).wr, locsG ops o.guard ++ (locsO σ c ++ locsL σ args.toList)) = sk)
    (ha : St.put ⟨σ.tm, K2 ++ σ.hp⟩ o.dst r2 = σ') (hk : SegFrom P C ops Q k n (acc ++ [sk]) l σ') : SegFrom P C ops Q k n acc (o :: l) σ := by
  subst hr hK
  refine seg_robN (q := ⟨o.dst, ren off r, renH off K, locsG ops o.guard ++ (locsO σ c ++ locsL σ args.toList)⟩) ?_ (fun b hb _ => ?_) (by rw [← hs]) (by rw [← ha]; rfl) hk
  · intro s hagree hfree a w Kp Q' hr hKp
    have hg' : guardOf ops s o.guard = some true := by rw [hg]; rfl
    obtain ⟨μ, S, hi⟩ := hr
    rw [wanted_of hi hg']
    refine .inl ?_
    refine trip_callG ho (by rw [callArgs_agree (fun x hx => hagree x (List.mem_append_right _ hx))]; exact h) hp hc [] off (H := []) (K := K) (r := r) (sub_nil _) (by rw [hx]; rfl) rfl (by simp) hc3 ?_ hf ?_ a w Kp Q' ⟨μ, S, hi⟩ hKp
    · rw [List.all_eq_true]
      intro q hq
      have hm : (q.1 + off, renB off q.2) ∈ renH off K := List.mem_map.2 ⟨q, hq, rfl⟩
      have h0 : hget s.hp (q.1 + off) = none := by
        by_cases h : Loc.blk (q.1 + off) ∈ locsG ops o.guard ++ (locsO σ c ++ locsL σ args.toList)
        · have h1 := List.all_eq_true.1 hn _ hm
          have h2 : hget σ.hp (q.1 + off) = none := by simpa using h1
          exact (hagree _ h).trans h2
        · exact hfree _ hm h
      rw [h0]
      rfl
    · rw [killL_nil, del_nil]; rfl
  · have := List.all_eq_true.1 hn b hb
    simpa using this

/-- AN EMPTY BLOCK MAY BE THOUGHT OF. -/
theorem le_empty (id e s : Nat) (hf : hget σ.hp id = none) : Le C σ ⟨σ.tm, (id, .cells e s []) :: σ.hp⟩ := by
  rintro a w ⟨μ, S, hi⟩
  refine ⟨μ, S, hi.size, hi.defers, hi.tm, fun i b hb => ?_, fun i q hq => ?_, hi.inj, hi.frm, hi.sb⟩
  · simp only [hget] at hb
    split at hb
    · rename_i h1
      injection hb with hb
      subst h1 hb
      exact .inl ⟨rfl, hi.fresh hf⟩
    · exact hi.hp i b hb
  · obtain ⟨⟨b, h1⟩, h2⟩ := hi.dom i q hq
    refine ⟨?_, h2⟩
    simp only [hget]
    split
    · exact ⟨_, rfl⟩
    · exact ⟨b, h1⟩

/-- CELLS THAT NAME A BLOCK ARE FORGOTTEN. -/
theorem le_killB (ref id : Nat) {e s : Nat} {rows rows' : List (List AV)} (hb : hget σ.hp id = some (.cells e s rows)) (hr : rows.map (fun row => row.map (kill ref)) = rows') : Le C σ ⟨σ.tm, hset σ.hp id (.cells e s rows')⟩ := by
  subst hr
  rintro a w ⟨μ, S, hi⟩
  refine ⟨μ, S, hi.size, hi.defers, hi.tm, fun i b hb' => ?_, fun i q hq => ?_, hi.inj, hi.frm, hi.sb⟩
  · simp only [hget_hset] at hb'
    split at hb'
    · rename_i h1
      injection hb' with hb'
      subst h1 hb'
      rcases hi.hp id _ hb with ⟨rfl, k2⟩ | ⟨g, c, k1, k2, k3, k4, k5⟩
      · exact .inl ⟨by simp, k2⟩
      · refine .inr ⟨g, c, k1, k2, by rw [List.length_map]; exact k3, fun row hrow => ?_, fun i row hi' q x hx => ?_⟩
        · obtain ⟨r0, h0, rfl⟩ := List.mem_map.1 hrow
          rw [List.length_map]; exact k4 r0 h0
        · rw [List.getElem?_map] at hi'
          cases e0 : rows[i]? with
          | none => rw [e0] at hi'; cases hi'
          | some r0 =>
            rw [e0] at hi'
            simp only [Option.map_some, Option.some.injEq] at hi'
            subst hi'
            rw [List.getElem?_map] at hx
            cases e1 : r0[q]? with
            | none => rw [e1] at hx; cases hx
            | some y =>
              rw [e1] at hx
              simp only [Option.map_some, Option.some.injEq] at hx
              subst hx
              unfold kill
              split
              · exact .any _
              · exact k5 i r0 e0 q y e1
    · exact hi.hp i b hb'
  · obtain ⟨⟨b, h1⟩, h2⟩ := hi.dom i q hq
    refine ⟨?_, h2⟩
    simp only [hget_hset]
    split
    · exact ⟨_, rfl⟩
    · exact ⟨b, h1⟩

/-- WHAT IS HANDED BACK READS WITH EMPTY SLICES IN PLACE OF NIL ONES, too. -/
theorem FnOK.nrmR {f : FuncId} {args : List AV} {H : List (Nat × Blk)} {X Y : AV} (h : FnOK P f args H fun r _ => r = X) (hn : Eng.nrm X = Y) : FnOK P f args H fun r _ => r = Y := by
  subst hn
  intro R0 μ w0 vs hl ha hH hR
  refine (h R0 μ w0 vs hl ha hH hR).mono ?_
  rintro e' w' ⟨v, r, H', μ', S', rfl, rfl, h4, h5⟩
  exact ⟨v, _, H', μ', S', rfl, rfl, h4.nrm, h5⟩

/-! ### A store in a region that draws -/

/-- the same slots, the same blocks -/
structure Sim (σ τ : St) : Prop where
  tm : σ.tm = τ.tm
  hp : ∀ id, hget σ.hp id = hget τ.hp id

theorem Sim.app {σ τ : St} (h : Sim σ τ) (p : Sp) : Sim (p.app σ) (p.app τ) := by
  refine ⟨?_, fun id => ?_⟩
  · unfold Sp.app St.put
    cases p.dst <;> simp [h.tm]
  · unfold Sp.app
    rw [St.put_hp, St.put_hp]
    show hget (p.new ++ σ.hp) id = hget (p.new ++ τ.hp) id
    rw [hget_append, hget_append, h.hp id]
theorem Sim.symm {σ τ : St} (h : Sim σ τ) : Sim τ σ := ⟨h.tm.symm, fun id => (h.hp id).symm⟩
theorem Sim.appAll {σ τ : St} : ∀ (ps : List Sp), Sim σ τ → Sim (Eng.appAll ps σ) (Eng.appAll ps τ) := fun ps => by
  induction ps generalizing σ τ with
  | nil => exact id
  | cons p r ih => exact fun h => ih (h.app p)
theorem Sim.agree {σ τ s : St} (h : Sim σ τ) {x : Loc} (hx : AgreeAt σ s x) : AgreeAt τ s x := by
  cases x with
  | tm t => show _ = _; rw [← h.tm]; exact hx
  | blk id => show _ = _; rw [← h.hp]; exact hx
theorem Sim.rob {σ τ : St} (h : Sim σ τ) {ops : Array Oper} {o : Oper} {p : Sp} (hr : Rob P C ops o p τ) : Rob P C ops o p σ := fun s ha hf => hr s (fun x hx => h.agree (ha x hx)) hf
theorem Sim.chain {ops : Array Oper} : ∀ (l : List Oper) (ps : List Sp) {σ τ : St}, Sim σ τ → RobChain P C ops l ps τ → RobChain P C ops l ps σ
  | [], [], _, _, _, h => h
  | _ :: l, p :: ps, _, _, h, hr => ⟨h.rob hr.1, Sim.chain l ps (h.app p) hr.2⟩
  | [], _ :: _, _, _, _, h => h
  | _ :: _, [], _, _, _, h => h
theorem Sim.fresh : ∀ (ps : List Sp) {σ τ : St}, Sim σ τ → FreshAll ps τ → FreshAll ps σ
  | [], _, _, _, h => h
  | p :: ps, _, _, h, hf => ⟨fun b hb hn => by rw [h.hp]; exact hf.1 b hb hn, Sim.fresh ps (h.app p) hf.2⟩
theorem DrawOK.sim {ops : Array Oper} {Q : Exit → Act → World → Prop} {k : Nat} {σ τ : St} (h : Sim σ τ) (hd : DrawOK P C ops Q k τ) : DrawOK P C ops Q k σ := fun a w hr =>
  hd a w (rel_same (by rw [h.tm]) (fun t => by rw [h.tm]) h.hp a w hr)
theorem SegFrom.sim {ops : Array Oper} {Q : Exit → Act → World → Prop} {k n : Nat} {acc : Skel} {l : List Oper} {σ τ : St} (h : Sim σ τ) (hs : SegFrom P C ops Q k n acc l τ) : SegFrom P C ops Q k n acc l σ := by
  obtain ⟨l1, l2, ps, h1, h2, h3, h4, h5, h6⟩ := hs
  exact ⟨l1, l2, ps, h1, h2, h.chain _ _ h3, h.fresh _ h4, h5, DrawOK.sim (h.appAll ps) h6⟩

theorem cellsAt_agree {t : TypeId} {x : AV} : cellsAt T t x = cellsAt T t x := rfl

/-- A STORE IN A REGION THAT DRAWS, into a block that is held. -/
theorem seg_store (hT : TabOK P T) {ops : Array Oper} {Q : Exit → Act → World → Prop} {k n : Nat} {acc : Skel} {o : Oper} {l : List Oper} {t : TypeId} {x y : Operand} (ho : o.op = .store t x y) (hd : o.dst = none) (hg : guardOf ops σ o.guard = some true) {id size row off : Nat} (hx : evS σ x = (True, .ptr id size row off))
    {q : Prop} {v : AV} (hy : evS σ y = (q, v)) (hq : q) {p : Prop} {H : List (Nat × Blk)} (h : storeOp T σ t (.ptr id size row off) v = some (p, H)) (hp : p) {b : Blk} (hH : hget H id = some b)
    {sk : List Loc × List Loc} (hs : ([Loc.blk id], locsG ops o.guard ++ (locsL σ [x, y] ++ [Loc.blk id])) = sk) (ha : (⟨σ.tm, hset σ.hp id b⟩ : St) = σ') (hk : SegFrom P C ops Q k n (acc ++ [sk]) l σ') : SegFrom P C ops Q k n acc (o :: l) σ := by
  subst hs ha
  have hform : H = hset σ.hp id b := by
    unfold storeOp at h
    split at h
    · rename_i id' size' row' off' xs heq1 heq2
      injection heq1 with e1 e2 e3 e4
      subst e1 e2 e3 e4
      split at h
      · split at h
        · simp only [Option.some.injEq, Prod.mk.injEq] at h
          obtain ⟨_, rfl⟩ := h
          rw [hget_hset, if_pos rfl] at hH
          injection hH with hH
          rw [hH]
        · cases h
      · cases h
    · cases h
  refine seg_robN (q := ⟨none, .any, [(id, b)], locsG ops o.guard ++ (locsL σ [x, y] ++ [Loc.blk id])⟩) (σ' := Sp.app ⟨none, .any, [(id, b)], locsG ops o.guard ++ (locsL σ [x, y] ++ [Loc.blk id])⟩ σ) ?_ (fun c hc hn => ?_) rfl rfl ?_
  · intro s hagree _ a w K Q' hr hK
    have hg' : guardOf ops s o.guard = some true := by rw [guard_agree (fun x hx => hagree x (List.mem_append_left _ hx))]; exact hg
    obtain ⟨μ, S, hi⟩ := hr
    rw [wanted_of hi hg']
    refine .inl ?_
    have hl : ∀ z, z ∈ locsL σ [x, y] → AgreeAt σ s z := fun z hz => hagree z (List.mem_append_right _ (List.mem_append_left _ hz))
    have hx' : evS s x = (True, .ptr id size row off) := by rw [evS_agree (fun z hz => hl z (locsL_mem (by simp) z hz))]; exact hx
    have hy' : evS s y = (q, v) := by rw [evS_agree (fun z hz => hl z (locsL_mem (by simp) z hz))]; exact hy
    have hb : hget s.hp id = hget σ.hp id := hagree (.blk id) (List.mem_append_right _ (List.mem_append_right _ (by simp)))
    have hst : storeOp T s t (.ptr id size row off) v = some (p, hset s.hp id b) := by
      unfold storeOp at h ⊢
      split at h
      · rename_i id' size' row' off' xs heq1 heq2
        injection heq1 with e1 e2 e3 e4
        subst e1 e2 e3 e4
        rw [hb]
        split at h
        · split at h
          · simp only [Option.some.injEq, Prod.mk.injEq] at h
            obtain ⟨rfl, rfl⟩ := h
            rw [hget_hset, if_pos rfl] at hH
            injection hH with hH
            subst hH
            rw [if_pos (by assumption)]
          · cases h
        · cases h
      · cases h
    have hstep : stepOp T s o.dst o.op = some ((evS s x).1 ∧ (evS s y).1 ∧ p, ⟨s.tm, hset s.hp id b⟩) := by
      rw [ho, hd]
      show (storeOp T s t (evS s x).2 (evS s y).2).map _ = _
      rw [hx', hy', hst]; rfl
    have hnd : (St.mk s.tm (hset s.hp id b)).hp = hset s.hp id b := rfl
    refine step_sound hT o hstep ⟨by rw [hx']; trivial, by rw [hy']; exact hq, hp⟩ a w K Q' ⟨μ, S, hi⟩ fun a' w' hr' => hK a' w' ?_
    show Rel C ⟨s.tm, (id, b) :: s.hp⟩ a' w'
    refine rel_same (s := ⟨s.tm, hset s.hp id b⟩) (s' := ⟨s.tm, (id, b) :: s.hp⟩) rfl (fun t => rfl) (fun i => ?_) a' w' hr'
    show hget (hset s.hp id b) i = hget ((id, b) :: s.hp) i
    rw [hget_hset]; rfl
  · have hc' := List.mem_singleton.1 hc
    subst hc'
    exact absurd (List.mem_append_right _ (List.mem_append_right _ (by simp))) hn
  · refine SegFrom.sim (τ := ⟨σ.tm, hset σ.hp id b⟩) ⟨rfl, fun i => ?_⟩ hk
    show hget ((id, b) :: σ.hp) i = hget (hset σ.hp id b) i
    rw [hget_hset]; rfl
end
end Go.Eng

namespace La
open Go Go.Eng Go.Proofs
set_option maxRecDepth 10000
set_option linter.unusedSimpArgs false
set_option linter.unusedVariables false

def zeroN : Node := ⟨0, false, [], [], 0⟩
def findR (l : List Node) (f : Int) : AV := .tup [.agg (nodeRow ((findN l f).getD zeroN)), .bool (isAt l f)]
theorem findN_at {l : List Node} {k : Int} (h : isAt l k = true) : findN l k = some (l.getD (placeOf l k) default) := by unfold findN; rw [if_pos h]
theorem findN_no {l : List Node} {k : Int} (h : isAt l k = false) : findN l k = none := by unfold findN; rw [if_neg (by simp [h])]
@[go_sem, simp] theorem findR_refs (l : List Node) (f : Int) : refs (findR l f) = [] := by unfold findR; simp [refs, refsL]
theorem isAt_eq (l : List Node) (k : Int) : isAt l k = (findN l k).isSome := by
  cases h : isAt l k
  · rw [findN_no h]; rfl
  · rw [findN_at h]; rfl
theorem findN_mem {l : List Node} {k : Int} {n : Node} (h : findN l k = some n) : n ∈ l := by
  unfold findN at h
  split at h
  · rename_i hc
    injection h with h
    subst h
    unfold isAt at hc
    rw [Bool.and_eq_true] at hc
    exact getD_mem (of_decide_eq_true hc.1)
  · cases h
theorem Small.find {l : List Node} (h : Small l) (k : Int) : ((findN l k).getD zeroN).Small := by
  cases e : findN l k with
  | none => exact ⟨by simp [zeroN], by simp [zeroN]⟩
  | some n => exact h.each n (findN_mem e)
theorem nrm_nodeRow (n : Node) : nrmL (nodeRow n) = nodeRow n := by
  have h1 : nrmR (n.data.map byteRow) = n.data.map byteRow := by rw [nrmR_map, List.map_map]; rfl
  have h2 : nrmR (n.entries.map entryRow) = n.entries.map entryRow := by rw [nrmR_map, List.map_map]; rfl
  simp only [nodeRow, nrmL, nrm, h1, h2]

theorem find_raw (l : List Node) (f : Int) (hl : Small l) : FnOK Try.prog 33 [.sl (l.map nodeRow), .int .i64 f] [] (fun r _ => r = .tup [.agg (if isAt l f = true then nodeRow (l.getD (placeOf l f) default) else [.int .i64 0, .bool false, .nils, .nils, .int .i64 0]), .bool (isAt l f)]) := by
  refine fn_of_cwW tabOK (Go.Proofs.Try.func33) rfl (fun C => ?_)
  simp only [Go.Proofs.Try.ntmps33, Go.Proofs.Try.results33, go_sem]
  refine cw_go tabOK 99 (by simp only [go_sem]; try exact rfl) (by simp [go_sem]) ?_
  refine cw_call rfl rfl (by simp only [go_sem]; try exact rfl) (by simp [go_sem]) ⟨_, Go.Proofs.Try.func87, by kernel_rfl, rfl⟩ (by simp [go_sem]) (where_ok l f hl.len) (by simp [go_sem]) (by simp only [go_sem]; exact rfl) ?_
  refine cw_go tabOK 99 (by simp only [go_sem]; try exact rfl) (by simp [go_sem]) ?_
  have hple := placeOf_le l f
  have hlen := hl.len
  refine cw_cond (by simp only [go_sem]; try exact rfl) trivial (fun h => ?_) (fun h => ?_)
  · have hat : isAt l f = false := by simpa using h
    refine cw_go tabOK 99 (by simp only [go_sem]; try exact rfl) (by simp [go_sem]) ?_
    refine cw_ret ⟨_, _, (by simp only [go_sem]; try exact rfl), by simp [go_sem], _, .inr (.inl rfl), ?_⟩
    simp [hat]
  · have hat : isAt l f = true := by simpa using h
    have hpl : placeOf l f < l.length := by
      unfold isAt at hat
      rw [Bool.and_eq_true] at hat
      exact of_decide_eq_true hat.1
    have hn := getD_mem hpl
    have hd : (l.take (placeOf l f + 1)).drop (placeOf l f) = [l.getD (placeOf l f) default] := by rw [List.drop_take, drop_getD hpl, Nat.add_sub_cancel_left]; rfl
    have hw : IntKind.i64.wrap ((placeOf l f : Int) + 1) = ((placeOf l f + 1 : Nat) : Int) := by rw [Eng.wrap_small (by omega) (by omega)]; omega
    generalize l.getD (placeOf l f) default = n at hn hd
    refine cw_go tabOK 99 (by simp only [go_sem, hw]; try exact rfl) ?_ ?_
    · simp
      exact ⟨by omega, by omega, fun _ _ => rfl⟩
    simp only [go_sem, ← List.map_take, ← List.map_drop, hd]
    refine cw_call rfl rfl (by simp only [go_sem]; try exact rfl) (by simp [go_sem]) ⟨_, Go.Proofs.Try.func86, by kernel_rfl, rfl⟩ (by simp [go_sem]) (own_ok [n] ⟨by simp, fun x hx => by rw [List.mem_singleton.1 hx]; exact hl.each n hn⟩) (by simp [go_sem]) (by simp only [go_sem]; exact rfl) ?_
    refine cw_go tabOK 99 (by simp only [go_sem, nodeRow]; try exact rfl) ?_ ?_
    · simp [go_sem, nodeRow]
    refine cw_ret ⟨_, _, by simp only [go_sem, nodeRow]; try exact rfl, by simp [go_sem], _, .inr (.inl rfl), ?_⟩
    simp [hat, nodeRow]

theorem find_ok (l : List Node) (f : Int) (hl : Small l) : FnOK Try.prog 33 [.sl (l.map nodeRow), .int .i64 f] [] (fun r _ => r = findR l f) := by
  refine FnOK.nrmR (find_raw l f hl) ?_
  unfold findR
  cases h : isAt l f
  · rw [findN_no h]; rfl
  · rw [findN_at h]
    simp only [if_true, nrm, nrmL, nrm_nodeRow, Option.getD_some]
end La

namespace La
open Go Go.Eng Go.Proofs
set_option maxRecDepth 10000
set_option linter.unusedSimpArgs false
set_option linter.unusedVariables false

theorem ins_grow (L : List (List AV)) (i : Nat) (z w : List AV) (hi : i ≤ L.length) :
    overRows (overRows (L.take i ++ List.replicate (L.length + 1 - i) w) i [z]) (i + 1) (L.drop i) = L.take i ++ z :: L.drop i := by
  have hli : (L.take i).length = i := by rw [List.length_take]; omega
  have h1 : overRows (L.take i ++ List.replicate (L.length + 1 - i) w) i [z] = L.take i ++ z :: List.replicate (L.length - i) w := by
    unfold overRows
    have e1 : (L.take i ++ List.replicate (L.length + 1 - i) w).take i = L.take i := by
      rw [List.take_append, hli, Nat.sub_self, List.take_zero, List.append_nil, List.take_take, Nat.min_self]
    have e2 : (L.take i ++ List.replicate (L.length + 1 - i) w).drop (i + [z].length) = List.replicate (L.length - i) w := by
      rw [List.drop_append, List.drop_of_length_le (by rw [hli]; simp), List.drop_replicate, List.nil_append, hli]
      congr 1; simp; omega
    rw [e1, e2]; simp
  rw [h1]
  unfold overRows
  have hl : (L.take i ++ [z]).length = i + 1 := by rw [List.length_append, hli]; rfl
  have e1 : (L.take i ++ z :: List.replicate (L.length - i) w).take (i + 1) = L.take i ++ [z] := by
    have : L.take i ++ z :: List.replicate (L.length - i) w = (L.take i ++ [z]) ++ List.replicate (L.length - i) w := by simp
    rw [this, List.take_append, hl, Nat.sub_self, List.take_zero, List.append_nil, List.take_of_length_le (by omega)]
  have e2 : (L.take i ++ z :: List.replicate (L.length - i) w).drop (i + 1 + (L.drop i).length) = [] := by
    refine List.drop_of_length_le ?_
    rw [List.length_append, hli, List.length_cons, List.length_replicate, List.length_drop]; omega
  rw [e1, e2]; simp

theorem ins_room (L Z : List (List AV)) (i : Nat) (z : List AV) (hi : i < L.length) (hz : 0 < Z.length) :
    (overRows (overRows (L ++ Z) (i + 1) (L.drop i)) i [z]).take (L.length + 1) = L.take i ++ z :: L.drop i := by
  have hli : (L.take i).length = i := by rw [List.length_take]; omega
  have hli1 : (L.take (i + 1)).length = i + 1 := by rw [List.length_take]; omega
  have h1 : overRows (L ++ Z) (i + 1) (L.drop i) = L.take (i + 1) ++ (L.drop i ++ Z.drop 1) := by
    unfold overRows
    have e1 : (L ++ Z).take (i + 1) = L.take (i + 1) := by rw [List.take_append, show i + 1 - L.length = 0 by omega, List.take_zero, List.append_nil]
    have e2 : (L ++ Z).drop (i + 1 + (L.drop i).length) = Z.drop 1 := by
      rw [List.drop_append, List.drop_of_length_le (by rw [List.length_drop]; omega), List.nil_append, List.length_drop]
      congr 1; omega
    rw [e1, e2, List.append_assoc]
  rw [h1]
  unfold overRows
  have e1 : (L.take (i + 1) ++ (L.drop i ++ Z.drop 1)).take i = L.take i := by
    rw [List.take_append, hli1, show i - (i + 1) = 0 by omega, List.take_zero, List.append_nil, List.take_take, Nat.min_eq_left (by omega)]
  have e2 : (L.take (i + 1) ++ (L.drop i ++ Z.drop 1)).drop (i + [z].length) = L.drop i ++ Z.drop 1 := by
    rw [List.drop_append, List.drop_of_length_le (by rw [hli1]; simp), List.nil_append, hli1, show i + [z].length - (i + 1) = 0 by simp, List.drop_zero]
  rw [e1, e2]
  have e3 : L.take i ++ [z] ++ (L.drop i ++ Z.drop 1) = (L.take i ++ z :: L.drop i) ++ Z.drop 1 := by simp
  have e4 : (L.take i ++ z :: L.drop i).length = L.length + 1 := by rw [List.length_append, hli, List.length_cons, List.length_drop]; omega
  rw [e3, List.take_append, e4, Nat.sub_self, List.take_zero, List.append_nil, List.take_of_length_le (by omega)]

theorem take_one (n : Nat) (z : List AV) (hn : 0 < n) : List.take n [z] = [z] := List.take_of_length_le (by simp; omega)
theorem all_drop {L : List (List AV)} (i : Nat) (h : (L.all fun row => row.all AV.leaf) = true) : ((L.drop i).all fun row => row.all AV.leaf) = true := by
  rw [List.all_eq_true] at *; exact fun x hx => h x (List.mem_of_mem_drop hx)


def zrow : List AV := [.int .i64 0, .bool false, .nils, .nils, .int .i64 0]
theorem node_insert (L : List (List AV)) (i : Nat) (hi : i ≤ L.length) (hlen : L.length ≤ 100000000) (hL : rowsOf 5 L) (hlf : (L.all fun row => row.all AV.leaf) = true) (hnr : ∀ id, (L.all fun row => row.all fun x => !(refs x).contains id) = true) :
    FnOK Try.prog 88 [.osl 1000 5 0 L.length, .int .i64 i, .osl 22 5 0 1] [(22, .cells 46 5 [zrow]), (1000, .cells 46 5 L)] (fun r H => ∃ j, r = .osl j 5 0 (L.length + 1) ∧ hget H j = some (.cells 46 5 (L.take i ++ zrow :: L.drop i))) := by
  refine fn_of_cwW tabOK (Go.Proofs.Try.func88) rfl (fun C => ?_)
  simp only [Go.Proofs.Try.ntmps88, Go.Proofs.Try.results88, go_sem]
  refine cw_go tabOK 99 (by simp only [go_sem]; try exact rfl) ?_ ?_
  · simp [go_sem]; omega
  refine cw_cond (by simp only [go_sem]; try exact rfl) trivial (fun h => ?_) (fun h => ?_)
  · simp at h
  by_cases hin : i = L.length
  · subst hin
    refine cw_go tabOK 99 (by simp only [go_sem]; try exact rfl) ?_ ?_
    · simp [go_sem]
    refine cw_cond (by simp only [go_sem]; try exact rfl) trivial (fun h => ?_) (fun h => ?_)
    · refine cw_go tabOK 99 (by simp only [go_sem]; try exact rfl) ?_ ?_
      · refine ⟨by simp, by simp, by intro row h; rw [List.mem_singleton.1 h]; rfl, fun _ _ _ _ h => by injection h, rfl, by omega, .inr trivial, by simp, ⟨fun _ => by rfl, by simp⟩, ?_⟩
        rw [hnr 1000]; rfl
      refine cw_ret ⟨_, _, (by simp only [go_sem]; try exact rfl), by simp [go_sem], _, .inr (.inl rfl), ?_⟩
      simp [go_sem]
    · simp at h
  · refine cw_go tabOK 99 (by simp only [go_sem]; try exact rfl) ?_ ?_
    · simp [go_sem]
    refine cw_cond (by simp only [go_sem]; try exact rfl) trivial (fun h => ?_) (fun h => ?_)
    · simp at h; omega
    refine cw_goR 99 (by simp only [go_sem]; try exact rfl) ?_
    refine cw_runN tabOK 4 (by simp only [go_sem]; exact rfl) (by simp only [go_sem]; exact rfl) (by simp only [go_sem]; try exact rfl) (by simp [go_sem]) ?_
    refine cw_cap tabOK rfl rfl rfl rfl (id := 1000) (s := 5) (off := 0) (len := L.length) (e' := 46) (rows := L) (by simp only [go_sem]; try exact rfl) (by simp only [go_sem]; try exact rfl) (by omega) (by omega) (by simp only [go_sem]; try exact rfl) (fun c hc1 hc2 => ?_)
    simp only [go_sem]
    refine cw_go tabOK 99 (by simp only [go_sem]; try exact rfl) (by simp [go_sem]) ?_
    have hw1 : IntKind.i64.wrap ((L.length : Int) + ((1 : Nat) : Int)) = ((L.length + 1 : Nat) : Int) := by rw [Eng.wrap_small (by omega) (by omega)]; omega
    have hw3 : IntKind.i64.wrap ((i : Int) + ((1 : Nat) : Int)) = ((i + 1 : Nat) : Int) := by rw [Eng.wrap_small (by omega) (by omega)]; omega
    have hil : i < L.length := by omega
    simp only [go_sem, hw1]
    refine cw_cond (by simp only [go_sem]; try exact rfl) trivial (fun h => ?_) (fun h => ?_)
    · have hc : c < L.length + 1 := by simp at h; omega
      have hcl : c = L.length := by omega
      subst hcl
      have hw2 : IntKind.i64.wrap (((L.length + 1 : Nat) : Int) - (i : Int)) = ((L.length + 1 - i : Nat) : Int) := by rw [Eng.wrap_small (by omega) (by omega)]; omega
      simp only [go_sem, Nat.zero_add, Nat.sub_self, List.replicate_zero, List.append_nil]
      refine cw_go tabOK 99 (by simp only [go_sem, hw1, hw2]; try exact rfl) ?_ ?_
      · simp [go_sem]; exact hi
      refine cw_step rfl (trip_growZ tabOK rfl rfl rfl (id := 1000) (s := 5) (len := i) (n := L.length + 1 - i) (j := 30) (N := L.length) (d := 40) (e' := 46) (by simp only [go_sem]; try exact rfl) (by simp only [go_sem]; try exact rfl) (by simp only [go_sem]; try exact rfl) (by omega) (by omega) (by simp only [go_sem]; try exact rfl) (by omega) rfl (by omega) (by decide) (by show (_ + 768) * 72 ≤ _; omega) (by simp only [go_sem]; try exact rfl)) ?_
      simp only [go_sem]
      refine cw_go tabOK 99 (by simp only [go_sem, hw1]; try exact rfl) ?_ ?_
      · refine ⟨⟨by simp, by omega, by omega⟩, by simp, by intro row h; rw [List.mem_singleton.1 h]; rfl, fun _ _ _ _ h => by injection h, ?_, ?_⟩
        · rw [take_one _ _ (by omega)]; rfl
        · simp; omega
      simp only [go_sem, take_one (i + (L.length + 1 - i) - i) zrow (by omega)]
      refine cw_draw mixed ?_
      refine seg_start rfl ?_
      refine seg_runN tabOK 8 (by simp only [go_sem]; exact rfl) (by simp only [go_sem]; exact rfl) (by simp only [go_sem, hw3]; try exact rfl) ?_ (by simp only [go_sem]; exact rfl) ?_
      · refine ⟨⟨by simp, by omega, by omega⟩, by simp, by omega, hi⟩
      refine seg_end (by kernel_rfl) (by simp only [go_sem]; exact rfl) ?_
      refine draw_step tabOK rfl (by kernel_rfl) rfl (by simp only [go_sem]; try exact rfl) ?_ rfl ?_
      · simp only [go_sem]
        have e1 : List.take (L.length - i) (List.drop i L) = L.drop i := List.take_of_length_le (by simp)
        have e2 : List.take (i + (L.length + 1 - i) - (i + 1)) (L.drop i) = L.drop i := List.take_of_length_le (by simp; omega)
        rw [e1, e2]
        refine ⟨by simp, fun row hrow => hL row (List.mem_of_mem_drop hrow), fun _ _ _ _ h => by injection h; simp; omega, all_drop i hlf, ?_⟩
        rw [overRows_length (by simp; omega)]
        simp; omega
      refine draw_close (by kernel_rfl) ?_
      have e1 : List.take (L.length - i) (List.drop i L) = L.drop i := List.take_of_length_le (by simp)
      have e2 : List.take (i + (L.length + 1 - i) - (i + 1)) (L.drop i) = L.drop i := List.take_of_length_le (by simp; omega)
      simp only [go_sem, e1, e2]
      refine cw_go tabOK 99 (by simp only [go_sem]; try exact rfl) (by simp [go_sem]) ?_
      refine cw_ret ⟨_, _, (by simp only [go_sem]; try exact rfl), by simp [go_sem], _, .inr (.inl rfl), ?_⟩
      refine ⟨40, ?_, ?_⟩
      · simp [go_sem]; omega
      · rw [ins_grow L i _ _ hi]; rfl
    · have hc : ¬ c < L.length + 1 := by simp at h; omega
      refine cw_goR 99 (by simp only [go_sem]; try exact rfl) ?_
      refine cw_runN tabOK 4 (by simp only [go_sem]; exact rfl) (by simp only [go_sem]; exact rfl) (by simp only [go_sem]; try exact rfl) (by simp [go_sem]) ?_
      simp only [go_sem, hw1]
      refine cw_step rfl (trip_reslice tabOK rfl rfl (id := 1000) (s := 5) (off := 0) (len := L.length) (h := L.length + 1) (j := 30) (N := 0 + c) (by simp only [go_sem]; try exact rfl) (by simp only [go_sem]; try exact rfl) (by simp only [go_sem]; try exact rfl) (by omega) (by omega) rfl (by omega)) ?_
      simp only [go_sem]
      refine cw_go tabOK 99 (by simp only [go_sem, hw3]; try exact rfl) ?_ ?_
      · exact ⟨by simp, by omega, hi⟩
      refine cw_step rfl (trip_apart tabOK rfl (f := 138) (i1 := 22) (i2 := 1000) (s1 := 5) (s2 := 5) (by simp only [go_sem]; try exact rfl) (Go.Proofs.Try.func138) rfl rfl rfl rfl rfl (by decide) (by simp only [go_sem]; try exact rfl) (by simp only [go_sem]; try exact rfl) (by decide) (by omega) (by omega) (by decide) (by simp only [go_sem]; try exact rfl) (by simp only [go_sem]; try exact rfl)) ?_
      simp only [go_sem]
      refine cw_go tabOK 99 (by simp only [go_sem]; try exact rfl) (by simp [go_sem]) ?_
      refine cw_cond (by simp only [go_sem]; try exact rfl) trivial (fun h => ?_) (fun h => ?_)
      · have hZ1 : rowsOf 5 (List.replicate (c - L.length) [AV.any,AV.any,AV.any,AV.any,AV.any]) := fun row hr => by rw [(List.mem_replicate.1 hr).2]; rfl
        have hZ2 : 0 < (List.replicate (c - L.length) [AV.any,AV.any,AV.any,AV.any,AV.any]).length := by rw [List.length_replicate]; omega
        generalize List.replicate (c - L.length) [AV.any,AV.any,AV.any,AV.any,AV.any] = Z at hZ1 hZ2
        have e0 : List.drop i (L ++ Z) = L.drop i ++ Z := by rw [List.drop_append, show i - L.length = 0 by omega, List.drop_zero]
        have e1 : (List.take (L.length + 1 - i) (List.drop i (L ++ Z))).length = L.length + 1 - i := by rw [e0]; simp; omega
        have e2 : List.take (L.length - i) (List.take (L.length + 1 - i) (List.drop i (L ++ Z))) = L.drop i := by
          rw [List.take_take, Nat.min_eq_left (by omega), e0, List.take_append, List.length_drop, Nat.sub_self, List.take_zero, List.append_nil, List.take_of_length_le (by simp)]
        have e3 : L.length + 1 - (i + 1) = L.length - i := by omega
        refine cw_goR 99 (by simp only [go_sem]; try exact rfl) ?_
        refine cw_draw mixed ?_
        refine seg_start rfl ?_
        refine seg_runN tabOK 8 (by simp only [go_sem]; exact rfl) (by simp only [go_sem]; exact rfl) (by simp only [go_sem, hw3]; try exact rfl) ?_ (by simp only [go_sem]; exact rfl) ?_
        · exact ⟨⟨by simp, by omega, hi⟩, by simp, by omega, by omega⟩
        refine seg_end (by kernel_rfl) (by simp only [go_sem]; exact rfl) ?_
        refine draw_step tabOK rfl (by kernel_rfl) rfl (by simp only [go_sem]; try exact rfl) ?_ rfl ?_
        · simp only [go_sem]
          refine ⟨by simp, fun row hr => ?_, fun _ _ _ _ h => by injection h with _ _ _ h; rw [e1, h], ?_, ?_⟩
          · have := List.mem_of_mem_drop (List.mem_of_mem_take hr)
            rcases List.mem_append.1 this with h | h
            · exact hL row h
            · exact hZ1 row h
          · rw [e3, e2]; exact all_drop i hlf
          · omega
        refine draw_close (by kernel_rfl) ?_
        simp only [go_sem, e2, e3, List.getElem_toArray, List.getElem_cons_succ, List.getElem_cons_zero]
        refine cw_go tabOK 99 (by simp only [go_sem]; try exact rfl) ?_ ?_
        · refine ⟨⟨by simp, by omega, by omega⟩, by simp, by intro row h; rw [List.mem_singleton.1 h]; rfl, fun _ _ _ _ h => by injection h, ?_, ?_⟩
          · rw [take_one _ _ (by omega)]; rfl
          · rw [overRows_length (by simp; omega), List.length_append]; omega
        simp only [go_sem, take_one (L.length + 1 - i) zrow (by omega)]
        refine cw_le (le_shrink (id := 1000) (L.length + 1) (by simp only [go_sem]; exact rfl)) ?_
        simp only [go_sem, ins_room L Z i zrow hil hZ2]
        refine cw_ret ⟨_, _, (by simp only [go_sem]; try exact rfl), by simp [go_sem], _, .inr (.inl rfl), ?_⟩
        refine ⟨1000, ?_, ?_⟩
        · simp [go_sem]
        · rfl
      · simp at h

def zentry : List AV := [.str [], .int .i64 0]
theorem entry_insert (L : List (List AV)) (i : Nat) (hi : i ≤ L.length) (hlen : L.length ≤ 100000000) (hL : rowsOf 2 L) (hlf : (L.all fun row => row.all AV.leaf) = true) (hnr : ∀ id, (L.all fun row => row.all fun x => !(refs x).contains id) = true) :
    FnOK Try.prog 95 [.osl 1000 2 0 L.length, .int .i64 i, .osl 28 2 0 1] [(28, .cells 115 2 [zentry]), (1000, .cells 115 2 L)] (fun r H => ∃ j, r = .osl j 2 0 (L.length + 1) ∧ hget H j = some (.cells 115 2 (L.take i ++ zentry :: L.drop i))) := by
  refine fn_of_cwW tabOK (Go.Proofs.Try.func95) rfl (fun C => ?_)
  simp only [Go.Proofs.Try.ntmps95, Go.Proofs.Try.results95, go_sem]
  refine cw_go tabOK 99 (by simp only [go_sem]; try exact rfl) ?_ ?_
  · simp [go_sem]; omega
  refine cw_cond (by simp only [go_sem]; try exact rfl) trivial (fun h => ?_) (fun h => ?_)
  · simp at h
  by_cases hin : i = L.length
  · subst hin
    refine cw_go tabOK 99 (by simp only [go_sem]; try exact rfl) ?_ ?_
    · simp [go_sem]
    refine cw_cond (by simp only [go_sem]; try exact rfl) trivial (fun h => ?_) (fun h => ?_)
    · refine cw_go tabOK 99 (by simp only [go_sem]; try exact rfl) ?_ ?_
      · refine ⟨by simp, by simp, by intro row h; rw [List.mem_singleton.1 h]; rfl, fun _ _ _ _ h => by injection h, rfl, by omega, .inr trivial, by simp, ⟨fun _ => by rfl, by simp⟩, ?_⟩
        rw [hnr 1000]; rfl
      refine cw_ret ⟨_, _, (by simp only [go_sem]; try exact rfl), by simp [go_sem], _, .inr (.inl rfl), ?_⟩
      simp [go_sem]
    · simp at h
  · refine cw_go tabOK 99 (by simp only [go_sem]; try exact rfl) ?_ ?_
    · simp [go_sem]
    refine cw_cond (by simp only [go_sem]; try exact rfl) trivial (fun h => ?_) (fun h => ?_)
    · simp at h; omega
    refine cw_goR 99 (by simp only [go_sem]; try exact rfl) ?_
    refine cw_runN tabOK 4 (by simp only [go_sem]; exact rfl) (by simp only [go_sem]; exact rfl) (by simp only [go_sem]; try exact rfl) (by simp [go_sem]) ?_
    refine cw_cap tabOK rfl rfl rfl rfl (id := 1000) (s := 2) (off := 0) (len := L.length) (e' := 115) (rows := L) (by simp only [go_sem]; try exact rfl) (by simp only [go_sem]; try exact rfl) (by omega) (by omega) (by simp only [go_sem]; try exact rfl) (fun c hc1 hc2 => ?_)
    simp only [go_sem]
    refine cw_go tabOK 99 (by simp only [go_sem]; try exact rfl) (by simp [go_sem]) ?_
    have hw1 : IntKind.i64.wrap ((L.length : Int) + ((1 : Nat) : Int)) = ((L.length + 1 : Nat) : Int) := by rw [Eng.wrap_small (by omega) (by omega)]; omega
    have hw3 : IntKind.i64.wrap ((i : Int) + ((1 : Nat) : Int)) = ((i + 1 : Nat) : Int) := by rw [Eng.wrap_small (by omega) (by omega)]; omega
    have hil : i < L.length := by omega
    simp only [go_sem, hw1]
    refine cw_cond (by simp only [go_sem]; try exact rfl) trivial (fun h => ?_) (fun h => ?_)
    · have hc : c < L.length + 1 := by simp at h; omega
      have hcl : c = L.length := by omega
      subst hcl
      have hw2 : IntKind.i64.wrap (((L.length + 1 : Nat) : Int) - (i : Int)) = ((L.length + 1 - i : Nat) : Int) := by rw [Eng.wrap_small (by omega) (by omega)]; omega
      simp only [go_sem, Nat.zero_add, Nat.sub_self, List.replicate_zero, List.append_nil]
      refine cw_go tabOK 99 (by simp only [go_sem, hw1, hw2]; try exact rfl) ?_ ?_
      · simp [go_sem]; exact hi
      refine cw_step rfl (trip_growZ tabOK rfl rfl rfl (id := 1000) (s := 2) (len := i) (n := L.length + 1 - i) (j := 30) (N := L.length) (d := 40) (e' := 115) (by simp only [go_sem]; try exact rfl) (by simp only [go_sem]; try exact rfl) (by simp only [go_sem]; try exact rfl) (by omega) (by omega) (by simp only [go_sem]; try exact rfl) (by omega) rfl (by omega) (by decide) (by show (_ + 768) * 24 ≤ _; omega) (by simp only [go_sem]; try exact rfl)) ?_
      simp only [go_sem]
      refine cw_go tabOK 99 (by simp only [go_sem, hw1]; try exact rfl) ?_ ?_
      · refine ⟨⟨by simp, by omega, by omega⟩, by simp, by intro row h; rw [List.mem_singleton.1 h]; rfl, fun _ _ _ _ h => by injection h, ?_, ?_⟩
        · rw [take_one _ _ (by omega)]; rfl
        · simp; omega
      simp only [go_sem, take_one (i + (L.length + 1 - i) - i) zentry (by omega)]
      refine cw_draw mixed ?_
      refine seg_start rfl ?_
      refine seg_runN tabOK 8 (by simp only [go_sem]; exact rfl) (by simp only [go_sem]; exact rfl) (by simp only [go_sem, hw3]; try exact rfl) ?_ (by simp only [go_sem]; exact rfl) ?_
      · refine ⟨⟨by simp, by omega, by omega⟩, by simp, by omega, hi⟩
      refine seg_end (by kernel_rfl) (by simp only [go_sem]; exact rfl) ?_
      refine draw_step tabOK rfl (by kernel_rfl) rfl (by simp only [go_sem]; try exact rfl) ?_ rfl ?_
      · simp only [go_sem]
        have e1 : List.take (L.length - i) (List.drop i L) = L.drop i := List.take_of_length_le (by simp)
        have e2 : List.take (i + (L.length + 1 - i) - (i + 1)) (L.drop i) = L.drop i := List.take_of_length_le (by simp; omega)
        rw [e1, e2]
        refine ⟨by simp, fun row hrow => hL row (List.mem_of_mem_drop hrow), fun _ _ _ _ h => by injection h; simp; omega, all_drop i hlf, ?_⟩
        rw [overRows_length (by simp; omega)]
        simp; omega
      refine draw_close (by kernel_rfl) ?_
      have e1 : List.take (L.length - i) (List.drop i L) = L.drop i := List.take_of_length_le (by simp)
      have e2 : List.take (i + (L.length + 1 - i) - (i + 1)) (L.drop i) = L.drop i := List.take_of_length_le (by simp; omega)
      simp only [go_sem, e1, e2]
      refine cw_go tabOK 99 (by simp only [go_sem]; try exact rfl) (by simp [go_sem]) ?_
      refine cw_ret ⟨_, _, (by simp only [go_sem]; try exact rfl), by simp [go_sem], _, .inr (.inl rfl), ?_⟩
      refine ⟨40, ?_, ?_⟩
      · simp [go_sem]; omega
      · rw [ins_grow L i _ _ hi]; rfl
    · have hc : ¬ c < L.length + 1 := by simp at h; omega
      refine cw_goR 99 (by simp only [go_sem]; try exact rfl) ?_
      refine cw_runN tabOK 4 (by simp only [go_sem]; exact rfl) (by simp only [go_sem]; exact rfl) (by simp only [go_sem]; try exact rfl) (by simp [go_sem]) ?_
      simp only [go_sem, hw1]
      refine cw_step rfl (trip_reslice tabOK rfl rfl (id := 1000) (s := 2) (off := 0) (len := L.length) (h := L.length + 1) (j := 30) (N := 0 + c) (by simp only [go_sem]; try exact rfl) (by simp only [go_sem]; try exact rfl) (by simp only [go_sem]; try exact rfl) (by omega) (by omega) rfl (by omega)) ?_
      simp only [go_sem]
      refine cw_go tabOK 99 (by simp only [go_sem, hw3]; try exact rfl) ?_ ?_
      · exact ⟨by simp, by omega, hi⟩
      refine cw_step rfl (trip_apart tabOK rfl (f := 142) (i1 := 28) (i2 := 1000) (s1 := 2) (s2 := 2) (by simp only [go_sem]; try exact rfl) (Go.Proofs.Try.func142) rfl rfl rfl rfl rfl (by decide) (by simp only [go_sem]; try exact rfl) (by simp only [go_sem]; try exact rfl) (by decide) (by omega) (by omega) (by decide) (by simp only [go_sem]; try exact rfl) (by simp only [go_sem]; try exact rfl)) ?_
      simp only [go_sem]
      refine cw_go tabOK 99 (by simp only [go_sem]; try exact rfl) (by simp [go_sem]) ?_
      refine cw_cond (by simp only [go_sem]; try exact rfl) trivial (fun h => ?_) (fun h => ?_)
      · have hZ1 : rowsOf 2 (List.replicate (c - L.length) [AV.any,AV.any]) := fun row hr => by rw [(List.mem_replicate.1 hr).2]; rfl
        have hZ2 : 0 < (List.replicate (c - L.length) [AV.any,AV.any]).length := by rw [List.length_replicate]; omega
        generalize List.replicate (c - L.length) [AV.any,AV.any] = Z at hZ1 hZ2
        have e0 : List.drop i (L ++ Z) = L.drop i ++ Z := by rw [List.drop_append, show i - L.length = 0 by omega, List.drop_zero]
        have e1 : (List.take (L.length + 1 - i) (List.drop i (L ++ Z))).length = L.length + 1 - i := by rw [e0]; simp; omega
        have e2 : List.take (L.length - i) (List.take (L.length + 1 - i) (List.drop i (L ++ Z))) = L.drop i := by
          rw [List.take_take, Nat.min_eq_left (by omega), e0, List.take_append, List.length_drop, Nat.sub_self, List.take_zero, List.append_nil, List.take_of_length_le (by simp)]
        have e3 : L.length + 1 - (i + 1) = L.length - i := by omega
        refine cw_goR 99 (by simp only [go_sem]; try exact rfl) ?_
        refine cw_draw mixed ?_
        refine seg_start rfl ?_
        refine seg_runN tabOK 8 (by simp only [go_sem]; exact rfl) (by simp only [go_sem]; exact rfl) (by simp only [go_sem, hw3]; try exact rfl) ?_ (by simp only [go_sem]; exact rfl) ?_
        · exact ⟨⟨by simp, by omega, hi⟩, by simp, by omega, by omega⟩
        refine seg_end (by kernel_rfl) (by simp only [go_sem]; exact rfl) ?_
        refine draw_step tabOK rfl (by kernel_rfl) rfl (by simp only [go_sem]; try exact rfl) ?_ rfl ?_
        · simp only [go_sem]
          refine ⟨by simp, fun row hr => ?_, fun _ _ _ _ h => by injection h with _ _ _ h; rw [e1, h], ?_, ?_⟩
          · have := List.mem_of_mem_drop (List.mem_of_mem_take hr)
            rcases List.mem_append.1 this with h | h
            · exact hL row h
            · exact hZ1 row h
          · rw [e3, e2]; exact all_drop i hlf
          · omega
        refine draw_close (by kernel_rfl) ?_
        simp only [go_sem, e2, e3, List.getElem_toArray, List.getElem_cons_succ, List.getElem_cons_zero]
        refine cw_go tabOK 99 (by simp only [go_sem]; try exact rfl) ?_ ?_
        · refine ⟨⟨by simp, by omega, by omega⟩, by simp, by intro row h; rw [List.mem_singleton.1 h]; rfl, fun _ _ _ _ h => by injection h, ?_, ?_⟩
          · rw [take_one _ _ (by omega)]; rfl
          · rw [overRows_length (by simp; omega), List.length_append]; omega
        simp only [go_sem, take_one (L.length + 1 - i) zentry (by omega)]
        refine cw_le (le_shrink (id := 1000) (L.length + 1) (by simp only [go_sem]; exact rfl)) ?_
        simp only [go_sem, ins_room L Z i zentry hil hZ2]
        refine cw_ret ⟨_, _, (by simp only [go_sem]; try exact rfl), by simp [go_sem], _, .inr (.inl rfl), ?_⟩
        refine ⟨1000, ?_, ?_⟩
        · simp [go_sem]
        · rfl
      · simp at h
end La

namespace La
open Go Go.Eng Go.Proofs
set_option maxRecDepth 10000
set_option linter.unusedSimpArgs false
set_option linter.unusedVariables false

theorem putN_length (l : List Node) (n : Node) : (putN l n).length ≤ l.length + 1 := by
  unfold putN
  split
  · simp
  · have := placeOf_le l n.fid
    simp; omega

theorem rowFree {rows : List (List AV)} (h : ∀ id, (rows.all fun row => row.all fun x => !(refs x).contains id) = true) : ∀ row, row ∈ rows → ∀ x, x ∈ row → refs x = [] := fun row hr x hx => by
  refine List.eq_nil_iff_forall_not_mem.2 fun id hid => ?_
  have := List.all_eq_true.1 (List.all_eq_true.1 (h id) row hr) x hx
  rw [Bool.not_eq_true', List.contains_eq_mem, decide_eq_false_iff_not] at this
  exact this hid

theorem ins_free {L : List (List AV)} {i : Nat} {z : List AV} (h : ∀ id, (L.all fun row => row.all fun x => !(refs x).contains id) = true) (hz : ∀ x, x ∈ z → refs x = []) : ∀ row, row ∈ L.take i ++ z :: L.drop i → ∀ x, x ∈ row → refs x = [] := fun row hr x hx => by
  rcases List.mem_append.1 hr with h1 | h1
  · exact rowFree h row (List.mem_of_mem_take h1) x hx
  · rcases List.mem_cons.1 h1 with rfl | h1
    · exact hz x hx
    · exact rowFree h row (List.mem_of_mem_drop h1) x hx

theorem nodeRow_nil1 (l : List Node) : (l.map nodeRow).map (fun row => row.map nil1) = l.map nodeRow := by
  rw [List.map_map]; rfl
theorem entryRow_nil1 (l : List Entry) : (l.map entryRow).map (fun row => row.map nil1) = l.map entryRow := by
  rw [List.map_map]; rfl

theorem node_insertR (l : List Node) (i : Nat) (hi : i ≤ l.length) (hlen : l.length ≤ 100000000) :
    FnOK Try.prog 88 [.osl 1000 5 0 l.length, .int .i64 i, .osl 22 5 0 1] [(22, .cells 46 5 [[.int .i64 0, .bool false, .nils, .nils, .int .i64 0]]), (1000, .cells 46 5 (l.map nodeRow))]
      (fun r H => r = .osl 7 5 0 (l.length + 1) ∧ ∀ i' b, hget [(7, .cells 46 5 ((l.take i ++ zeroN :: l.drop i).map nodeRow))] i' = some b → hget H i' = some b) := by
  have hL : (l.map nodeRow).length = l.length := List.length_map ..
  have := FnOK.renum (rows' := (l.take i ++ zeroN :: l.drop i).map nodeRow) 7 (node_insert (l.map nodeRow) i (by omega) (by omega) (nodeRow_rowsOf l) (nodeRow_leaf l) (fun id => nodeRow_noRef id l)) (by
    rw [List.map_append, List.map_cons, List.map_append, List.map_cons, ← List.map_take, ← List.map_drop, nodeRow_nil1, nodeRow_nil1]; rfl) (ins_free (fun id => nodeRow_noRef id l) (by decide))
  rw [hL] at this
  exact this

theorem nodeRow_set (M : List Node) (i : Nat) (n : Node) : (M.map nodeRow).set i (nodeRow n) = (M.set i n).map nodeRow := by rw [List.map_set]

theorem nodeRow_at {M : List Node} {i : Nat} (h : i < M.length) : (M.map nodeRow).getD i [] = [.int .i64 (M.getD i default).fid, .bool (M.getD i default).dir, .sl ((M.getD i default).data.map byteRow), .sl ((M.getD i default).entries.map entryRow), .int .i64 (M.getD i default).version] := by
  rw [Fam.getD h]; rfl

theorem put_ok (l : List Node) (n : Node) (hl : Small l) (hn : n.Small) : FnOK Try.prog 32 [.sl (l.map nodeRow), .agg (nodeRow n)] [] (fun r _ => r = .sl ((putN l n).map nodeRow)) := by
  have hlen := hl.len
  refine fn_of_cwW tabOK (Go.Proofs.Try.func32) rfl (fun C => ?_)
  simp only [Go.Proofs.Try.ntmps32, Go.Proofs.Try.results32, go_sem]
  refine cw_go tabOK 99 (by simp only [go_sem, nodeRow]; try exact rfl) ?_ ?_
  · simp
  refine cw_freeze 3 rfl (rfl) ?_
  simp only [go_sem]
  refine cw_callG [] 977 rfl rfl (by simp only [go_sem]; try exact rfl) (by simp [go_sem]) ⟨_, Go.Proofs.Try.func86, by kernel_rfl, rfl⟩ (by simp only [go_sem, Bool.false_or, Bool.or_true, Bool.true_or, if_true]; try exact rfl) (own_okH l hl) (by simp [go_sem]) (by simp [go_sem]) (by simp [go_sem]) (by simp only [go_sem]) (by simp [go_sem]) (by simp only [go_sem, Bool.false_or, Bool.or_true, Bool.true_or, Bool.or_false, ↓reduceIte]; exact rfl) ?_
  refine cw_go tabOK 99 (by simp only [go_sem]; try exact rfl) (by simp [go_sem]) ?_
  refine cw_view rfl rfl (by simp only [go_sem]; try exact rfl) (by simp [go_sem]) (by simp only [go_sem]; try exact rfl) (by simp [go_sem]) ⟨_, Go.Proofs.Try.func87, by kernel_rfl, rfl⟩ (where_ok l n.fid hlen) (by simp [go_sem]) (by simp only [go_sem]; exact rfl) ?_
  refine cw_go tabOK 99 (by simp only [go_sem]; try exact rfl) (by simp [go_sem]) ?_
  have hple := placeOf_le l n.fid
  refine cw_cond (by simp only [go_sem]; try exact rfl) trivial (fun h => ?_) (fun h => ?_)
  · have hat : isAt l n.fid = false := by simpa using h
    refine cw_go tabOK 99 (by simp only [go_sem]; try exact rfl) (by simp [go_sem]) ?_
    refine cw_callG [1000, 22] 200 rfl rfl (by simp only [go_sem]; try exact rfl) (by simp [go_sem]) ⟨_, Go.Proofs.Try.func88, by kernel_rfl, rfl⟩ (by simp only [go_sem, Bool.false_or, Bool.or_true, Bool.true_or, if_true]; try exact rfl) (node_insertR l (placeOf l n.fid) hple hlen) (by simp [go_sem]) (by simp [go_sem]) (by simp [go_sem]) (by simp only [go_sem]) (by simp [go_sem]) (by simp only [go_sem, Bool.false_or, Bool.or_true, Bool.true_or, Bool.or_false, ↓reduceIte]; exact rfl) ?_
    have hM : (l.take (placeOf l n.fid) ++ zeroN :: l.drop (placeOf l n.fid)).length = l.length + 1 := by simp; omega
    have hS : (l.take (placeOf l n.fid) ++ zeroN :: l.drop (placeOf l n.fid)).set (placeOf l n.fid) n = putN l n := by
      unfold putN
      rw [hat, if_neg (by simp), List.set_append_right _ _ (by rw [List.length_take]; omega), List.length_take, Nat.min_eq_left hple, Nat.sub_self]; rfl
    have hpl : placeOf l n.fid < l.length + 1 := by omega
    generalize l.take (placeOf l n.fid) ++ zeroN :: l.drop (placeOf l n.fid) = M at *
    have hlt : placeOf l n.fid < (M).length := by omega
    have hg := nodeRow_at hlt
    have hq : ((M).map nodeRow).set (placeOf l n.fid) [.int .i64 n.fid, .bool n.dir, .sl (n.data.map byteRow), .sl (n.entries.map entryRow), .int .i64 n.version] = (putN l n).map nodeRow := by
      rw [← hS, ← nodeRow_set]; rfl
    refine cw_go tabOK 99 (by simp only [go_sem, nodeRow]; try exact rfl) ?_ ?_
    · simp [nodeRow]
    refine cw_freeze 27 rfl (rfl) ?_
    simp only [go_sem]
    refine cw_call rfl rfl (by simp only [go_sem]; try exact rfl) (by simp [go_sem]) ⟨_, Go.Proofs.Try.func86, by kernel_rfl, rfl⟩ (by simp [go_sem]) (own_ok [n] ⟨by simp, fun x hx => by rw [List.mem_singleton.1 hx]; exact hn⟩) (by simp [go_sem]) (by simp only [go_sem]; exact rfl) ?_
    refine cw_goR 99 (by simp only [go_sem]; try exact rfl) ?_
    refine cw_runN tabOK 2 (by simp only [go_sem]; exact rfl) (by simp only [go_sem]; exact rfl) (by simp only [go_sem, nodeRow]; try exact rfl) (by simp [go_sem, nodeRow]) ?_
    refine cw_runN tabOK 1 (by simp only [go_sem]; exact rfl) (by simp only [go_sem]; exact rfl) (by simp only [go_sem, nodeRow]; try exact rfl) ?_ ?_
    · simp [nodeRow, hpl, hM]
    refine cw_runN tabOK 1 (by simp only [go_sem]; exact rfl) (by simp only [go_sem]; exact rfl) (by simp only [go_sem, nodeRow]; try exact rfl) ?_ ?_
    · exact ⟨by simp, hlt⟩
    simp only [go_sem, hg, hq]
    refine cw_go tabOK 99 (by simp only [go_sem]; try exact rfl) (by simp [go_sem]) ?_
    refine cw_freeze 207 rfl (nodeRow_pure _) ?_
    simp only [go_sem]
    refine cw_ret ⟨_, _, (by simp only [go_sem]; try exact rfl), by simp [go_sem], _, .inr (.inl rfl), ?_⟩
    rw [if_pos (by rw [← hS, List.length_set]; omega), List.take_of_length_le (by rw [List.length_map, ← hS, List.length_set]; omega)]
  · have hat : isAt l n.fid = true := by simpa using h
    have hpl : placeOf l n.fid < l.length := by
      unfold isAt at hat
      rw [Bool.and_eq_true] at hat
      exact of_decide_eq_true hat.1
    have hS : l.set (placeOf l n.fid) n = putN l n := by
      unfold putN
      rw [hat, if_pos rfl]
    have hlt : placeOf l n.fid < (l).length := by omega
    have hg := nodeRow_at hlt
    have hq : ((l).map nodeRow).set (placeOf l n.fid) [.int .i64 n.fid, .bool n.dir, .sl (n.data.map byteRow), .sl (n.entries.map entryRow), .int .i64 n.version] = (putN l n).map nodeRow := by
      rw [← hS, ← nodeRow_set]; rfl
    refine cw_go tabOK 99 (by simp only [go_sem, nodeRow]; try exact rfl) ?_ ?_
    · simp [nodeRow]
    refine cw_freeze 27 rfl (rfl) ?_
    simp only [go_sem]
    refine cw_call rfl rfl (by simp only [go_sem]; try exact rfl) (by simp [go_sem]) ⟨_, Go.Proofs.Try.func86, by kernel_rfl, rfl⟩ (by simp [go_sem]) (own_ok [n] ⟨by simp, fun x hx => by rw [List.mem_singleton.1 hx]; exact hn⟩) (by simp [go_sem]) (by simp only [go_sem]; exact rfl) ?_
    refine cw_goR 99 (by simp only [go_sem]; try exact rfl) ?_
    refine cw_runN tabOK 2 (by simp only [go_sem]; exact rfl) (by simp only [go_sem]; exact rfl) (by simp only [go_sem, nodeRow]; try exact rfl) (by simp [go_sem, nodeRow]) ?_
    refine cw_runN tabOK 1 (by simp only [go_sem]; exact rfl) (by simp only [go_sem]; exact rfl) (by simp only [go_sem, nodeRow]; try exact rfl) ?_ ?_
    · simp [nodeRow, hpl, hple]
    refine cw_runN tabOK 1 (by simp only [go_sem]; exact rfl) (by simp only [go_sem]; exact rfl) (by simp only [go_sem, nodeRow]; try exact rfl) ?_ ?_
    · exact ⟨by simp, hlt⟩
    simp only [go_sem, hg, hq]
    refine cw_go tabOK 99 (by simp only [go_sem]; try exact rfl) (by simp [go_sem]) ?_
    refine cw_freeze 1000 rfl (nodeRow_pure _) ?_
    simp only [go_sem]
    refine cw_ret ⟨_, _, (by simp only [go_sem]; try exact rfl), by simp [go_sem], _, .inr (.inl rfl), ?_⟩
    rw [if_pos (by rw [← hS, List.length_set]; omega), List.take_of_length_le (by rw [List.length_map, ← hS, List.length_set]; omega)]
end La

namespace La
open Go Go.Eng Go.Proofs

theorem idxI_any {α : Type} {p : α → Bool} (l : List α) : decide (idxI (l.findIdx? p) ≥ 0) = l.any p := by
  cases h : l.findIdx? p with
  | none =>
    rw [List.findIdx?_eq_none_iff] at h
    have : l.any p = false := by rw [List.any_eq_false]; intro x hx; simp [h x hx]
    rw [this]; rfl
  | some k =>
    have : l.any p = true := by
      obtain ⟨hk, h1, _⟩ := List.findIdx?_eq_some_iff_getElem.1 h
      exact List.any_eq_true.2 ⟨_, List.getElem_mem hk, h1⟩
    rw [this]
    simp [idxI]

/-- a view of closures hands on what they hold -/
theorem viewL_pure : ∀ {l : List AV}, (l.all AV.pureB) = true → ∃ q, (∀ h, viewL h l = some (q, l)) ∧ q
  | [], _ => ⟨True, fun _ => rfl, trivial⟩
  | x :: r, hp => by
    simp only [List.all_cons, Bool.and_eq_true] at hp
    obtain ⟨q, h1, h2⟩ := viewL_pure hp.2
    have hx : ∀ h, view h x = some (True, x) := fun h => by
      cases x with
      | osl => cases hp.1
      | ptr => cases hp.1
      | mp => cases hp.1
      | fn => cases hp.1
      | agg => cases hp.1
      | any => cases hp.1
      | tup => cases hp.1
      | cnd => cases hp.1
      | exs => cases hp.1
      | _ => rfl
    exact ⟨True ∧ q, fun h => by simp only [viewL, hx, h1], trivial, h2⟩

theorem refsL_pure : ∀ {l : List AV}, (l.all AV.pureB) = true → refsL l = []
  | [], _ => rfl
  | x :: r, hp => by
    simp only [List.all_cons, Bool.and_eq_true] at hp
    have hx : refs x = [] := by cases x <;> first | rfl | cases hp.1
    simp only [refsL, hx, refsL_pure hp.2, List.append_nil]

theorem filter_split {α : Type} {l : List α} {p : α → Bool} {j : Nat} (h : l.findIdx? p = some j) : (l.take (j + 1)).filter (fun x => !p x) = l.take j := by
  obtain ⟨hk, h1, h2⟩ := List.findIdx?_eq_some_iff_getElem.1 h
  rw [List.take_succ_eq_append_getElem hk, List.filter_append]
  have e1 : (l.take j).filter (fun x => !p x) = l.take j := List.filter_eq_self.2 fun x hx => by
    obtain ⟨i, hi⟩ := List.getElem?_of_mem hx
    rw [List.getElem?_take] at hi
    split at hi
    · rename_i hij
      have := h2 i hij
      have e : l[i]? = some l[i] := List.getElem?_eq_getElem (by omega)
      rw [e] at hi; injection hi with hi
      rw [← hi]; simpa using this
    · cases hi
  rw [e1]
  simp [h1]
/-- where DeleteFunc's second loop is: 'j' looked at, what stays is ahead -/
structure DelInv {α : Type} (p : α → Bool) (l : List α) (j : Nat) (L : List α) : Prop where
  le : j ≤ l.length
  len : L.length = l.length
  drop : L.drop j = l.drop j
  take : L.take ((l.take j).filter fun x => !p x).length = (l.take j).filter fun x => !p x
  lt : ((l.take j).filter fun x => !p x).length < j

theorem DelInv.start {α : Type} {p : α → Bool} {l : List α} {k : Nat} (h : l.findIdx? p = some k) : DelInv p l (k + 1) l := by
  have hk : k < l.length := (List.findIdx?_eq_some_iff_getElem.1 h).1
  have e := filter_split h
  have el : (l.take k).length = k := by simp; omega
  refine ⟨hk, rfl, rfl, ?_, ?_⟩
  · rw [e, el]
  · rw [e, el]; omega

theorem DelInv.get {α : Type} [Inhabited α] {p : α → Bool} {l L : List α} {j : Nat} (h : DelInv p l j L) (hj : j < l.length) : L.getD j default = l.getD j default := by
  have := h.drop
  rw [drop_getD hj, drop_getD (show j < L.length by rw [h.len]; exact hj)] at this
  injection this

theorem DelInv.skip {α : Type} [Inhabited α] {p : α → Bool} {l L : List α} {j : Nat} (h : DelInv p l j L) (hj : j < l.length) (hp : p (l.getD j default) = true) : DelInv p l (j + 1) L := by
  have e : (l.take (j + 1)).filter (fun x => !p x) = (l.take j).filter fun x => !p x := by
    rw [take_succ_getD hj, List.filter_append]; simp only [List.filter_cons, hp, List.filter_nil, Bool.not_true, Bool.false_eq_true, if_false, List.append_nil]
  refine ⟨hj, h.len, ?_, ?_, ?_⟩
  · rw [← List.drop_drop, ← List.drop_drop, h.drop]
  · rw [e]; exact h.take
  · rw [e]; have := h.lt; omega

theorem DelInv.keep {α : Type} [Inhabited α] {p : α → Bool} {l L : List α} {j : Nat} (h : DelInv p l j L) (hj : j < l.length) (hp : p (l.getD j default) = false) :
    DelInv p l (j + 1) (L.set ((l.take j).filter fun x => !p x).length (l.getD j default)) ∧ ((l.take (j + 1)).filter fun x => !p x).length = ((l.take j).filter fun x => !p x).length + 1 := by
  have e : (l.take (j + 1)).filter (fun x => !p x) = (l.take j).filter (fun x => !p x) ++ [l.getD j default] := by
    rw [take_succ_getD hj, List.filter_append]; simp only [List.filter_cons, hp, List.filter_nil, Bool.not_false, if_true]
  have hlt := h.lt
  have hlen := h.len
  have htk := h.take
  generalize hd : (l.take j).filter (fun x => !p x) = d at *
  refine ⟨⟨hj, by simp [hlen], ?_, ?_, ?_⟩, by rw [e]; simp⟩
  · have : (L.set d.length (l.getD j default)).drop (j + 1) = L.drop (j + 1) := by
      rw [List.drop_set]; rw [if_pos (by omega)]
    rw [this, ← List.drop_drop, ← List.drop_drop, h.drop]
  · rw [e]
    simp only [List.length_append, List.length_cons, List.length_nil, Nat.zero_add]
    rw [List.take_succ_eq_append_getElem (by simp; omega), List.take_set_of_le (Nat.le_refl _), htk]
    simp
  · rw [e]; simp; omega

theorem DelInv.fin {α : Type} {p : α → Bool} {l L : List α} (h : DelInv p l l.length L) : L.take (l.filter fun x => !p x).length = l.filter fun x => !p x := by
  have := h.take
  rwa [List.take_length] at this

theorem set_map {α : Type} (f : α → List AV) (l : List α) (i : Nat) (x : α) : (l.map f).set i (f x) = (l.set i x).map f := by rw [List.map_set]
theorem clear_rows {α : Type} (f : α → List AV) {L : List α} {d : List α} (z : List AV) (h : L.take d.length = d) (hd : d.length ≤ L.length) :
    overRows (L.map f) d.length (List.replicate (L.length - d.length) z) = d.map f ++ List.replicate (L.length - d.length) z := by
  unfold overRows
  rw [← List.map_take, h, List.drop_eq_nil_of_le (by simp; omega), List.append_nil]
@[go_sem, simp] theorem refsB_append (e s : Nat) (a b : List (List AV)) : Eng.refsB (.cells e s (a ++ b)) = Eng.refsB (.cells e s a) ++ Eng.refsB (.cells e s b) := by
  simp only [Eng.refsB, List.flatMap_append]
@[go_sem, simp] theorem refsB_rep (e s n : Nat) (z : List AV) (h : refsL z = []) : Eng.refsB (.cells e s (List.replicate n z)) = [] := by
  simp only [Eng.refsB]
  induction n with
  | zero => rfl
  | succ n ih => simp only [List.replicate_succ, List.flatMap_cons, h, ih, List.append_nil]
attribute [go_sem] List.map_append List.map_replicate
theorem take_app {α : Type} {a b : List α} {n : Nat} (h : n = a.length) : (a ++ b).take n = a := by subst h; simp
theorem rep_pure (n : Nat) {z : List AV} (h : (z.all AV.pureB) = true) : ((List.replicate n z).all fun row => row.all AV.pureB) = true := by
  rw [List.all_eq_true]
  intro row hr
  rw [(List.mem_replicate.1 hr).2]
  exact h
end La

namespace La
open Go

/-- texts' order -/
theorem less_iff : ∀ (a b : List UInt8), Op.bytesLess a b = decide (a < b)
  | [], [] => by simp [Op.bytesLess]
  | [], _ :: _ => by simp [Op.bytesLess]
  | _ :: _, [] => by simp [Op.bytesLess]
  | p :: a, q :: b => by
    unfold Op.bytesLess
    rw [less_iff a b, Bool.eq_iff_iff]
    simp only [Bool.or_eq_true, decide_eq_true_eq, Bool.and_eq_true, beq_iff_eq, List.cons_lt_cons_iff]
theorem sirr (a : List UInt8) : ¬ a < a := List.lt_irrefl a
theorem strans {a b c : List UInt8} (h : a < b) (k : b < c) : a < c := List.lt_trans h k
theorem stri {a b : List UInt8} (h : ¬ a < b) (k : ¬ b < a) : a = b := List.le_antisymm (List.not_lt.1 k) (List.not_lt.1 h)

def eltAt (l : List Entry) (s : List UInt8) (i : Nat) : Bool := decide ((l.getD i default).name < s)
def eplace (l : List Entry) (s : List UInt8) : Nat := bsearch (eltAt l s) l.length 0 l.length
def isE (l : List Entry) (s : List UInt8) : Bool := decide (eplace l s < l.length) && decide ((l.getD (eplace l s) default).name = s)
def entryN (n : Node) (s : List UInt8) : Option Int := if isE n.entries s then some (n.entries.getD (eplace n.entries s) default).fid else none
def enterE (l : List Entry) (s : List UInt8) (f : Int) : List Entry := if isE l s then l.set (eplace l s) ⟨s, f⟩ else l.take (eplace l s) ++ ⟨s, f⟩ :: l.drop (eplace l s)
def leaveE (l : List Entry) (s : List UInt8) : List Entry := l.filter fun e => !(e.name == s)
def enterN (n : Node) (s : List UInt8) (f : Int) : Node := { n with entries := enterE n.entries s f }
def leaveN (n : Node) (s : List UInt8) : Node := { n with entries := leaveE n.entries s }

theorem eplace_le (l : List Entry) (s : List UInt8) : eplace l s ≤ l.length := (bsearch_le _ _ _ _ (Nat.zero_le _)).2

/-- names rise -/
def EUp (l : List Entry) : Prop := l.Pairwise fun a b => a.name < b.name

theorem EUp.lt {l : List Entry} (h : EUp l) {i j : Nat} (hij : i < j) (hj : j < l.length) : (l.getD i default).name < (l.getD j default).name := by
  have := List.pairwise_iff_getElem.1 h i j (by omega) hj hij
  rw [List.getD_eq_getElem?_getD, List.getD_eq_getElem?_getD, List.getElem?_eq_getElem (by omega), List.getElem?_eq_getElem hj]
  exact this

theorem EUp.place {l : List Entry} (h : EUp l) (s : List UInt8) : (∀ i, i < eplace l s → (l.getD i default).name < s) ∧ ∀ i, eplace l s ≤ i → i < l.length → ¬ (l.getD i default).name < s := by
  have := bsearch_spec (eltAt l s) l.length (fun i j hij hj hl => by
    rcases Nat.lt_or_eq_of_le hij with h1 | rfl
    · exact decide_eq_true (strans (h.lt h1 hj) (of_decide_eq_true hl))
    · exact hl) l.length 0 l.length (by omega) (by omega) (Nat.le_refl _) (fun i hi => by omega) (fun i h1 h2 => by omega)
  obtain ⟨_, h2, h3⟩ := this
  exact ⟨fun i hi => of_decide_eq_true (h2 i hi), fun i hi hl => of_decide_eq_false (h3 i hi hl)⟩

theorem egetD_of {l : List Entry} {x : Entry} {i : Nat} (h : l[i]? = some x) : l.getD i default = x := by rw [List.getD_eq_getElem?_getD, h]; rfl

theorem isE_iff {l : List Entry} (h : EUp l) (s : List UInt8) : isE l s = true ↔ ∃ e, e ∈ l ∧ e.name = s := by
  obtain ⟨p1, p2⟩ := h.place s
  unfold isE
  rw [Bool.and_eq_true, decide_eq_true_eq, decide_eq_true_eq]
  constructor
  · rintro ⟨h1, h2⟩; exact ⟨_, getD_mem h1, h2⟩
  · rintro ⟨e, he, rfl⟩
    obtain ⟨i, hi⟩ := List.getElem?_of_mem he
    have hil : i < l.length := (List.getElem?_eq_some_iff.1 hi).1
    have hix := egetD_of hi
    have hpi : eplace l e.name = i := by
      rcases Nat.lt_trichotomy (eplace l e.name) i with h1 | h1 | h1
      · have := p2 _ (Nat.le_refl _) (by omega)
        have h3 := h.lt h1 hil
        rw [hix] at h3
        exact absurd h3 this
      · exact h1
      · have := p1 i h1
        rw [hix] at this
        exact absurd this (sirr _)
    rw [hpi, hix]
    exact ⟨hil, rfl⟩

/-- what is before the place is lower, what is from it on is higher, if the name isn't there -/
theorem EUp.parts {l : List Entry} (h : EUp l) {s : List UInt8} (hs : isE l s = false) : (∀ e, e ∈ l.take (eplace l s) → e.name < s) ∧ ∀ e, e ∈ l.drop (eplace l s) → s < e.name := by
  obtain ⟨p1, p2⟩ := h.place s
  refine ⟨fun e he => ?_, fun e he => ?_⟩
  · obtain ⟨i, hi⟩ := List.getElem?_of_mem he
    rw [List.getElem?_take] at hi
    split at hi
    · rename_i hip
      have := p1 i hip
      rwa [egetD_of hi] at this
    · cases hi
  · obtain ⟨i, hi⟩ := List.getElem?_of_mem he
    rw [List.getElem?_drop] at hi
    have h1 := p2 (eplace l s + i) (by omega) (List.getElem?_eq_some_iff.1 hi).1
    rw [egetD_of hi] at h1
    by_cases h2 : s < e.name
    · exact h2
    · have h3 := stri h1 h2
      have : isE l s = true := (isE_iff h s).2 ⟨e, List.mem_of_getElem? hi, h3⟩
      rw [hs] at this; cases this

theorem enterE_up {l : List Entry} (h : EUp l) {s : List UInt8} (hs : isE l s = false) (f : Int) : EUp (enterE l s f) ∧ (∀ e, e ∈ enterE l s f ↔ e = ⟨s, f⟩ ∨ e ∈ l) ∧ leaveE (enterE l s f) s = l := by
  obtain ⟨h1, h2⟩ := h.parts hs
  unfold enterE leaveE
  rw [hs, if_neg (by simp)]
  generalize eplace l s = p at *
  have hmem : ∀ x, x ∈ l ↔ x ∈ l.take p ∨ x ∈ l.drop p := fun x => by
    have := List.mem_append (a := x) (s := l.take p) (t := l.drop p)
    rw [List.take_append_drop] at this
    exact this
  refine ⟨?_, fun e => ?_, ?_⟩
  · refine List.pairwise_append.2 ⟨h.sublist (List.take_sublist _ _), List.pairwise_cons.2 ⟨h2, h.sublist (List.drop_sublist _ _)⟩, fun a ha b hb => ?_⟩
    rcases List.mem_cons.1 hb with rfl | hb
    · exact h1 a ha
    · exact strans (h1 a ha) (h2 b hb)
  · rw [hmem, List.mem_append, List.mem_cons]
    constructor
    · rintro (h | h | h)
      · exact .inr (.inl h)
      · exact .inl h
      · exact .inr (.inr h)
    · rintro (h | h | h)
      · exact .inr (.inl h)
      · exact .inl h
      · exact .inr (.inr h)
  · rw [List.filter_append, List.filter_cons, List.filter_eq_self.2 (fun e he => ?_), List.filter_eq_self.2 (fun e he => ?_)]
    · simp
    · have : e.name ≠ s := by rintro rfl; exact sirr _ (h2 e he)
      simpa using this
    · have : e.name ≠ s := by rintro rfl; exact sirr _ (h1 e he)
      simpa using this

theorem EUp.same {l : List Entry} (h : EUp l) {a b : Entry} (ha : a ∈ l) (hb : b ∈ l) (hn : a.name = b.name) : a = b := by
  obtain ⟨i, hi⟩ := List.getElem?_of_mem ha
  obtain ⟨j, hj⟩ := List.getElem?_of_mem hb
  have hil := (List.getElem?_eq_some_iff.1 hi).1
  have hjl := (List.getElem?_eq_some_iff.1 hj).1
  rcases Nat.lt_trichotomy i j with h1 | h1 | h1
  · have := h.lt h1 hjl
    rw [egetD_of hi, egetD_of hj, hn] at this
    exact absurd this (sirr _)
  · subst h1
    rw [hi] at hj; injection hj
  · have := h.lt h1 hil
    rw [egetD_of hi, egetD_of hj, hn] at this
    exact absurd this (sirr _)

theorem entryN_some {n : Node} (h : EUp n.entries) {s : List UInt8} {f : Int} : entryN n s = some f ↔ ⟨s, f⟩ ∈ n.entries := by
  unfold entryN
  constructor
  · intro hf
    split at hf
    · rename_i hc
      unfold isE at hc
      rw [Bool.and_eq_true, decide_eq_true_eq, decide_eq_true_eq] at hc
      have := getD_mem hc.1
      injection hf with hf
      have e : n.entries.getD (eplace n.entries s) default = ⟨s, f⟩ := by
        cases h0 : n.entries.getD (eplace n.entries s) default with
        | mk a b => rw [h0] at hf hc; simp only at hf hc; rw [← hf, ← hc.2]
      rw [← e]; exact this
    · cases hf
  · intro hm
    have hi := (isE_iff h s).2 ⟨_, hm, rfl⟩
    rw [if_pos hi]
    unfold isE at hi
    rw [Bool.and_eq_true, decide_eq_true_eq, decide_eq_true_eq] at hi
    have := h.same (getD_mem hi.1) hm hi.2
    rw [this]
theorem entryN_none {n : Node} (h : EUp n.entries) {s : List UInt8} : entryN n s = none ↔ ∀ e, e ∈ n.entries → e.name ≠ s := by
  unfold entryN
  constructor
  · intro hf e he hn
    rw [if_pos ((isE_iff h s).2 ⟨e, he, hn⟩)] at hf; cases hf
  · intro hn
    rw [if_neg]
    intro hi
    obtain ⟨e, he, h1⟩ := (isE_iff h s).1 hi
    exact hn e he h1

/-! ### What the law TreeEnters asks -/
theorem enters_leads {n : Node} (h : EUp n.entries) {s : List UInt8} (hs : isE n.entries s = false) (f : Int) : entryN (enterN n s f) s = some f := by
  obtain ⟨h1, h2, _⟩ := enterE_up h hs f
  exact (entryN_some (n := enterN n s f) h1).2 ((h2 _).2 (.inl rfl))
theorem enters_leaves {n : Node} (h : EUp n.entries) {s : List UInt8} (hs : isE n.entries s = false) (f : Int) : leaveN (enterN n s f) s = n := by
  unfold leaveN enterN
  simp only
  rw [(enterE_up h hs f).2.2]
end La

namespace La
open Go Go.Eng

structure Kept where
  node : Node
  dirty : Bool
  worth : Int
  last : Int
deriving DecidableEq, Inhabited
structure Verdict where
  err : Int
  fid : Int
deriving DecidableEq, Inhabited
structure Past where
  client : Int
  act : Act
deriving DecidableEq, Inhabited

def keptRow (k : Kept) : List AV := [.int .i64 k.node.fid, .bool k.node.dir, .sl (k.node.data.map byteRow), .sl (k.node.entries.map entryRow), .int .i64 k.node.version, .bool k.dirty, .int .i64 k.worth, .int .i64 k.last]
def strRow (s : List UInt8) : List AV := [.str s]
def verdictRow (v : Verdict) : List AV := [.int .i64 v.err, .int .i64 v.fid]
def pastRow (p : Past) : List AV := [.int .i64 p.client, .int .i64 p.act.kind, .int .i64 p.act.fid, .int .i64 p.act.dir, .str p.act.name, .int .i64 p.act.to, .str p.act.toName, .sl (p.act.data.map byteRow)]
theorem fam_keptRow : Fam keptRow 8 := ⟨fun _ => rfl, fun _ => rfl, fun _ => rfl, fun _ => rfl⟩
@[go_sem, simp] theorem keptRow_rowsOf (l : List _) : Eng.rowsOf 8 (l.map keptRow) := fam_keptRow.rowsOf l
@[go_sem, simp] theorem keptRow_leaf (l : List _) : ((l.map keptRow).all fun row => row.all AV.leaf) = true := fam_keptRow.allLeaf l
@[go_sem, simp] theorem keptRow_pure (l : List _) : ((l.map keptRow).all fun row => row.all AV.pureB) = true := fam_keptRow.allPure l
@[go_sem, simp] theorem keptRow_noRef (id : Nat) (l : List _) : ((l.map keptRow).all fun row => row.all fun x => !(refs x).contains id) = true := fam_keptRow.noRef id l
@[go_sem, simp] theorem keptRow_refsB (e s : Nat) (l : List _) : refsB (.cells e s (l.map keptRow)) = [] := fam_keptRow.refsB e s l
@[go_sem, simp] theorem keptRow_renL (off : Nat) (l : List _) : (l.map keptRow).map (renL off) = l.map keptRow := Fam.renL (fun _ _ => rfl) off l
@[go_sem, simp] theorem keptRow_frzL (id s : Nat) (rows : List (List AV)) (l : List _) : (l.map keptRow).map (frzL id s rows) = l.map keptRow := Fam.frzL (fun _ _ _ _ => rfl) id s rows l
@[go_sem, simp] theorem keptRow_refsL (a) : refsL (keptRow a) = [] := fam_keptRow.free a
theorem fam_verdictRow : Fam verdictRow 2 := ⟨fun _ => rfl, fun _ => rfl, fun _ => rfl, fun _ => rfl⟩
@[go_sem, simp] theorem verdictRow_rowsOf (l : List _) : Eng.rowsOf 2 (l.map verdictRow) := fam_verdictRow.rowsOf l
@[go_sem, simp] theorem verdictRow_leaf (l : List _) : ((l.map verdictRow).all fun row => row.all AV.leaf) = true := fam_verdictRow.allLeaf l
@[go_sem, simp] theorem verdictRow_pure (l : List _) : ((l.map verdictRow).all fun row => row.all AV.pureB) = true := fam_verdictRow.allPure l
@[go_sem, simp] theorem verdictRow_noRef (id : Nat) (l : List _) : ((l.map verdictRow).all fun row => row.all fun x => !(refs x).contains id) = true := fam_verdictRow.noRef id l
@[go_sem, simp] theorem verdictRow_refsB (e s : Nat) (l : List _) : refsB (.cells e s (l.map verdictRow)) = [] := fam_verdictRow.refsB e s l
@[go_sem, simp] theorem verdictRow_renL (off : Nat) (l : List _) : (l.map verdictRow).map (renL off) = l.map verdictRow := Fam.renL (fun _ _ => rfl) off l
@[go_sem, simp] theorem verdictRow_frzL (id s : Nat) (rows : List (List AV)) (l : List _) : (l.map verdictRow).map (frzL id s rows) = l.map verdictRow := Fam.frzL (fun _ _ _ _ => rfl) id s rows l
@[go_sem, simp] theorem verdictRow_refsL (a) : refsL (verdictRow a) = [] := fam_verdictRow.free a
theorem fam_pastRow : Fam pastRow 8 := ⟨fun _ => rfl, fun _ => rfl, fun _ => rfl, fun _ => rfl⟩
@[go_sem, simp] theorem pastRow_rowsOf (l : List _) : Eng.rowsOf 8 (l.map pastRow) := fam_pastRow.rowsOf l
@[go_sem, simp] theorem pastRow_leaf (l : List _) : ((l.map pastRow).all fun row => row.all AV.leaf) = true := fam_pastRow.allLeaf l
@[go_sem, simp] theorem pastRow_pure (l : List _) : ((l.map pastRow).all fun row => row.all AV.pureB) = true := fam_pastRow.allPure l
@[go_sem, simp] theorem pastRow_noRef (id : Nat) (l : List _) : ((l.map pastRow).all fun row => row.all fun x => !(refs x).contains id) = true := fam_pastRow.noRef id l
@[go_sem, simp] theorem pastRow_refsB (e s : Nat) (l : List _) : refsB (.cells e s (l.map pastRow)) = [] := fam_pastRow.refsB e s l
@[go_sem, simp] theorem pastRow_renL (off : Nat) (l : List _) : (l.map pastRow).map (renL off) = l.map pastRow := Fam.renL (fun _ _ => rfl) off l
@[go_sem, simp] theorem pastRow_frzL (id s : Nat) (rows : List (List AV)) (l : List _) : (l.map pastRow).map (frzL id s rows) = l.map pastRow := Fam.frzL (fun _ _ _ _ => rfl) id s rows l
@[go_sem, simp] theorem pastRow_refsL (a) : refsL (pastRow a) = [] := fam_pastRow.free a
theorem fam_strRow : Fam strRow 1 := ⟨fun _ => rfl, fun _ => rfl, fun _ => rfl, fun _ => rfl⟩
@[go_sem, simp] theorem strRow_rowsOf (l : List _) : Eng.rowsOf 1 (l.map strRow) := fam_strRow.rowsOf l
@[go_sem, simp] theorem strRow_leaf (l : List _) : ((l.map strRow).all fun row => row.all AV.leaf) = true := fam_strRow.allLeaf l
@[go_sem, simp] theorem strRow_pure (l : List _) : ((l.map strRow).all fun row => row.all AV.pureB) = true := fam_strRow.allPure l
@[go_sem, simp] theorem strRow_noRef (id : Nat) (l : List _) : ((l.map strRow).all fun row => row.all fun x => !(refs x).contains id) = true := fam_strRow.noRef id l
@[go_sem, simp] theorem strRow_refsB (e s : Nat) (l : List _) : refsB (.cells e s (l.map strRow)) = [] := fam_strRow.refsB e s l
@[go_sem, simp] theorem strRow_renL (off : Nat) (l : List _) : (l.map strRow).map (renL off) = l.map strRow := Fam.renL (fun _ _ => rfl) off l
@[go_sem, simp] theorem strRow_frzL (id s : Nat) (rows : List (List AV)) (l : List _) : (l.map strRow).map (frzL id s rows) = l.map strRow := Fam.frzL (fun _ _ _ _ => rfl) id s rows l
@[go_sem, simp] theorem strRow_refsL (a) : refsL (strRow a) = [] := fam_strRow.free a
end La

namespace Go.Eng
section
variable {P : Program} {T : Tab} {C : Ctx} {μ : Nat → Option Nat} {S : Nat → Prop} {σ σ' : St} {a : Act} {w : World} {Ret : St → Prop} {k : List It}

/-- cells, one by one, by their fields' types -/
def eqT (T : Tab) : List TypeId → List AV → List AV → Option Bool
  | [], [], [] => some true
  | t :: ts, .int k x :: a, .int k' y :: b => match T.und t with
    | .int _ => if k = k' then (eqT T ts a b).map fun r => x == y && r else none
    | _ => none
  | t :: ts, .bool x :: a, .bool y :: b => match T.und t with
    | .bool => (eqT T ts a b).map fun r => x == y && r
    | _ => none
  | t :: ts, .str x :: a, .str y :: b => match T.und t with
    | .str => (eqT T ts a b).map fun r => x == y && r
    | _ => none
  | _, _, _ => none

def fieldsAre : List Field → Nat → List TypeId → Bool
  | [], _, [] => true
  | f :: fs, j, t :: ts => f.name != "_" && f.offset == j && f.type == t && fieldsAre fs (j + 1) ts
  | _, _, _ => false

/-- a struct whose fields are of these types, one cell each -/
def eqStruct (P : Program) (t : TypeId) (tys : List TypeId) : Bool :=
  match P.underlying t with
  | some (.struct F) => !P.stoodInHeld t && !P.eqGuardType P.depth t && fieldsAre F.toList 0 tys
  | _ => false

theorem run_eqFields (hT : TabOK P T) {xs ys : Array Value} {A B : List AV} (hsx : xs.size = A.length) (hsy : ys.size = B.length) (hx : ∀ j x, A[j]? = some x → Rd μ S w (xs.getD j undef) x) (hy : ∀ j x, B[j]? = some x → Rd μ S w (ys.getD j undef) x) (d : Nat) :
    ∀ (fs : List Field) (j : Nat) (ts : List TypeId) (r : Bool), fieldsAre fs j ts = true → eqT T ts (A.drop j) (B.drop j) = some r → (Op.eqFields (d + 1) xs ys fs).run P w = .ok r w := by
  intro fs
  induction fs with
  | nil =>
    intro j ts r h he
    cases ts with
    | nil =>
      cases hA : A.drop j <;> cases hB : B.drop j <;> rw [hA, hB] at he <;> simp only [eqT, Option.some.injEq, reduceCtorEq] at he
      subst he
      simp [Op.eqFields]
    | cons t ts => simp [fieldsAre] at h
  | cons f fs ih =>
    intro j ts r h he
    cases ts with
    | nil => simp [fieldsAre] at h
    | cons t ts =>
      simp only [fieldsAre, Bool.and_eq_true, bne_iff_ne, ne_eq, beq_iff_eq] at h
      obtain ⟨⟨⟨h1, h2⟩, h3⟩, h4⟩ := h
      subst h2 h3
      cases hA : A.drop f.offset with
      | nil => rw [hA] at he; cases hB : B.drop f.offset <;> rw [hB] at he <;> simp [eqT] at he
      | cons p A' =>
        cases hB : B.drop f.offset with
        | nil => rw [hA, hB] at he; cases p <;> simp [eqT] at he
        | cons q B' =>
          have hA1 : A[f.offset]? = some p := by have := congrArg (fun l => l[0]?) hA; simpa using this
          have hB1 : B[f.offset]? = some q := by have := congrArg (fun l => l[0]?) hB; simpa using this
          have hA2 : A.drop (f.offset + 1) = A' := by rw [← List.drop_drop, hA]; rfl
          have hB2 : B.drop (f.offset + 1) = B' := by rw [← List.drop_drop, hB]; rfl
          have hAl : f.offset < A.length := (List.getElem?_eq_some_iff.1 hA1).1
          have hBl : f.offset < B.length := (List.getElem?_eq_some_iff.1 hB1).1
          have hpx : ∀ b, (T.und f.type).isA = some b → b = false → (part f.type xs f.offset).run P w = .ok (xs.getD f.offset undef) w := fun b hb hf => by
            subst hf
            simp [part, isAgg_of hT hb, hsx, hAl, Array.getD_eq_getD_getElem?]
          have hpy : ∀ b, (T.und f.type).isA = some b → b = false → (part f.type ys f.offset).run P w = .ok (ys.getD f.offset undef) w := fun b hb hf => by
            subst hf
            simp [part, isAgg_of hT hb, hsy, hBl, Array.getD_eq_getD_getElem?]
          have rx := hx _ _ hA1
          have ry := hy _ _ hB1
          have hk := hT.und f.type
          have ih' := fun r' he' => ih (f.offset + 1) ts r' h4 he'
          rw [hA2, hB2] at ih'
          rw [hA, hB] at he
          cases hu : T.und f.type <;> rw [hu] at hk <;> cases p <;> cases q <;> simp only [eqT, hu, reduceCtorEq] at he
          · obtain ⟨r0, h0, rfl⟩ := Option.map_eq_some_iff.1 he
            have e1 := rx.inv_bool
            have e2 := ry.inv_bool
            simp only [Op.eqFields, h1, not_false_eq_true, if_true, ne_eq, Sem.run_bind, hpx false (by rw [hu]; rfl) rfl, hpy false (by rw [hu]; rfl) rfl, Result.andThen_ok, e1, e2, run_equalIn_bool' w d f.type _ _ hk]
            rename_i b1 b2
            cases hb : (b1 == b2)
            · simp
            · simp [ih' r0 h0]
          · split at he
            · rename_i hkk
              obtain ⟨r0, h0, rfl⟩ := Option.map_eq_some_iff.1 he
              have e1 := rx.inv_int
              have e2 := ry.inv_int
              subst hkk
              simp only [Op.eqFields, h1, not_false_eq_true, if_true, ne_eq, Sem.run_bind, hpx false (by rw [hu]; rfl) rfl, hpy false (by rw [hu]; rfl) rfl, Result.andThen_ok, e1, e2, run_equalIn_int w d f.type _ _ _ _ hk]
              rename_i b1 b2 
              cases hb : (b1 == b2)
              · simp
              · simp [ih' r0 h0]
            · cases he
          · obtain ⟨r0, h0, rfl⟩ := Option.map_eq_some_iff.1 he
            obtain ⟨s1, e1, q1⟩ := rx.inv_str
            obtain ⟨s2, e2, q2⟩ := ry.inv_str
            subst q1 q2
            simp only [Op.eqFields, h1, not_false_eq_true, if_true, ne_eq, Sem.run_bind, hpx false (by rw [hu]; rfl) rfl, hpy false (by rw [hu]; rfl) rfl, Result.andThen_ok, e1, e2, run_equalIn_string w d f.type _ _ hk, ByteArray.toList_eq]
            cases hb : (s1.data.toList == s2.data.toList)
            · simp
            · simp [ih' r0 h0]

theorem sound_eqS (hT : TabOK P T) {t : TypeId} {tys : List TypeId} (hc : eqStruct P t tys = true) {ox oy : Operand} {v u : Value} {A B : List AV} {r : Bool} (h : eqT T tys A B = some r) (hv : Rd μ S w v (.agg A)) (hu : Rd μ S w u (.agg B)) {op : BinOp} {q : Bool} (hop : (op = .eql ∧ q = r) ∨ (op = .neq ∧ q = !r)) :
    (do eqGuard op t ox oy v u; binOp op t v u : Sem Value).run P w = .ok (.bool q) w := by
  obtain ⟨xs, rfl, hxl, hxr⟩ := hv.inv_agg
  obtain ⟨ys, rfl, hyl, hyr⟩ := hu.inv_agg
  unfold eqStruct at hc
  split at hc
  · rename_i F hF
    simp only [Bool.and_eq_true, Bool.not_eq_true'] at hc
    obtain ⟨⟨h1, h2⟩, h3⟩ := hc
    have hfo : P.fieldsOf t = F := by simp [Program.fieldsOf, hF]
    have key := run_eqFields (P := P) (w := w) hT hxl hyl hxr hyr 9998 F.toList 0 tys r h3 (by simpa using h)
    have key2 : (Op.equalIn 10000 t (.agg xs) (.agg ys)).run P w = .ok r w := by
      rw [run_equalIn_struct w 9999 t xs ys (by rw [hfo]; exact hF) h1, hfo]
      exact key
    rcases hop with ⟨rfl, rfl⟩ | ⟨rfl, rfl⟩
    · simp [run_eqGuard_agg w .eql t ox oy xs ys h2, run_eql_struct w t xs ys, key2]
    · simp [run_eqGuard_agg w .neq t ox oy xs ys h2, run_neq_struct w t xs ys, key2]
  · cases hc

/-- TWO STRUCTS ARE COMPARED. -/
theorem trip_eqS (hT : TabOK P T) {o : Oper} {op : BinOp} {t ty : TypeId} {x y : Operand} (ho : o.op = .binOp op t x y ty) {tys : List TypeId} (hc : eqStruct P t tys = true) {A B : List AV} {r : Bool} (hx : evS σ x = (True, .agg A)) (hy : evS σ y = (True, .agg B)) (h : eqT T tys A B = some r)
    {q : Bool} (hop : (op = .eql ∧ q = r) ∨ (op = .neq ∧ q = !r)) : Trip P C o σ (σ.put o.dst (.bool q)) := by
  refine trip_value fun μ S a w hi => ?_
  have hv := hi.evS x (by rw [hx]; trivial)
  have hu := hi.evS y (by rw [hy]; trivial)
  rw [hx] at hv; rw [hy] at hu
  refine ⟨.bool q, ?_, .pure (.bool _)⟩
  have := sound_eqS (ox := x) (oy := y) hT hc h hv hu hop
  simp only [execOp, ho]
  have e : (do eqGuard op t x y (a.eval x) (a.eval y); binOp op t (a.eval x) (a.eval y) : Sem Value).run P w = .ok (.bool q) w := this
  simp only [Sem.run_bind] at e ⊢
  revert e
  generalize (eqGuard op t x y (a.eval x) (a.eval y)).run P w = z
  intro e
  rw [e]; rfl
attribute [go_sem] eqT
end
end Go.Eng

namespace Go.Eng
section
variable {P : Program} {T : Tab} {C : Ctx} {μ : Nat → Option Nat} {S : Nat → Prop} {σ σ' : St} {a : Act} {w w' : World} {Ret : St → Prop} {k : List It}

/-- what is read is the same -/
def SameRd (S : Nat → Prop) (w w' : World) : Prop := ∀ b, S b → (∀ off, w'.cell? ⟨b, off, none⟩ = w.cell? ⟨b, off, none⟩) ∧ ∀ es clk, w.heap[b]? = some (.map es clk) → w'.heap[b]? = some (.map es clk)

theorem RdP.read {v : Value} {x : AV} (h : RdP S w v x) (hw : SameRd S w w') : RdP S w' v x := by
  induction h with
  | int k n => exact .int k n
  | bool b => exact .bool b
  | str s l h => exact .str s l h
  | nilp => exact .nilp
  | nili => exact .nili
  | ifc t p => exact .ifc t p
  | nils => exact .nils
  | nilm => exact .nilm
  | sl A len cap rows size g off vals hl hc hsz hA hcell hr ih =>
    refine .sl A len cap rows size g off vals hl hc hsz hA (fun i j hi hj => ?_) ih
    rw [(hw g (hA (by omega)).2).1]
    exact hcell i j hi hj
  | rp g o off cells vals hS hcell hr ih =>
    refine .rp g o off cells vals hS (fun j hj => ?_) ih
    rw [(hw g hS).1]
    exact hcell j hj
  | rm g es clk kvs vals hS hg hm hr ih => exact .rm g es clk kvs vals hS ((hw g hS).2 es clk hg) hm ih
  | fn f vals caps hl hr ih => exact .fn f vals caps hl ih
  | agg cs cells hl hr ih => exact .agg cs cells hl ih

theorem Rd.read {v : Value} {x : AV} (h : Rd μ S w v x) (hw : SameRd S w w') (hz : ∀ id g, μ id = some g → rowSize w' g = rowSize w g) : Rd μ S w' v x := by
  induction h with
  | any v => exact .any v
  | pure h => exact .pure (h.read hw)
  | agg cs cells hl hr ih => exact .agg cs cells hl ih
  | tup vs xs hl hr ih => exact .tup vs xs hl ih
  | fn f vals caps hl hr ih => exact .fn f vals caps hl ih
  | ptr id size row off g hg => exact .ptr id size row off g hg
  | osl id size off len cap A hc h =>
    refine .osl id size off len cap A hc ?_
    rcases h with h | ⟨g, e, n, h1, h2, h3, h4⟩
    · exact .inl h
    · exact .inr ⟨g, e, n, h1, h2, (hz _ _ h1).trans h3, h4⟩
  | mp id g hg => exact .mp id g hg
  | exs id size off len cap g e n hc hg hr hn => exact .exs id size off len cap g e n hc hg ((hz _ _ hg).trans hr) hn
  | cndT v x h ih => exact .cndT v x ih
  | cndF x => exact .cndF x

theorem BlkOK.read {id : Nat} {b : Blk} (h : BlkOK μ S w id b) (hw : SameRd S w w') (hb : ∀ id g, μ id = some g → w'.heap[g]? = w.heap[g]?) : BlkOK μ S w' id b := by
  have hz : ∀ id g, μ id = some g → rowSize w' g = rowSize w g := fun id g h => rowSize_same (hb id g h)
  cases b with
  | cells e s rows =>
    rcases h with ⟨h1, h2⟩ | ⟨g, c, h1, h2, h3, h4, h5⟩
    · exact .inl ⟨h1, h2⟩
    · exact .inr ⟨g, c, h1, (hb _ _ h1).trans h2, h3, h4, fun i row hi j x hj => (h5 i row hi j x hj).read hw hz⟩
  | map kvs =>
    obtain ⟨g, es, clk, vals, h1, h2, h3, h4⟩ := h
    exact ⟨g, es, clk, vals, h1, (hb _ _ h1).trans h2, h3, fun p hi => (h4 p hi).read hw⟩
  | iter kvs seen =>
    obtain ⟨g, es, clk, vals, had, h1, h2, h4⟩ := h
    obtain ⟨m, k1, k2, k3⟩ := h2.lies
    exact ⟨g, es, clk, vals, had, h1, ⟨⟨m, (hb _ _ h1).trans k1, k2, (hw m k2).2 _ _ k3⟩, h2.map, h2.last, h2.had⟩, fun p hi => (h4 p hi).read hw⟩
  | cap id' s N =>
    obtain ⟨h1, g, e, h2, h3⟩ := h
    exact ⟨h1, g, e, h2, (hz _ _ h2).trans h3⟩
  | pin id' g t n =>
    obtain ⟨h1, h2, h3⟩ := h
    exact ⟨h1, h2, (hz _ _ h2).trans h3⟩

/-- a block of ours that is read alone bears a mark -/
theorem Inv.mark (hi : Inv C μ S σ a w) {g : Nat} {c : Array Value} {e : TypeId} {f f' : Nat × Nat} (hA : C.A0 g ∨ C.w0.heap.size ≤ g) (hg : w.heap[g]? = some (.cells c e f)) (hno : ∀ id, μ id ≠ some g)
    (hos : w'.os = w.os) (htp : w'.tape = w.tape) (hout : w'.output = w.output) (hsz : w'.heap.size = w.heap.size) (hne : ∀ b, b ≠ g → w'.heap[b]? = w.heap[b]?) (hg' : w'.heap[g]? = some (.cells c e f')) : Inv C μ S σ a w' := by
  have hw : SameRd S w w' := fun b hb => by
    by_cases h : b = g
    · subst h
      refine ⟨fun off => ?_, fun es clk h => ?_⟩
      · rw [cell_of hg', cell_of hg]
      · rw [hg] at h; cases h
    · refine ⟨fun off => cell_same (hne b h), fun es clk h1 => ?_⟩
      rw [hne b h]; exact h1
  have hb : ∀ id q, μ id = some q → w'.heap[q]? = w.heap[q]? := fun id q h => hne q (by rintro rfl; exact hno id h)
  refine ⟨hi.size, hi.defers, fun t x hx => (hi.tm t x hx).read hw (fun id q h => rowSize_same (hb id q h)), fun id b h => (hi.hp id b h).read hw hb, fun id q h => ?_, hi.inj, ?_, fun b hb => ?_⟩
  · obtain ⟨h1, h2, h3, h4⟩ := hi.dom id q h
    exact ⟨h1, h2, h3, by omega⟩
  · exact hi.frm.step (fun b => b = g) ⟨hos, htp, hout, by omega, fun b _ h => hne b h⟩ (fun b h => by rw [h]; exact hA)
  · have := hi.sb b hb
    exact ⟨by omega, this.2⟩

/-- THE BYTES OF A CONSTANT TEXT: the block is written no more. -/
theorem trip_bytes (hT : TabOK P T) {o : Oper} {t e : TypeId} {x : Operand} (ho : o.op = .convert t t x) (ht : T.und t = .sl e) (he : T.und e = .int .u8) {id e' n : Nat} {rows : List (List AV)} (hx : evS σ x = (True, .osl id 1 0 n)) (hb : hget σ.hp id = some (.cells e' 1 rows)) (hn : 0 < n) (hl : rows.length = n)
    (hp : (rows.all fun row => row.all AV.pureB) = true) : Trip P C o σ (St.put ⟨σ.tm.map (frz id 1 rows), frzH id 1 rows σ.hp⟩ o.dst (.sl rows)) := by
  intro a w K Q ⟨μ, S, hi⟩ hK
  have hv := hi.evS x (by rw [hx]; trivial)
  rw [hx] at hv
  have hfz := inv_freeze hb hp hi
  have hA0 := hi.hp id _ hb
  obtain ⟨A, cap, hv', hc, hor⟩ := hv.inv_osl
  have hty : P.underlying t = some (.slice e) := by have := hT.und t; rw [ht] at this; exact this
  have hte : P.underlying e = some (.int .u8) := by have := hT.und e; rw [he] at this; exact this
  rcases hor with ⟨h1, _⟩ | ⟨g, e2, m, h1, rfl, h3, h4⟩
  · omega
  rcases hA0 with ⟨rfl, _⟩ | ⟨g', c, k1, k2, k3, k4, k5⟩
  · simp at hl; omega
  rw [h1] at k1; injection k1 with k1; subst k1
  have hdom := hi.dom id g h1
  have hsh : w.shape? g = some (e', c.size) := by unfold World.shape?; rw [k2]
  have hlt : g < w.heap.size := hdom.2.2.2
  obtain ⟨w1, hw1, q1, q2, q3, q4, q5, q6⟩ : ∃ w1, w.freeze ⟨g, c.size, none⟩ 1 = w1 ∧ w1.os = w.os ∧ w1.tape = w.tape ∧ w1.output = w.output ∧ w1.heap.size = w.heap.size ∧ (∀ b, b ≠ g → w1.heap[b]? = w.heap[b]?) ∧ w1.heap[g]? = some (.cells c e' (c.size, c.size + 1)) := by
    refine ⟨_, rfl, ?_⟩
    unfold World.freeze
    rw [if_neg (by decide)]
    refine ⟨rfl, rfl, rfl, by simp, fun b hb => ?_, ?_⟩
    · simp [Array.getElem?_modify, Ne.symm hb]
    · have hgl := k2
      simp only [Array.getElem?_modify, if_true, hgl]
      rfl
  have hrun : (convert t t (.slice (some ⟨g, 0, none⟩) n cap)).run P w = .ok (.slice (some ⟨g, 0, none⟩) n cap) w1 := by
    simp [convert, run_underlying hty, run_underlying hte, markStringish, hsh, hw1]
  have e1 : a.eval x = .slice (some ⟨g, 0, none⟩) n cap := by rw [hv']
  have hex : (execOp a.eval o).run P w = .ok (.value (.slice (some ⟨g, 0, none⟩) n cap)) w1 := by
    simp only [execOp, ho, e1, Sem.run_bind, hrun]
    rfl
  have hmk := hfz.mark (w' := w1) hdom.2.1 k2 (fun i h => by
    unfold upd at h
    split at h
    · cases h
    · rename_i hne; exact hne (hi.inj _ _ _ h h1)) q1 q2 q3 q4 q5 q6
  unfold Oper.wp
  rw [hex]
  refine hK _ _ ⟨_, _, hmk.put o.dst (.pure ?_)⟩
  refine .sl _ n cap rows 1 g 0 (fun i j => c.getD (i * 1 + j) undef) hl hc k4 (fun _ => ⟨rfl, .inr h1⟩) (fun i j hi' hj => ?_) (fun i row hi' j y hy => ?_)
  · have hj0 : j = 0 := by omega
    subst hj0
    rw [cell_of q6, Array.getD_eq_getD_getElem?, Array.getElem?_eq_getElem (by omega)]
    simp [Array.getElem?_eq_getElem (show i < c.size by omega)]
  · have hpy := List.all_eq_true.1 (List.all_eq_true.1 hp row (List.mem_of_getElem? hi')) y (List.mem_of_getElem? hy)
    have h0 := ((k5 i row hi' j y hy).toP hpy).mono (SameOn.refl _ _) (S' := fun b => S b ∨ μ id = some b) (fun _ h => .inl h)
    refine h0.read fun b hb => ?_
    by_cases hbg : b = g
    · subst hbg
      exact ⟨fun off => by rw [cell_of q6, cell_of k2], fun es clk h => by rw [k2] at h; cases h⟩
    · exact ⟨fun off => cell_same (q5 b hbg), fun es clk h => by rw [q5 b hbg]; exact h⟩
end
end Go.Eng

namespace Go.Eng
section
variable {P : Program} {T : Tab} {C : Ctx} {μ : Nat → Option Nat} {S : Nat → Prop} {σ σ' : St} {Ret : St → Prop} {k : List It}

/-- where what is handed over lies -/
def pins (ids : List Nat) (G Y N : Nat → Nat) : List (Nat × Blk) := ids.map fun i => (5000 + i, .pin i (G i) (Y i) (N i))

theorem hget_pins (G Y N : Nat → Nat) (i : Nat) : ∀ (ids : List Nat), hget (pins ids G Y N) i = if 5000 ≤ i ∧ ids.contains (i - 5000) = true then some (.pin (i - 5000) (G (i - 5000)) (Y (i - 5000)) (N (i - 5000))) else none
  | [] => by simp [pins, hget]
  | j :: r => by
    have ih := hget_pins G Y N i r
    simp only [pins, List.map_cons, hget] at ih ⊢
    by_cases e : 5000 + j = i
    · subst e
      rw [if_pos rfl, if_pos ⟨by omega, by rw [Nat.add_sub_cancel_left]; simp⟩, Nat.add_sub_cancel_left]
    · rw [if_neg e, ih]
      by_cases h : 5000 ≤ i
      · have hne : i - 5000 ≠ j := by omega
        simp only [h, true_and, List.contains_cons]
        simp [hne]
      · rw [if_neg (fun hh => h hh.1), if_neg (fun hh => h hh.1)]

theorem hget_hsetAll (i : Nat) : ∀ (K H : List (Nat × Blk)), (K.map (·.1)).Nodup → hget (hsetAll H K) i = if (hget K i).isSome = true then hget K i else hget H i
  | [], H, _ => by simp [hsetAll, hget]
  | (j, b) :: r, H, hn => by
    simp only [List.map_cons, List.nodup_cons] at hn
    simp only [hsetAll, hget]
    rw [hget_hsetAll i r _ hn.2, hget_hset]
    by_cases e : j = i
    · subst e
      have h0 : hget r j = none := by
        cases h : hget r j with
        | none => rfl
        | some c => exact absurd (List.mem_map.2 ⟨_, hget_mem h, rfl⟩) hn.1
      simp [h0]
    · simp [e]

/-- what may be pinned: rows of cells, or a map -/
def pinnable : Blk → Bool
  | .cells _ s rows => !rows.isEmpty && s != 0
  | .map _ => true
  | _ => false

theorem pin_of {w : World} {id : Nat} {b : Blk} (h : BlkOK μ S w id b) (hp : pinnable b = true) : ∃ g t n, μ id = some g ∧ rowSize w g = pinS t n := by
  cases b with
  | cells e s rows =>
    simp only [pinnable, Bool.and_eq_true, Bool.not_eq_true', List.isEmpty_eq_false_iff, bne_iff_ne] at hp
    rcases h with ⟨rfl, _⟩ | ⟨g, c, h1, h2, h3, _⟩
    · exact absurd rfl hp.1
    · refine ⟨g, e, c.size, h1, ?_⟩
      have hpos : 0 < rows.length := by
        rcases Nat.eq_zero_or_pos rows.length with h | h
        · exact absurd (List.eq_nil_of_length_eq_zero h) hp.1
        · exact h
      have : 0 < rows.length * s := Nat.mul_pos hpos (Nat.pos_of_ne_zero hp.2)
      unfold rowSize pinS
      rw [h2, if_neg (by omega)]; rfl
  | map kvs =>
    obtain ⟨g, es, clk, vals, h1, h2, _⟩ := h
    refine ⟨g, 0, 0, h1, ?_⟩
    unfold rowSize pinS
    rw [h2]; rfl
  | iter kvs seen => cases hp
  | cap id s N => cases hp
  | pin id g t n => cases hp

/-- A CALL THAT TURNS WHAT 'ids' NAME IN ITS PLACE. -/
theorem trip_callP {o : Oper} {c : Operand} {args : Array Operand} {ats : Array TypeId} (ho : o.op = .call { callee := .value c, args, argTypes := ats }) {p : Prop} {f : FuncId} {xs : List AV}
    (h : callArgs σ c args.toList = some (p, f, xs)) (hp : p) (hc : Callable P f) (ids : List Nat) {H K : List (Nat × Blk)} {r : AV} (hH : sub ids σ.hp = H)
    (hck : ((refsL xs).all ids.contains && (refs r).all ids.contains && ids.all (fun i => decide (i < 5000) && (hget K i).isSome) && K.all (fun q => ids.contains q.1)) = true) (hnd : (K.map (·.1)).Nodup)
    (hpin : (ids.all fun i => match hget H i with | some b => pinnable b | none => false) = true) (hc1 : (H.all fun q => (refsB q.2).all ids.contains) = true) (hc2 : (K.all fun q => (refsB q.2).all ids.contains) = true)
    (hf : ∀ G Y N : Nat → Nat, FnOK P f xs (H ++ pins ids G Y N) fun r' H' => r' = r ∧ ∀ i b, hget (K ++ pins ids G Y N) i = some b → hget H' i = some b) {τ : St} (hτ : (⟨σ.tm, hsetAll σ.hp K⟩ : St).put o.dst r = τ) : Trip P C o σ τ := by
  subst hH hτ
  simp only [Bool.and_eq_true] at hck
  obtain ⟨⟨⟨hx, hr⟩, hi1⟩, hK1⟩ := hck
  have hxr : ∀ i, i ∈ refsL xs → ids.contains i = true := fun i h => List.all_eq_true.1 hx i h
  have hrr : ∀ i, i ∈ refs r → ids.contains i = true := fun i h => List.all_eq_true.1 hr i h
  have hid : ∀ i, ids.contains i = true → i < 5000 ∧ ∃ b, hget K i = some b := fun i h => by
    have := List.all_eq_true.1 hi1 i (by simpa using h)
    rw [Bool.and_eq_true, decide_eq_true_eq] at this
    exact ⟨this.1, Option.isSome_iff_exists.1 this.2⟩
  have hKi : ∀ i b, hget K i = some b → ids.contains i = true := fun i b h => List.all_eq_true.1 hK1 _ (hget_mem h)
  intro a w Kp Q ⟨μ, S, hi⟩ hKp
  obtain ⟨vs, h1, h2, h3⟩ := exec_call hi ho h hp hc
  unfold Oper.wp
  rw [h3]
  have hpn : ∀ i, ∃ g t n, ids.contains i = true → μ i = some g ∧ rowSize w g = pinS t n := fun i => by
    by_cases e : ids.contains i = true
    · have := List.all_eq_true.1 hpin i (by simpa using e)
      cases e2 : hget (sub ids σ.hp) i with
      | none => rw [e2] at this; cases this
      | some b =>
        rw [e2] at this
        have e3 : hget σ.hp i = some b := by
          rw [hget_sub, if_pos e] at e2; exact e2
        obtain ⟨g, t, n, k1, k2⟩ := pin_of (hi.hp i b e3) this
        exact ⟨g, t, n, fun _ => ⟨k1, k2⟩⟩
    · exact ⟨0, 0, 0, fun h => absurd h e⟩
  let G : Nat → Nat := fun i => Classical.choose (hpn i)
  let Y : Nat → Nat := fun i => Classical.choose (Classical.choose_spec (hpn i))
  let N : Nat → Nat := fun i => Classical.choose (Classical.choose_spec (Classical.choose_spec (hpn i)))
  have hg : ∀ i, ids.contains i = true → μ i = some (G i) ∧ rowSize w (G i) = pinS (Y i) (N i) := fun i => Classical.choose_spec (Classical.choose_spec (Classical.choose_spec (hpn i)))
  let μc : Nat → Option Nat := fun i => if ids.contains i then μ i else none
  have mc : ∀ {i g}, μc i = some g → ids.contains i = true ∧ μ i = some g := fun {i g} h => by
    simp only [μc] at h; split at h
    · exact ⟨by assumption, h⟩
    · cases h
  have mc' : ∀ {i}, ids.contains i = true → μc i = μ i := fun {i} h => by simp only [μc, h, if_true]
  have mcn : ∀ {i}, ids.contains i = false → μc i = none := fun {i} h => by simp only [μc, h, Bool.false_eq_true, if_false]
  have hsubk : ∀ i b, hget (sub ids σ.hp) i = some b → ids.contains i = true ∧ hget σ.hp i = some b := fun i b h => by
    rw [hget_sub] at h
    split at h
    · exact ⟨by assumption, h⟩
    · cases h
  refine (hf G Y N S μc w vs h1 (fun j x hj => (h2 j x hj).less fun id hid g hg => by rw [mc' (hxr id (refsL_mem hj hid))]; exact hg) ⟨fun id b hb => ?_, fun id g hg' => ?_, fun id id' g hg hg' => hi.inj id id' g (mc hg).2 (mc hg').2, hi.gok.sub fun i g h => ⟨i, (mc h).2⟩⟩ (fun b hb => (hi.sb b hb).1)).mono ?_
  · rw [hget_append] at hb
    split at hb
    · obtain ⟨q1, q2⟩ := hsubk id b hb
      have hall := List.all_eq_true.1 hc1 _ (hget_mem hb)
      exact (hi.hp id b q2).less (mc' q1) (fun i hi' g hg => by rw [mc' (List.all_eq_true.1 hall i hi')]; exact hg)
    · rw [hget_pins] at hb
      split at hb
      · rename_i hc5
        injection hb with hb
        subst hb
        have hno : ids.contains id = false := by
          cases e : ids.contains id with
          | false => rfl
          | true => have := (hid id e).1; omega
        exact ⟨mcn hno, by rw [mc' hc5.2]; exact (hg _ hc5.2).1, (hg _ hc5.2).2⟩
      · cases hb
  · obtain ⟨k1, k2⟩ := mc hg'
    obtain ⟨⟨b, j1⟩, _, j3⟩ := hi.dom id g k2
    refine ⟨⟨b, ?_⟩, j3⟩
    rw [hget_append, if_pos ⟨(id, b), hget_mem (by rw [hget_sub, if_pos k1]; exact j1), rfl⟩, hget_sub, if_pos k1]; exact j1
  rintro e w' ⟨v, r', H', μ', S', rfl, ⟨rfl, hKH⟩, k1, k2, k3, k4, k5⟩
  have hKget : ∀ i b, hget K i = some b → hget H' i = some b := fun i b hb => hKH i b (by
    rw [hget_append, if_pos ⟨(i, b), hget_mem hb, rfl⟩]; exact hb)
  have hPget : ∀ i, ids.contains i = true → hget H' (5000 + i) = some (.pin i (G i) (Y i) (N i)) := fun i hi' => hKH _ _ (by
    rw [hget_append, if_neg (by
      rintro ⟨b, hb, hb2⟩
      have : ids.contains b.1 = true := List.all_eq_true.1 hK1 b hb
      have := (hid _ this).1
      omega), hget_pins, if_pos ⟨by omega, by rw [Nat.add_sub_cancel_left]; exact hi'⟩, Nat.add_sub_cancel_left])
  have hpin' : ∀ i, ids.contains i = true → μ' i = some (G i) ∧ rowSize w' (G i) = pinS (Y i) (N i) := fun i hi' => (k2.blk _ _ (hPget i hi')).2
  have hfr : Frm (fun g => ∃ id, μc id = some g) w w' := k3
  have hS : SameOn S w w' := fun b hb => hfr.block b (hi.sb b hb).1 (by rintro ⟨id, h⟩; exact (hi.dom id b (mc h).2).2.2.1 hb)
  have hO : ∀ i g, μ i = some g → ids.contains i = false → w'.heap[g]? = w.heap[g]? := fun i g hg hn => hfr.block g (hi.dom i g hg).2.2.2 (by
    rintro ⟨id, h⟩
    obtain ⟨q1, q2⟩ := mc h
    have := hi.inj _ _ _ hg q2
    subst this
    rw [q1] at hn; cases hn)
  have hz : ∀ i g, μ i = some g → rowSize w' g = rowSize w g := fun i g hg' => by
    cases e : ids.contains i with
    | false => exact rowSize_same (hO i g hg' e)
    | true =>
      obtain ⟨q1, q2⟩ := hg i e
      rw [hg'] at q1; injection q1 with q1
      rw [q1, (hpin' i e).2, q2]
  let S2 : Nat → Prop := fun b => S b ∨ S' b
  have hrd : ∀ {v x}, Rd μ S w v x → Rd μ S2 w' v x := fun hv => hv.mono hS (fun _ h => .inl h) (fun _ _ h => h) hz
  have inv : Inv C μ S2 ⟨σ.tm, hsetAll σ.hp K⟩ a w' := by
    refine ⟨hi.size, hi.defers, fun t x hx => hrd (hi.tm t x hx), fun i b hb => ?_, fun i g hg' => ?_, hi.inj, hi.frm.step _ hfr (fun g ⟨id, h⟩ => (hi.dom id g (mc h).2).2.1), fun b hb => ?_⟩
    · rw [hget_hsetAll i K σ.hp hnd] at hb
      split at hb
      · have hib := hKi i b hb
        have hB := k2.blk i b (hKget i b hb)
        have hall := List.all_eq_true.1 hc2 _ (hget_mem hb)
        have h1 : BlkOK μ S' w' i b := hB.less (by rw [(hg i hib).1, (hpin' i hib).1]) (fun j hj q hq => by
          have hjb := List.all_eq_true.1 hall j hj
          rw [(hpin' j hjb).1] at hq
          rw [(hg j hjb).1]; exact hq)
        exact h1.mono (SameOn.refl _ _) (fun _ h => .inr h) (fun _ _ h => h) (fun _ _ _ => rfl) (fun h => h) (fun _ _ => rfl)
      · rename_i hno
        have hib : ids.contains i = false := by
          cases e : ids.contains i with
          | false => rfl
          | true =>
            obtain ⟨_, c, hc'⟩ := hid i e
            rw [hc'] at hno
            exact absurd rfl hno
        exact (hi.hp i b hb).mono hS (fun _ h => .inl h) (fun _ _ h => h) hz (fun h => h) (fun g hg' => hO i g hg' hib)
    · obtain ⟨⟨b, j1⟩, j2, j3, j4⟩ := hi.dom i g hg'
      refine ⟨?_, j2, ?_, Nat.lt_of_lt_of_le j4 hfr.size⟩
      · rw [hget_hsetAll i K σ.hp hnd]
        split
        · rename_i hs
          exact Option.isSome_iff_exists.1 hs
        · exact ⟨b, j1⟩
      · rintro (h | h)
        · exact j3 h
        · cases e : ids.contains i with
          | true =>
            have := (hg i e).1
            rw [hg'] at this; injection this with this
            subst this
            exact (k2.dom i _ (hpin' i e).1).2.1 h
          | false =>
            rcases (k5 g h).2 with q | ⟨id, q⟩ | q
            · exact j3 q
            · obtain ⟨q1, q2⟩ := mc q
              have := hi.inj _ _ _ hg' q2
              subst this
              rw [q1] at e; cases e
            · omega
    · rcases hb with h | h
      · exact ⟨Nat.lt_of_lt_of_le (hi.sb b h).1 hfr.size, (hi.sb b h).2⟩
      · refine ⟨(k5 b h).1, ?_⟩
        rcases (k5 b h).2 with q | ⟨id, q⟩ | q
        · exact (hi.sb b q).2
        · rcases (hi.dom id b (mc q).2).2.1 with z | z
          · exact .inr (.inl z)
          · exact .inr (.inr z)
        · have := hi.frm.size
          exact .inr (.inr (by omega))
  refine hKp _ _ ⟨μ, S2, inv.put o.dst ?_⟩
  have h1 : Rd μ S' w' v r' := k1.less fun i hi' g hg' => by
    have hib := hrr i hi'
    rw [(hpin' i hib).1] at hg'
    rw [(hg i hib).1]; exact hg'
  exact h1.mono (SameOn.refl _ _) (fun _ h => .inr h) (fun _ _ h => h) (fun _ _ _ => rfl)

theorem partsS_agree {s : St} {t : TypeId} : ∀ {parts : List (Nat × Operand)}, (∀ q, q ∈ parts → evS s q.2 = evS σ q.2) → partsS T s t parts = partsS T σ t parts
  | [], _ => rfl
  | (j, o) :: r, h => by
    simp only [partsS]
    rw [h (j, o) (by simp), partsS_agree (fun q hq => h q (by simp [hq]))]

/-- A STRUCT IS BUILT IN A REGION THAT DRAWS. -/
theorem seg_build (hT : TabOK P T) {ops : Array Oper} {Q : Exit → Act → World → Prop} {k n : Nat} {acc : Skel} {o : Oper} {l : List Oper} {t : TypeId} {parts : Array (Nat × Operand)} (ho : o.op = .build t parts) {b : Bool} (hg : guardOf ops σ o.guard = some b)
    {p : Prop} {x : AV} (h : buildAV T σ t parts.toList = some (p, x)) (hp : b = true → p) {y : AV} (hy : (bif b then x else .cnd false x) = y)
    {sk : List Loc × List Loc} (hs : ((Sp.mk o.dst y [] (locsG ops o.guard ++ locsL σ (parts.toList.map (·.2)))).wr, locsG ops o.guard ++ locsL σ (parts.toList.map (·.2))) = sk) (ha : σ.put o.dst y = σ') (hk : SegFrom P C ops Q k n (acc ++ [sk]) l σ') : SegFrom P C ops Q k n acc (o :: l) σ := by
  refine seg_rob (rob_trip (x := y) (rd := locsL σ (parts.toList.map (·.2))) hg (by
    cases b
    · exact .inr ⟨x, hy.symm⟩
    · exact .inl rfl) (fun hb s hag => ?_)) rfl (by rw [← hs]) (by rw [← ha]; simp [Sp.app]) hk
  subst hb
  have hyx : x = y := hy
  subst hyx
  have hb2 : buildAV T s t parts.toList = some (p, x) := by
    rw [← h]
    unfold buildAV
    rw [partsS_agree (fun q hq => evS_agree fun z hz => hag z (locsL_mem (List.mem_map.2 ⟨q, hq, rfl⟩) z hz))]
  refine step_sound hT o (p := p) ?_ (hp rfl)
  rw [ho]
  simp only [stepOp, hb2, Option.map_some]
attribute [go_sem] pins pinnable
end
end Go.Eng

namespace Go.Eng
section
variable {P : Program} {T : Tab} {C : Ctx} {σ σ' : St} {Ret : St → Prop} {k : List It} {μ : Nat → Option Nat} {S : Nat → Prop} {a : Act} {w : World}

theorem Rd.inv_exs {v : Value} {id size off len cap : Nat} (h : Rd μ S w v (.exs id size off len cap)) : ∃ g e n, v = .slice (some ⟨g, off * size, none⟩) len cap ∧ len ≤ cap ∧ μ id = some g ∧ rowSize w g = some (e, n) ∧ (off + cap) * size = n := by
  cases h with
  | pure h => cases h
  | exs _ _ _ _ _ g e n hc hg hr hn => exact ⟨g, e, n, rfl, hc, hg, hr, hn⟩

/-- THE FIRST OF A SLICE, AND ALL ITS ROOM. -/
theorem trip_sliceX (hT : TabOK P T) {o : Oper} {x hi : Operand} {t e : TypeId} (ho : o.op = .slice t x none (some hi) none) (ht : T.und t = .sl e) {id s len h j N : Nat} (hx : evS σ x = (True, .osl id s 0 len)) (hh : evS σ hi = (True, .int .i64 (h : Nat)))
    (hcap : hget σ.hp j = some (.cap id s N)) (hN : h ≤ N) (h0 : 0 < len) (hs : T.siz e = s) (hs0 : s ≠ 0) : Trip P C o σ (σ.put o.dst (.exs id s 0 h N)) := by
  refine trip_value fun μ S a w hi' => ?_
  have hv := hi'.evS x (by rw [hx]; trivial)
  have hu := hi'.evS hi (by rw [hh]; trivial)
  rw [hx] at hv; rw [hh] at hu
  obtain ⟨A, cap, hv', hc, hor⟩ := hv.inv_osl
  have hu' := hu.inv_int
  have hty : P.underlying t = some (.slice e) := by have := hT.und t; rw [ht] at this; exact this
  rcases hor with ⟨h1, _⟩ | ⟨g, n, m, h1, hA, h3, h4⟩
  · omega
  · obtain ⟨_, g', e', k1, k2⟩ := hi'.hp j _ hcap
    rw [k1] at h1; injection h1 with h1; subst h1
    rw [h3] at k2
    simp only [Option.some.injEq, Prod.mk.injEq] at k2
    have hNc : 0 + cap = N := Nat.eq_of_mul_eq_mul_right (Nat.pos_of_ne_zero hs0) (h4.trans k2.2)
    rw [Nat.zero_add] at hNc
    subst hNc
    subst hA
    have hrun : (Instr.sliceAt t (.slice (some ⟨g', 0 * s, none⟩) len cap) none (some (.int .i64 (h : Nat))) none).run P w = .ok (.slice (some ⟨g', 0 * s, none⟩) h cap) w := by
      have hb := run_bounds (P := P) (w := w) true len cap 0 h none (some (.int .i64 (h : Nat))) (show BoundIs none 0 0 from rfl) (show BoundIs (some (.int .i64 (h : Nat))) len h from ⟨.i64, rfl⟩) (Nat.zero_le _) (by omega)
      by_cases hc0 : cap = 0
      · subst hc0
        simp [Instr.sliceAt, Instr.slice, run_underlying hty, hb, sizeOf_of hT (t := e) (by rw [hs]; exact hs0)]
      · simp [Instr.sliceAt, Instr.slice, run_underlying hty, hb, sizeOf_of hT (t := e) (by rw [hs]; exact hs0), hc0, Addr.add]
    refine ⟨.slice (some ⟨g', 0 * s, none⟩) h cap, ?_, .exs id s 0 h cap g' n m (by omega) k1 h3 h4⟩
    have e1 : a.eval x = .slice (some ⟨g', 0 * s, none⟩) len cap := hv'
    have e2 : a.eval hi = .int .i64 (h : Nat) := hu'
    simp only [execOp, ho, e1, Option.map_none, Option.map_some, e2, Sem.run_bind, hrun]
    rfl

/-- WHAT LIES BEHIND COMES AHEAD: append of a part of a block behind a part of the same one, where there is room. -/
theorem trip_appendIn (hT : TabOK P T) {o : Oper} {x y : Operand} {t e : TypeId} (ho : o.op = .call { callee := .builtin .append, args := #[x, y], argTypes := #[t, t] }) (ht : T.und t = .sl e)
    {id s i j m N e' : Nat} {R : List (List AV)} (hx : evS σ x = (True, .exs id s 0 i N)) (hy : evS σ y = (True, .osl id s j m)) (hb : hget σ.hp id = some (.cells e' s R)) (hj : j + m ≤ R.length) (hij : i + m ≤ R.length) (hN : i + m ≤ N)
    (hs : T.siz e = s) (hs0 : s ≠ 0) (hrl : rowsOf s R) (hlf' : rowsLeaf ((R.drop j).take m) = true) :
    Trip P C o σ (St.put ⟨σ.tm, hset σ.hp id (.cells e' s (overRows R i ((R.drop j).take m)))⟩ o.dst (.exs id s 0 (i + m) N)) := by
  subst hs
  intro a w K Q ⟨μ, S, hi⟩ hK
  have hv := hi.evS x (by rw [hx]; trivial)
  have hvy := hi.evS y (by rw [hy]; trivial)
  rw [hx] at hv; rw [hy] at hvy
  have hty : P.underlying t = some (.slice e) := by have := hT.und t; rw [ht] at this; exact this
  obtain ⟨g, e2, n, hv', hc, hg, h3, h4⟩ := hv.inv_exs
  have hrows : ((R.drop j).take m).length = m := by simp; omega
  have hrl' : rowsOf (T.siz e) ((R.drop j).take m) := fun row hr => hrl row (List.mem_of_mem_drop (List.mem_of_mem_take hr))
  obtain ⟨vs, hvs⟩ := src_of hi (x := .osl id (T.siz e) j m) (rows := (R.drop j).take m) (size := T.siz e) (by simp [srcRows, hb]) hvy hrl' (fun _ _ _ _ h => by injection h with _ _ _ h; rw [hrows, h])
  have hr := run_append_in (ty := o.type) (A := some ⟨g, 0 * T.siz e, none⟩) (len := i) (cap := N) hT hty hs0 hvs (by rw [hrows]; exact hN)
  rw [hrows] at hr
  obtain ⟨w', r1, r2⟩ := write_rows (P := P) hi (off := i) (new := (R.drop j).take m) (vs := vs) hb hg (by rw [hrows]; exact hij) hvs.len hrl' (vals_leaf hvs hlf') (fun i row hi j x hx => hvs.rd i row hi j x hx)
  have hfr : (execOp a.eval o).run P w = .ok (.value (.slice (some ⟨g, 0 * T.siz e, none⟩) (i + m) N)) w' := by
    have e1 : a.eval x = .slice (some ⟨g, 0 * T.siz e, none⟩) i N := hv'
    simp only [Nat.zero_mul, add_plain, Nat.zero_add, r1, Result.andThen_ok] at hr
    simp only [Nat.zero_mul] at e1 ⊢
    simp [execOp, ho, e1, resolve, invoke, builtin, hr]
  have he : evS ⟨σ.tm, hset σ.hp id (.cells e' (T.siz e) (overRows R i ((R.drop j).take m)))⟩ x = evS σ x := by cases x <;> rfl
  have hv2 := r2.evS x (by rw [he, hx]; trivial)
  rw [he, hx] at hv2
  obtain ⟨g2, e3, n2, hv3, _, hg2, h5, h6⟩ := hv2.inv_exs
  unfold Oper.wp
  rw [hfr]
  show K (a.put o.dst _) _
  rw [hg] at hg2; injection hg2 with hg2; subst hg2
  exact hK _ _ ⟨μ, S, Inv.put r2 o.dst (.exs id _ 0 (i + m) N g e3 n2 hN hg h5 h6)⟩

/-- A SLICE'S ROOM: whatever it is. -/
theorem cw_room (d : Nat) {id s off len e' : Nat} {rows : List (List AV)} {t : Nat} (hx : σ.tm.getD t .any = .osl id s off len) (hb : hget σ.hp id = some (.cells e' s rows)) (h0 : 0 < len) (hs : s ≠ 0) (hf : hget σ.hp d = none)
    (h : ∀ N : Nat, off + len ≤ N → rows.length ≤ N → Cw P C Ret k ⟨σ.tm, (d, .cap id s N) :: σ.hp⟩) : Cw P C Ret k σ := by
  intro a w ⟨μ, S, hi⟩
  have hlt : t < σ.tm.length := by
    by_cases h : t < σ.tm.length
    · exact h
    · rw [List.getD_eq_getElem?_getD, List.getElem?_eq_none (by omega)] at hx; cases hx
  have hv := hi.tm t (σ.tm.getD t .any) (by rw [List.getD_eq_getElem?_getD, List.getElem?_eq_getElem hlt]; rfl)
  rw [hx] at hv
  obtain ⟨A, cap, hv', hc, hor⟩ := hv.inv_osl
  rcases hor with ⟨h1, _⟩ | ⟨g, n, m, h1, _, h3, h4⟩
  · omega
  · have hle : rows.length ≤ off + cap := by
      rcases hi.hp id _ hb with ⟨rfl, _⟩ | ⟨g', c, k1, k2, k3, _⟩
      · simp
      · rw [k1] at h1; injection h1 with h1; subst h1
        rw [rowSize, k2] at h3
        simp only [Option.some.injEq, Prod.mk.injEq] at h3
        exact Nat.le_of_mul_le_mul_right (by rw [h4, ← h3.2]; exact k3) (Nat.pos_of_ne_zero hs)
    refine h (off + cap) (by omega) hle a w ⟨μ, S, hi.size, hi.defers, hi.tm, fun i b hb' => ?_, fun i q hq => ?_, hi.inj, hi.frm, hi.sb⟩
    · simp only [hget] at hb'
      split at hb'
      · rename_i hd
        injection hb' with hb'
        subst hd hb'
        exact ⟨hi.fresh hf, g, n, h1, by rw [h3, h4]⟩
      · exact hi.hp i b hb'
    · obtain ⟨⟨b, h1⟩, h2⟩ := hi.dom i q hq
      refine ⟨?_, h2⟩
      simp only [hget]
      split
      · exact ⟨_, rfl⟩
      · exact ⟨b, h1⟩

/-- A SLICE OF A SLICE, ITS ROOM BOUNDED: what it is is forgotten. -/
theorem trip_slice3 (hT : TabOK P T) {o : Oper} {x lo hi mx : Operand} {t e : TypeId} (ho : o.op = .slice t x (some lo) (some hi) (some mx)) (ht : T.und t = .sl e) {id s off len l h m : Nat} (hx : evS σ x = (True, .osl id s off len))
    (hl : evS σ lo = (True, .int .i64 (l : Nat))) (hh : evS σ hi = (True, .int .i64 (h : Nat))) (hm : evS σ mx = (True, .int .i64 (m : Nat))) (h1 : l ≤ h) (h2 : h ≤ m) (h3 : m ≤ len) (h0 : 0 < len) (hs : T.siz e = s) (hs0 : s ≠ 0) : Trip P C o σ (σ.put o.dst .any) := by
  refine trip_value fun μ S a w hi' => ?_
  have hv := hi'.evS x (by rw [hx]; trivial)
  have hu1 := hi'.evS lo (by rw [hl]; trivial)
  have hu2 := hi'.evS hi (by rw [hh]; trivial)
  have hu3 := hi'.evS mx (by rw [hm]; trivial)
  rw [hx] at hv; rw [hl] at hu1; rw [hh] at hu2; rw [hm] at hu3
  obtain ⟨A, cap, hv', hc, hor⟩ := hv.inv_osl
  have hty : P.underlying t = some (.slice e) := by have := hT.und t; rw [ht] at this; exact this
  rcases hor with ⟨h1, _⟩ | ⟨g, n, m', k1, hA, k3, k4⟩
  · omega
  · subst hA
    have hb : (Instr.sliceBounds true len cap (some (.int .i64 (l : Nat))) (some (.int .i64 (h : Nat))) (some (.int .i64 (m : Nat)))).run P w = .ok (l, h, m) w := by
      simp [Instr.sliceBounds, Instr.sliceBound, asIntOf, h1, h2, show m ≤ cap by omega]
    have e1 : a.eval x = .slice (some ⟨g, off * s, none⟩) len cap := hv'
    have e2 : a.eval lo = .int .i64 (l : Nat) := hu1.inv_int
    have e3 : a.eval hi = .int .i64 (h : Nat) := hu2.inv_int
    have e4 : a.eval mx = .int .i64 (m : Nat) := hu3.inv_int
    by_cases hml : m = l
    · subst hml
      exact ⟨.slice (some ⟨g, off * s, none⟩) (h - m) (m - m), by simp [execOp, ho, e1, e2, e3, e4, Instr.sliceAt, Instr.slice, run_underlying hty, hb, sizeOf_of hT (t := e) (by rw [hs]; exact hs0)], .any _⟩
    · exact ⟨.slice (some (Addr.add ⟨g, off * s, none⟩ (l * T.siz e))) (h - l) (m - l), by simp [execOp, ho, e1, e2, e3, e4, Instr.sliceAt, Instr.slice, run_underlying hty, hb, sizeOf_of hT (t := e) (by rw [hs]; exact hs0), hml], .any _⟩

/-- THE FIRST OF A SLICE, AND ALL ITS ROOM, IN A REGION THAT DRAWS. -/
theorem seg_sliceX (hT : TabOK P T) {ops : Array Oper} {Q : Exit → Act → World → Prop} {k n : Nat} {acc : Skel} {o : Oper} {L : List Oper} {x hi : Operand} {t e : TypeId} (ho : o.op = .slice t x none (some hi) none) (hgd : o.guard = none) (ht : T.und t = .sl e) {id s len h j N : Nat}
    (hx : evS σ x = (True, .osl id s 0 len)) (hh : evS σ hi = (True, .int .i64 (h : Nat))) (hcap : hget σ.hp j = some (.cap id s N)) (hN : h ≤ N) (h0 : 0 < len) (hs : T.siz e = s) (hs0 : s ≠ 0)
    {sk : List Loc × List Loc} (hsk : ((Sp.mk o.dst (.exs id s 0 h N) [] (locsL σ [x, hi] ++ [Loc.blk j])).wr, locsL σ [x, hi] ++ [Loc.blk j]) = sk) (ha : σ.put o.dst (.exs id s 0 h N) = σ') (hk : SegFrom P C ops Q k n (acc ++ [sk]) L σ') : SegFrom P C ops Q k n acc (o :: L) σ := by
  have hgd' : guardOf ops σ o.guard = some true := by rw [hgd]; rfl
  have key := rob_trip (P := P) (C := C) (o := o) (ops := ops) (x := .exs id s 0 h N) (rd := locsL σ [x, hi] ++ [Loc.blk j]) hgd' (.inl rfl) (fun _ s' hag => by
    have h1 : evS s' x = evS σ x := evS_agree fun z hz => hag z (by simp [locsL, hz])
    have h2 : evS s' hi = evS σ hi := evS_agree fun z hz => hag z (by simp [locsL, hz])
    have h3 : hget s'.hp j = hget σ.hp j := hag (Loc.blk j) (by simp)
    exact trip_sliceX hT ho ht (h1.trans hx) (h2.trans hh) (h3.trans hcap) hN h0 hs hs0)
  have e0 : locsG ops o.guard = [] := by rw [hgd]; rfl
  rw [e0, List.nil_append] at key
  exact seg_rob key rfl (by rw [← hsk]) (by rw [← ha]; simp [Sp.app]) hk

/-- A PART OF A SLICE, UP TO ITS ROOM. -/
theorem trip_sliceXX (hT : TabOK P T) {o : Oper} {x lo hi : Operand} {t e : TypeId} (ho : o.op = .slice t x (some lo) (some hi) none) (ht : T.und t = .sl e) {id s len cap l h : Nat} (hx : evS σ x = (True, .exs id s 0 len cap)) (hl : evS σ lo = (True, .int .i64 (l : Nat))) (hh : evS σ hi = (True, .int .i64 (h : Nat)))
    (h1 : l < h) (h2 : h ≤ cap) (hs : T.siz e = s) (hs0 : s ≠ 0) : Trip P C o σ (σ.put o.dst (.osl id s l (h - l))) := by
  refine trip_value fun μ S a w hi' => ?_
  have hv := hi'.evS x (by rw [hx]; trivial)
  have hu1 := hi'.evS lo (by rw [hl]; trivial)
  have hu2 := hi'.evS hi (by rw [hh]; trivial)
  rw [hx] at hv; rw [hl] at hu1; rw [hh] at hu2
  obtain ⟨g, n, m, hv', hc, k1, k3, k4⟩ := hv.inv_exs
  have hty : P.underlying t = some (.slice e) := by have := hT.und t; rw [ht] at this; exact this
  have hb := run_bounds (P := P) (w := w) true len cap l h (some (.int .i64 (l : Nat))) (some (.int .i64 (h : Nat))) (show BoundIs (some (.int .i64 (l : Nat))) 0 l from ⟨.i64, rfl⟩) (show BoundIs (some (.int .i64 (h : Nat))) len h from ⟨.i64, rfl⟩) (by omega) h2
  have e1 : a.eval x = .slice (some ⟨g, 0 * s, none⟩) len cap := hv'
  have e2 : a.eval lo = .int .i64 (l : Nat) := hu1.inv_int
  have e3 : a.eval hi = .int .i64 (h : Nat) := hu2.inv_int
  have hcl : cap ≠ l := by omega
  refine ⟨.slice (some (Addr.add ⟨g, 0 * s, none⟩ (l * s))) (h - l) (cap - l), by simp [execOp, ho, e1, e2, e3, Instr.sliceAt, Instr.slice, run_underlying hty, hb, sizeOf_of hT (t := e) (by rw [hs]; exact hs0), hs, hcl], ?_⟩
  refine .osl id s l (h - l) (cap - l) _ (by omega) (.inr ⟨g, n, m, k1, by rw [add_plain, Nat.zero_mul, Nat.zero_add], k3, ?_⟩)
  rw [← k4]
  congr 1; omega

/-- THE GREATER ONE OF TWO. -/
theorem trip_max {o : Oper} {x y : Operand} {ts : Array TypeId} (ho : o.op = .call { callee := .builtin .max, args := #[x, y], argTypes := ts }) {k k' : IntKind} {n m : Int} (hx : evS σ x = (True, .int k n)) (hy : evS σ y = (True, .int k' m)) :
    Trip P C o σ (σ.put o.dst (.int k (if m > n then m else n))) := by
  refine trip_value fun μ S a w hi' => ?_
  have hv := hi'.evS x (by rw [hx]; trivial)
  have hu := hi'.evS y (by rw [hy]; trivial)
  rw [hx] at hv; rw [hy] at hu
  have e1 : a.eval x = .int k n := hv.inv_int
  have e2 : a.eval y = .int k' m := hu.inv_int
  exact ⟨_, by simp [execOp, ho, e1, e2, resolve, invoke, builtin, run_max_int2], .pure (.int _ _)⟩
theorem seg_max {ops : Array Oper} {Q : Exit → Act → World → Prop} {k n : Nat} {acc : Skel} {o : Oper} {L : List Oper} {x y : Operand} {ts : Array TypeId} (ho : o.op = .call { callee := .builtin .max, args := #[x, y], argTypes := ts }) (hgd : o.guard = none) {q q' : IntKind} {u v : Int}
    (hx : evS σ x = (True, .int q u)) (hy : evS σ y = (True, .int q' v))
    {sk : List Loc × List Loc} (hsk : ((Sp.mk o.dst (.int q (if v > u then v else u)) [] (locsL σ [x, y])).wr, locsL σ [x, y]) = sk) (ha : σ.put o.dst (.int q (if v > u then v else u)) = σ') (hk : SegFrom P C ops Q k n (acc ++ [sk]) L σ') : SegFrom P C ops Q k n acc (o :: L) σ := by
  have hgd' : guardOf ops σ o.guard = some true := by rw [hgd]; rfl
  have key := rob_trip (P := P) (C := C) (o := o) (ops := ops) (x := .int q (if v > u then v else u)) (rd := locsL σ [x, y]) hgd' (.inl rfl) (fun _ s' hag => by
    have h1 : evS s' x = evS σ x := evS_agree fun z hz => hag z (by simp [locsL, hz])
    have h2 : evS s' y = evS σ y := evS_agree fun z hz => hag z (by simp [locsL, hz])
    exact trip_max ho (h1.trans hx) (h2.trans hy))
  have e0 : locsG ops o.guard = [] := by rw [hgd]; rfl
  rw [e0, List.nil_append] at key
  exact seg_rob key rfl (by rw [← hsk]) (by rw [← ha]; simp [Sp.app]) hk

/-- an exact slice is a slice -/
theorem le_exs (t : Nat) {id s off len cap : Nat} (h : σ.tm.getD t .any = .exs id s off len cap) : Le C σ ⟨σ.tm.set t (.osl id s off len), σ.hp⟩ := by
  intro a w ⟨μ, S, hi⟩
  refine ⟨μ, S, by simpa using hi.size, hi.defers, fun u x hx => ?_, hi.hp, hi.dom, hi.inj, hi.frm, hi.sb⟩
  rw [List.getElem?_set] at hx
  split at hx
  · rename_i e
    subst e
    split at hx
    · rename_i hlt
      injection hx with hx
      subst hx
      have := hi.tm t (σ.tm.getD t .any) (by rw [List.getD_eq_getElem?_getD, List.getElem?_eq_getElem hlt]; rfl)
      rw [h] at this
      obtain ⟨g, e, n, h1, h2, h3, h4, h5⟩ := this.inv_exs
      rw [h1]
      exact .osl id s off len cap _ h2 (.inr ⟨g, e, n, h3, rfl, h4, h5⟩)
    · cases hx
  · exact hi.tm u x hx
end
end Go.Eng

namespace Go.Eng

def renE (f : Nat → Nat) (e : Edge) : Edge := ⟨f e.on, e.ground⟩
def renOp (f : Nat → Nat) (o : Oper) : Oper := ⟨o.dst, o.op, o.type, o.pos, o.after.map (renE f), o.guard.map fun g => (f g.1, g.2)⟩
def permOps (p q : List Nat) (l : List Oper) : List Oper := p.map fun i => renOp (fun j => q.getD j j) (l.getD i default)
def permOK (p q : List Nat) (n : Nat) : Bool := p.length == n && q.length == n && (List.range n).all fun i => decide (q.getD i i < n) && p.getD (q.getD i i) 0 == i && (decide (p.getD i i < n) && q.getD (p.getD i i) (p.getD i i) == i)

section
variable {P : Program} {C : Ctx} {σ σ' : St}

def asEmpty (id s : Nat) : AV → AV
  | .nils => .osl id s 0 0
  | x => x
theorem wk_asEmpty (id s : Nat) (x : AV) : wk x (asEmpty id s x) := by
  cases x
  case nils => exact .inr (.inr ⟨rfl, .inr ⟨id, s, 0, rfl⟩⟩)
  all_goals exact .inr (.inl rfl)
/-- NIL SLICES IN A BLOCK'S CELLS, AS EMPTY ONES THAT WILL BE HELD. -/
theorem le_nilB (id' s' id : Nat) {e s : Nat} {rows rows' : List (List AV)} (hb : hget σ.hp id = some (.cells e s rows)) (hr : rows.map (fun row => row.map (asEmpty id' s')) = rows') : Le C σ ⟨σ.tm, hset σ.hp id (.cells e s rows')⟩ := by
  subst hr
  rintro a w ⟨μ, S, hi⟩
  refine ⟨μ, S, hi.size, hi.defers, hi.tm, fun i b hb' => ?_, fun i q hq => ?_, hi.inj, hi.frm, hi.sb⟩
  · simp only [hget_hset] at hb'
    split at hb'
    · rename_i h1
      injection hb' with hb'
      subst h1 hb'
      rcases hi.hp id _ hb with ⟨rfl, k2⟩ | ⟨g, c, k1, k2, k3, k4, k5⟩
      · exact .inl ⟨by simp, k2⟩
      · refine .inr ⟨g, c, k1, k2, by rw [List.length_map]; exact k3, fun row hrow => ?_, fun i row hi' q x hx => ?_⟩
        · obtain ⟨r0, h0, rfl⟩ := List.mem_map.1 hrow
          rw [List.length_map]; exact k4 r0 h0
        · rw [List.getElem?_map] at hi'
          cases e0 : rows[i]? with
          | none => rw [e0] at hi'; cases hi'
          | some r0 =>
            rw [e0] at hi'
            simp only [Option.map_some, Option.some.injEq] at hi'
            subst hi'
            rw [List.getElem?_map] at hx
            cases e1 : r0[q]? with
            | none => rw [e1] at hx; cases hx
            | some y =>
              rw [e1] at hx
              simp only [Option.map_some, Option.some.injEq] at hx
              subst hx
              exact (k5 i r0 e0 q y e1).wk (wk_asEmpty id' s' y)
    · exact hi.hp i b hb'
  · obtain ⟨⟨b, h1⟩, h2⟩ := hi.dom i q hq
    refine ⟨?_, h2⟩
    simp only [hget_hset]
    split
    · exact ⟨_, rfl⟩
    · exact ⟨b, h1⟩
theorem draw_le {ops : Array Oper} {Q : Exit → Act → World → Prop} {k : Nat} (h : Le C σ σ') (hk : DrawOK P C ops Q k σ') : DrawOK P C ops Q k σ := fun a w hr => hk a w (h a w hr)

theorem perm_facts {p q : List Nat} {n : Nat} (h : permOK p q n = true) : p.length = n ∧ q.length = n ∧ ∀ i, i < n → q.getD i i < n ∧ p.getD (q.getD i i) 0 = i ∧ p.getD i i < n ∧ q.getD (p.getD i i) (p.getD i i) = i := by
  unfold permOK at h
  simp only [Bool.and_eq_true, beq_iff_eq] at h
  obtain ⟨⟨h1, h2⟩, h3⟩ := h
  refine ⟨h1, h2, fun i hi => ?_⟩
  have := List.all_eq_true.1 h3 i (List.mem_range.2 hi)
  simp only [Bool.and_eq_true, decide_eq_true_eq, beq_iff_eq] at this
  exact ⟨this.1.1, this.1.2, this.2.1, this.2.2⟩

theorem perm_get {p q : List Nat} {ops : Array Oper} (h : permOK p q ops.size = true) {i : Nat} {o : Oper} (ho : ops[i]? = some o) :
    (permOps p q ops.toList).toArray[q.getD i i]? = some (renOp (fun j => q.getD j j) o) := by
  obtain ⟨h1, h2, h3⟩ := perm_facts h
  have hi : i < ops.size := (Array.getElem?_eq_some_iff.1 ho).1
  obtain ⟨h4, h5, _⟩ := h3 i hi
  rw [List.getElem?_toArray, permOps, List.getElem?_map]
  have hp : p[q.getD i i]? = some i := by
    rw [List.getD_eq_getElem?_getD, List.getElem?_eq_getElem (by omega)] at h5
    rw [List.getElem?_eq_getElem (by omega)]
    exact congrArg some h5
  rw [hp]
  simp only [Option.map_some]
  rw [List.getD_eq_getElem?_getD, Array.getElem?_toList, ho]
  rfl
theorem perm_none {p q : List Nat} {ops : Array Oper} (h : permOK p q ops.size = true) {i : Nat} (ho : ops[i]? = none) : (permOps p q ops.toList).toArray[q.getD i i]? = none := by
  obtain ⟨h1, h2, _⟩ := perm_facts h
  have hi : ops.size ≤ i := Array.getElem?_eq_none_iff.1 ho
  have e : q.getD i i = i := by rw [List.getD_eq_getElem?_getD, List.getElem?_eq_none (by omega)]; rfl
  rw [e, List.getElem?_toArray, permOps, List.getElem?_map, List.getElem?_eq_none (by omega)]
  rfl
theorem perm_inj {p q : List Nat} {n : Nat} (h : permOK p q n = true) {i j : Nat} (he : q.getD i i = q.getD j j) : i = j := by
  obtain ⟨h1, h2, h3⟩ := perm_facts h
  have hbig : ∀ k, n ≤ k → q.getD k k = k := fun k hk => by rw [List.getD_eq_getElem?_getD, List.getElem?_eq_none (by omega)]; rfl
  by_cases hi : i < n
  · by_cases hj : j < n
    · have e1 := (h3 i hi).2.1
      rw [he, (h3 j hj).2.1] at e1
      exact e1.symm
    · have := (h3 i hi).1
      rw [he, hbig j (by omega)] at this
      omega
  · by_cases hj : j < n
    · have := (h3 j hj).1
      rw [← he, hbig i (by omega)] at this
      omega
    · rw [hbig i (by omega), hbig j (by omega)] at he; exact he

theorem perm_yielded {p q : List Nat} {ops : Array Oper} (h : permOK p q ops.size = true) (t : Array Value) (j : Nat) : yielded (permOps p q ops.toList).toArray t (q.getD j j) = yielded ops t j := by
  unfold yielded
  cases ho : ops[j]? with
  | none => rw [perm_none h ho]
  | some o => rw [perm_get h ho]; rfl

theorem perm_any {p q : List Nat} {ops : Array Oper} (h : permOK p q ops.size = true) {Q : Exit → Act → World → Prop} : ∀ (f : Nat) (L L' : Array Bool) (a : Act) (w : World), L.size = ops.size → L'.size = ops.size →
    (∀ i, L'.getD (q.getD i i) false = L.getD i false) → wpAny P .any (permOps p q ops.toList).toArray Q f L' a w → wpAny P .any ops Q f L a w := by
  obtain ⟨h1, h2, h3⟩ := perm_facts h
  have hrd : ∀ (L L' : Array Bool), L.size = ops.size → L'.size = ops.size → (∀ i, L'.getD (q.getD i i) false = L.getD i false) → ∀ i, i ∈ Region.ready .any ops L → q.getD i i ∈ Region.ready .any (permOps p q ops.toList).toArray L' := fun L L' hL hL' hg i hi => by
    obtain ⟨k1, o, k2, k3⟩ := mem_ready.1 hi
    have hlt : i < ops.size := (Array.getElem?_eq_some_iff.1 k2).1
    refine mem_ready.2 ⟨?_, _, perm_get h k2, fun e he hb => ?_⟩
    · have e1 : L.getD i true = L.getD i false := by rw [Array.getD_eq_getD_getElem?, Array.getD_eq_getD_getElem?, Array.getElem?_eq_getElem (by omega)]; rfl
      have e2 : L'.getD (q.getD i i) true = L'.getD (q.getD i i) false := by
        have := (h3 i hlt).1
        rw [Array.getD_eq_getD_getElem?, Array.getD_eq_getD_getElem?, Array.getElem?_eq_getElem (by omega)]; rfl
      rw [e2, hg, ← e1]; exact k1
    · simp only [renOp] at he
      obtain ⟨e0, he0, rfl⟩ := Array.mem_map.1 he
      show L'.getD (q.getD e0.on e0.on) false = true
      rw [hg]
      exact k3 e0 he0 hb
  intro f
  induction f with
  | zero =>
    intro L L' a w hL hL' hg hw
    refine ⟨List.eq_nil_iff_forall_not_mem.2 fun i hi => ?_, hw.2⟩
    have := hrd L L' hL hL' hg i hi
    rw [hw.1] at this
    cases this
  | succ f ih =>
    intro L L' a w hL hL' hg hw
    refine ⟨fun h0 => ?_, fun i hi => ?_⟩
    · by_cases hr : Region.ready .any (permOps p q ops.toList).toArray L' = []
      · exact hw.1 hr
      · exfalso
        obtain ⟨j, hj⟩ := List.exists_mem_of_ne_nil _ hr
        obtain ⟨k1, o, k2, k3⟩ := mem_ready.1 hj
        -- a new place is the place of an old one
        have hjn : j < ops.size := by
          have := (Array.getElem?_eq_some_iff.1 k2).1
          simp only [List.size_toArray, permOps, List.length_map] at this
          omega
        have hpj : ∃ i, i < ops.size ∧ q.getD i i = j := ⟨p.getD j j, (h3 j hjn).2.2.1, (h3 j hjn).2.2.2⟩
        obtain ⟨i, hi, rfl⟩ := hpj
        have : i ∈ Region.ready .any ops L := by
          obtain ⟨oi, hoi⟩ : ∃ oi, ops[i]? = some oi := ⟨_, Array.getElem?_eq_getElem hi⟩
          rw [perm_get h hoi] at k2
          injection k2 with k2
          refine mem_ready.2 ⟨?_, oi, hoi, fun e he hb => ?_⟩
          · have e1 : L.getD i true = L.getD i false := by rw [Array.getD_eq_getD_getElem?, Array.getD_eq_getD_getElem?, Array.getElem?_eq_getElem (by omega)]; rfl
            have e2 : L'.getD (q.getD i i) true = L'.getD (q.getD i i) false := by
              rw [Array.getD_eq_getD_getElem?, Array.getD_eq_getD_getElem?, Array.getElem?_eq_getElem (by omega)]; rfl
            rw [e1, ← hg, ← e2]; exact k1
          · rw [← hg]
            exact k3 (renE (fun j => q.getD j j) e) (by rw [← k2]; exact Array.mem_map.2 ⟨e, he, rfl⟩) hb
        rw [h0] at this
        cases this
    · have hri := hrd L L' hL hL' hg i hi
      have hop := hw.2 _ hri
      obtain ⟨_, o, hoi, _⟩ := mem_ready.1 hi
      have hlt : i < ops.size := (Array.getElem?_eq_some_iff.1 hoi).1
      have hnext : ∀ a' w', wpAny P .any (permOps p q ops.toList).toArray Q f (L'.setIfInBounds (q.getD i i) true) a' w' → wpAny P .any ops Q f (L.setIfInBounds i true) a' w' := fun a' w' hk =>
        ih _ _ a' w' (by simpa using hL) (by simpa using hL') (fun j => by
          have hji : q.getD j j = q.getD i i ↔ j = i := ⟨fun e => perm_inj h e, fun e => by rw [e]⟩
          have hqi := (h3 i hlt).1
          have := hg j
          rw [Array.getD_eq_getD_getElem?, Array.getD_eq_getD_getElem?] at this
          rw [Array.getD_eq_getD_getElem?, Array.getD_eq_getD_getElem?, Array.getElem?_setIfInBounds, Array.getElem?_setIfInBounds]
          by_cases e : j = i
          · subst e
            rw [if_pos rfl, if_pos rfl, if_pos (by omega), if_pos (by omega)]
          · rw [if_neg (fun e2 => e (hji.1 e2.symm)), if_neg (fun e2 => e e2.symm)]
            exact this) hk
      have hop2 := wpOp_mono hnext hop
      unfold wpOp at hop2 ⊢
      rw [perm_get h hoi] at hop2
      rw [hoi]
      simp only at hop2 ⊢
      have hwant : Region.wanted (renOp (fun j => q.getD j j) o) (yielded (permOps p q ops.toList).toArray a.tmps) = Region.wanted o (yielded ops a.tmps) := by
        unfold Region.wanted renOp
        cases o.guard with
        | none => rfl
        | some g =>
          obtain ⟨j, b⟩ := g
          simp only [Option.map_some]
          rw [perm_yielded h]
      rw [hwant] at hop2
      exact hop2

/-- A REGION THAT DRAWS, ITS OPERATIONS LISTED IN ANOTHER ORDER. -/
theorem draw_perm (p q : List Nat) {ops ops' : Array Oper} {Q : Exit → Act → World → Prop} (h : permOK p q ops.size = true) (he : (permOps p q ops.toList).toArray = ops') (hk : DrawOK P C ops' Q 0 σ) : DrawOK P C ops Q 0 σ := by
  subst he
  intro a w hr
  have hs : (permOps p q ops.toList).toArray.size = ops.size := by
    obtain ⟨h1, _, _⟩ := perm_facts h
    simp [permOps, h1]
  have := hk a w hr
  rw [hs] at this
  refine perm_any h _ _ _ a w (by simp [doneTo]) (by simp [doneTo]) (fun i => ?_) this
  rw [doneTo_get, doneTo_get]
  split <;> split <;> rfl
end
attribute [go_sem] asEmpty
end Go.Eng

namespace Go.Eng

def remOp (r : Nat) (f : Nat → Nat) (o : Oper) : Oper := ⟨o.dst, o.op, o.type, o.pos, (o.after.filter fun e => !(e.on == r)).map (renE f), o.guard.map fun g => (f g.1, g.2)⟩
def remOps (r : Nat) (p q : List Nat) (l : List Oper) : List Oper := p.map fun i => remOp r (fun j => q.getD j j) (l.getD i default)
def isSel : Op → Bool
  | .select .. => true
  | _ => false
def remOK (r : Nat) (p q : List Nat) (ops : Array Oper) : Bool :=
  p.length + 1 == ops.size && q.length == ops.size && (decide (r < ops.size) && (List.range ops.size).all fun i => i == r || (decide (q.getD i i + 1 < ops.size) && p.getD (q.getD i i) 0 == i)) &&
  ((List.range p.length).all fun j => decide (p.getD j 0 < ops.size) && !(p.getD j 0 == r) && q.getD (p.getD j 0) 0 == j) &&
  ops.toList.all fun o => (match o.guard with | some g => !(g.1 == r) | none => true) && !isSel o.op
def firstOK (r : Nat) (o : Oper) (ops : Array Oper) : Bool :=
  o.after.isEmpty && (List.range ops.size).all fun j => j == r || (match ops[j]? with | some oj => (oj.after.any fun e => Region.binds .any e && e.on == r) || o.apart ops oj | none => true)

section
variable {P : Program} {T : Tab} {C : Ctx} {σ σ' : St} {μ : Nat → Option Nat} {S : Nat → Prop} {a : Act} {w : World}

theorem field_any (hT : TabOK P T) {t : TypeId} {v : Value} {x r : AV} {j : Nat} (h : fieldAddrAV T t x j = some r) (hv : Rd μ S w v x) :
    ∃ u, (∀ w', (Instr.fieldAt t v j).run P w' = .ok u w') ∧ Rd μ S w u r := by
  unfold fieldAddrAV at h
  split at h
  · rename_i q o cells off hf
    injection h with h; subst h
    obtain ⟨F, f, h1, h2, h3, h4, h5⟩ := hT.fld _ _ _ _ hf
    obtain ⟨g, o', vals, rfl, hS, hc, hr⟩ := hv.inv_rp.inv_rp
    refine ⟨.pointer (some ⟨g, o' + (off + o), none⟩), fun w' => ?_, .pure (.rp g o' (off + o) cells vals hS hc hr)⟩
    simp [Instr.fieldAt, run_underlying h1, h2, Instr.sureAddr, fieldPlace, h3, sizeOf_of hT h5, h5, h4, add_plain, Nat.add_assoc]
  · rename_i q o id size row off hf
    injection h with h; subst h
    obtain ⟨F, f, h1, h2, h3, h4, h5⟩ := hT.fld _ _ _ _ hf
    obtain ⟨g, hg, rfl⟩ := hv.inv_ptr
    refine ⟨.pointer (some ⟨g, row * size + (off + o), none⟩), fun w' => ?_, .ptr id size row (off + o) g hg⟩
    simp [Instr.fieldAt, run_underlying h1, h2, Instr.sureAddr, fieldPlace, h3, sizeOf_of hT h5, h5, h4, add_plain, Nat.add_assoc]
  · cases h

structure RemF (r : Nat) (p q : List Nat) (ops : Array Oper) : Prop where
  pl : p.length + 1 = ops.size
  ql : q.length = ops.size
  rl : r < ops.size
  to : ∀ i, i < ops.size → i ≠ r → q.getD i i + 1 < ops.size ∧ p.getD (q.getD i i) 0 = i
  fro : ∀ j, j < p.length → p.getD j 0 < ops.size ∧ p.getD j 0 ≠ r ∧ q.getD (p.getD j 0) 0 = j
  gd : ∀ (i : Nat) o j b, ops[i]? = some o → o.guard = some (j, b) → j ≠ r
  sel : ∀ (i : Nat) o cs b, ops[i]? = some o → o.op ≠ .select cs b

theorem rem_facts {r : Nat} {p q : List Nat} {ops : Array Oper} (h : remOK r p q ops = true) : RemF r p q ops := by
  unfold remOK at h
  simp only [Bool.and_eq_true, beq_iff_eq, decide_eq_true_eq] at h
  obtain ⟨⟨⟨⟨h1, h2⟩, h3, h4⟩, h5⟩, h6⟩ := h
  have hall : ∀ (i : Nat) o, ops[i]? = some o → ((match o.guard with | some g => !(g.1 == r) | none => true) && !isSel o.op) = true := fun i o ho =>
    List.all_eq_true.1 h6 o (by rw [Array.mem_toList_iff]; exact Array.mem_of_getElem? ho)
  refine ⟨h1, h2, h3, fun i hi hne => ?_, fun j hj => ?_, fun i o j b ho hg e => ?_, fun i o cs b ho e => ?_⟩
  · have := List.all_eq_true.1 h4 i (List.mem_range.2 hi)
    simp only [Bool.or_eq_true, Bool.and_eq_true, beq_iff_eq, decide_eq_true_eq] at this
    rcases this with h | h
    · exact absurd h hne
    · exact h
  · have := List.all_eq_true.1 h5 j (List.mem_range.2 hj)
    simp only [Bool.and_eq_true, beq_iff_eq, decide_eq_true_eq, Bool.not_eq_true', beq_eq_false_iff_ne] at this
    exact ⟨this.1.1, this.1.2, this.2⟩
  · have := hall i o ho
    rw [hg] at this
    simp only [Bool.and_eq_true, Bool.not_eq_true', beq_eq_false_iff_ne] at this
    exact this.1 e
  · have := hall i o ho
    rw [e] at this
    simp [isSel] at this

theorem RemF.get {r : Nat} {p q : List Nat} {ops : Array Oper} (h : RemF r p q ops) {i : Nat} (hne : i ≠ r) {o : Oper} (ho : ops[i]? = some o) :
    (remOps r p q ops.toList).toArray[q.getD i i]? = some (remOp r (fun j => q.getD j j) o) := by
  have hi : i < ops.size := (Array.getElem?_eq_some_iff.1 ho).1
  obtain ⟨h4, h5⟩ := h.to i hi hne
  have hpl := h.pl
  rw [List.getElem?_toArray, remOps, List.getElem?_map]
  have hp : p[q.getD i i]? = some i := by
    rw [List.getD_eq_getElem?_getD, List.getElem?_eq_getElem (by omega)] at h5
    rw [List.getElem?_eq_getElem (by omega)]
    exact congrArg some h5
  rw [hp]
  simp only [Option.map_some]
  rw [List.getD_eq_getElem?_getD, Array.getElem?_toList, ho]
  rfl
theorem RemF.big {r : Nat} {p q : List Nat} {ops : Array Oper} (h : RemF r p q ops) {i : Nat} (hi : ops.size ≤ i) : q.getD i i = i := by
  have := h.ql
  rw [List.getD_eq_getElem?_getD, List.getElem?_eq_none (by omega)]; rfl
theorem RemF.inj {r : Nat} {p q : List Nat} {ops : Array Oper} (h : RemF r p q ops) {i j : Nat} (hi : i ≠ r) (hj : j ≠ r) (he : q.getD i i = q.getD j j) : i = j := by
  by_cases h1 : i < ops.size
  · by_cases h2 : j < ops.size
    · have e1 := (h.to i h1 hi).2
      rw [he, (h.to j h2 hj).2] at e1
      exact e1.symm
    · have := (h.to i h1 hi).1
      rw [he, h.big (by omega)] at this
      omega
  · by_cases h2 : j < ops.size
    · have := (h.to j h2 hj).1
      rw [← he, h.big (by omega)] at this
      omega
    · rw [h.big (by omega), h.big (by omega)] at he; exact he
theorem RemF.yielded {r : Nat} {p q : List Nat} {ops : Array Oper} (h : RemF r p q ops) (t : Array Value) {j : Nat} (hj : j ≠ r) : Go.yielded (remOps r p q ops.toList).toArray t (q.getD j j) = Go.yielded ops t j := by
  unfold Go.yielded
  cases ho : ops[j]? with
  | none =>
    have hs : ops.size ≤ j := Array.getElem?_eq_none_iff.1 ho
    have hpl := h.pl
    rw [h.big hs, List.getElem?_toArray, remOps, List.getElem?_map, List.getElem?_eq_none (by omega)]
    rfl
  | some o => rw [h.get hj ho]; rfl

theorem rem_any {r : Nat} {p q : List Nat} {ops : Array Oper} (h : RemF r p q ops) {Q : Exit → Act → World → Prop} : ∀ (f : Nat) (L L' : Array Bool) (a : Act) (w : World), L.size = ops.size → L'.size + 1 = ops.size → L.getD r false = true →
    (∀ i, i ≠ r → L'.getD (q.getD i i) false = L.getD i false) → wpAny P .any (remOps r p q ops.toList).toArray Q f L' a w → wpAny P .any ops Q f L a w := by
  have hpl := h.pl
  have hTF : ∀ (L : Array Bool) (i : Nat), i < L.size → L.getD i true = L.getD i false := fun L i hi => by rw [Array.getD_eq_getD_getElem?, Array.getD_eq_getD_getElem?, Array.getElem?_eq_getElem hi]; rfl
  have hne : ∀ (L : Array Bool), L.size = ops.size → L.getD r false = true → ∀ i, i ∈ Region.ready .any ops L → i ≠ r := fun L hL hr i hi e => by
    subst e
    obtain ⟨k1, _⟩ := mem_ready.1 hi
    rw [hTF L i (by rw [hL]; exact h.rl), hr] at k1
    cases k1
  have hrd : ∀ (L L' : Array Bool), L.size = ops.size → L'.size + 1 = ops.size → L.getD r false = true → (∀ i, i ≠ r → L'.getD (q.getD i i) false = L.getD i false) → ∀ i, i ∈ Region.ready .any ops L → q.getD i i ∈ Region.ready .any (remOps r p q ops.toList).toArray L' := fun L L' hL hL' hr hg i hi => by
    have hir := hne L hL hr i hi
    obtain ⟨k1, o, k2, k3⟩ := mem_ready.1 hi
    have hlt : i < ops.size := (Array.getElem?_eq_some_iff.1 k2).1
    refine mem_ready.2 ⟨?_, _, h.get hir k2, fun e he hb => ?_⟩
    · rw [hTF L' _ (by have := (h.to i hlt hir).1; omega), hg i hir, ← hTF L i (by omega)]; exact k1
    · simp only [remOp] at he
      obtain ⟨e0, he0, rfl⟩ := Array.mem_map.1 he
      obtain ⟨he1, he2⟩ := Array.mem_filter.1 he0
      show L'.getD (q.getD e0.on e0.on) false = true
      rw [hg _ (by simpa using he2)]
      exact k3 e0 he1 hb
  intro f
  induction f with
  | zero =>
    intro L L' a w hL hL' hr hg hw
    refine ⟨List.eq_nil_iff_forall_not_mem.2 fun i hi => ?_, hw.2⟩
    have := hrd L L' hL hL' hr hg i hi
    rw [hw.1] at this
    cases this
  | succ f ih =>
    intro L L' a w hL hL' hr hg hw
    refine ⟨fun h0 => ?_, fun i hi => ?_⟩
    · by_cases hrr : Region.ready .any (remOps r p q ops.toList).toArray L' = []
      · exact hw.1 hrr
      · exfalso
        obtain ⟨j, hj⟩ := List.exists_mem_of_ne_nil _ hrr
        obtain ⟨k1, o, k2, k3⟩ := mem_ready.1 hj
        have hjn : j < p.length := by
          have := (Array.getElem?_eq_some_iff.1 k2).1
          simpa only [List.size_toArray, remOps, List.length_map] using this
        obtain ⟨f1, f2, f3⟩ := h.fro j hjn
        have hqi : q.getD (p.getD j 0) (p.getD j 0) = j := by
          have hq := h.ql
          rw [List.getD_eq_getElem?_getD, List.getElem?_eq_getElem (by omega)] at f3 ⊢
          exact f3
        obtain ⟨oi, hoi⟩ : ∃ oi, ops[p.getD j 0]? = some oi := ⟨_, Array.getElem?_eq_getElem f1⟩
        have hget := h.get f2 hoi
        rw [hqi] at hget
        rw [hget] at k2
        injection k2 with k2
        have : p.getD j 0 ∈ Region.ready .any ops L := by
          refine mem_ready.2 ⟨?_, oi, hoi, fun e he hb => ?_⟩
          · rw [hTF L _ (by omega), ← hg _ f2, hqi, ← hTF L' j (by omega)]; exact k1
          · by_cases her : e.on = r
            · rw [her]; exact hr
            · rw [← hg _ her]
              exact k3 (renE (fun j => q.getD j j) e) (by rw [← k2]; exact Array.mem_map.2 ⟨e, Array.mem_filter.2 ⟨he, by simpa using her⟩, rfl⟩) hb
        rw [h0] at this
        cases this
    · have hir := hne L hL hr i hi
      have hri := hrd L L' hL hL' hr hg i hi
      have hop := hw.2 _ hri
      obtain ⟨_, o, hoi, _⟩ := mem_ready.1 hi
      have hlt : i < ops.size := (Array.getElem?_eq_some_iff.1 hoi).1
      have hnext : ∀ a' w', wpAny P .any (remOps r p q ops.toList).toArray Q f (L'.setIfInBounds (q.getD i i) true) a' w' → wpAny P .any ops Q f (L.setIfInBounds i true) a' w' := fun a' w' hk =>
        ih _ _ a' w' (by simpa using hL) (by simpa using hL') (by
          rw [Array.getD_eq_getD_getElem?, Array.getElem?_setIfInBounds, if_neg hir, ← Array.getD_eq_getD_getElem?]; exact hr) (fun j hj => by
          have hqi := (h.to i hlt hir).1
          have := hg j hj
          rw [Array.getD_eq_getD_getElem?, Array.getD_eq_getD_getElem?] at this
          rw [Array.getD_eq_getD_getElem?, Array.getD_eq_getD_getElem?, Array.getElem?_setIfInBounds, Array.getElem?_setIfInBounds]
          by_cases e : j = i
          · subst e
            rw [if_pos rfl, if_pos rfl, if_pos (by omega), if_pos (by omega)]
          · rw [if_neg (fun e2 => e (h.inj hj hir e2.symm)), if_neg (fun e2 => e e2.symm)]
            exact this) hk
      have hop2 := wpOp_mono hnext hop
      unfold wpOp at hop2 ⊢
      rw [h.get hir hoi] at hop2
      rw [hoi]
      simp only at hop2 ⊢
      have hwant : Region.wanted (remOp r (fun j => q.getD j j) o) (Go.yielded (remOps r p q ops.toList).toArray a.tmps) = Region.wanted o (Go.yielded ops a.tmps) := by
        unfold Region.wanted remOp
        cases hgd : o.guard with
        | none => rfl
        | some g =>
          obtain ⟨j, b⟩ := g
          simp only [Option.map_some]
          rw [h.yielded a.tmps (h.gd i o j b hoi hgd)]
      rw [hwant] at hop2
      exact hop2

/-- THE ADDRESS OF A FIELD, AHEAD OF ALL ELSE. -/
theorem draw_early (hT : TabOK P T) (r : Nat) (p q : List Nat) {ops ops' : Array Oper} {Q : Exit → Act → World → Prop} {o : Oper} {t : TypeId} {x : Operand} {j : Nat} {y : AV} (ho : ops[r]? = some o) (hop : o.op = .fieldAddr t x j) (hg : o.guard = none)
    (hQ : ∀ c a w, ¬ Q (.panic c) a w) (h1 : remOK r p q ops = true) (h2 : firstOK r o ops = true) (he : (remOps r p q ops.toList).toArray = ops') {z : AV} (hx : evS σ x = (True, z)) (hy : fieldAddrAV T t z j = some y)
    (hk : DrawOK P C ops' Q 0 (σ.put o.dst y)) : DrawOK P C ops Q 0 σ := by
  subst he
  have hF := rem_facts h1
  have hrl := hF.rl
  have hpl := hF.pl
  intro a w ⟨μ, S, hi⟩
  have hv := hi.evS x (by rw [hx]; trivial)
  rw [hx] at hv
  obtain ⟨u, hu, hr⟩ := field_any hT hy hv
  have hrel : Rel C (σ.put o.dst y) (a.put o.dst u) w := ⟨μ, S, hi.put o.dst hr⟩
  have hk' := hk _ _ hrel
  have hs : (remOps r p q ops.toList).toArray.size + 1 = ops.size := by simp [remOps, hpl]
  obtain ⟨n, hn⟩ : ∃ n, ops.size = n + 1 := ⟨ops.size - 1, by omega⟩
  have hsz : (remOps r p q ops.toList).toArray.size = n := by omega
  unfold firstOK at h2
  rw [Bool.and_eq_true] at h2
  have hafter : o.after = #[] := Array.isEmpty_iff.1 h2.1
  have hd0 : ∀ (m i : Nat) (d : Bool), (doneTo m 0).getD i d = if i < m then false else d := fun m i d => by rw [doneTo_get]; simp
  rw [hn, Nat.sub_zero]
  refine wpAny_first (v := u) ho hF.sel (fun c a w hc => absurd hc (hQ c _ _)) n _ a w (fun k oj hoj hkr _ hw => ?_) (mem_ready.2 ⟨?_, o, ho, fun e he => by rw [hafter] at he; simp at he⟩) (.inl ⟨by rw [Region.wanted, hg], fun w' => ?_⟩) ?_
  · have := List.all_eq_true.1 h2.2 k (List.mem_range.2 (Array.getElem?_eq_some_iff.1 hoj).1)
    rw [hoj] at this
    simp only [Bool.or_eq_true, beq_iff_eq, Array.any_eq_true', Bool.and_eq_true] at this
    rcases this with h | ⟨e, he, hb, hon⟩ | h
    · exact absurd h hkr
    · exact absurd hon (hw e he hb)
    · exact h
  · rw [← hn, hd0, if_pos hrl]
  · have e1 : a.eval x = a.eval x := rfl
    have := hu w'
    simp [execOp, hop, this]
  · rw [hsz, Nat.sub_zero] at hk'
    refine rem_any hF n _ _ _ _ (by simp [doneTo, hn]) (by simp [doneTo, hn]) ?_ (fun i hi => ?_) hk'
    · rw [Array.getD_eq_getD_getElem?, Array.getElem?_setIfInBounds, if_pos rfl, if_pos (by simp [doneTo]; omega)]; rfl
    · have e2 : ((doneTo (n + 1) 0).setIfInBounds r true).getD i false = (doneTo (n + 1) 0).getD i false := by
        rw [Array.getD_eq_getD_getElem?, Array.getElem?_setIfInBounds, if_neg (fun e => hi e.symm), ← Array.getD_eq_getD_getElem?]
      rw [e2, hd0, hd0]
      split <;> split <;> rfl
end
end Go.Eng

namespace Go.Eng
section
variable {P : Program} {T : Tab} {C : Ctx} {σ : St} {Ret : St → Prop} {w : World}

/-! ### A map that is written no more -/
mutual
def frzM (id : Nat) (kvs : List (Int × AV)) : AV → AV
  | .mp i => if i = id then .rm kvs else .mp i
  | .ptr i size row off => if i = id then .any else .ptr i size row off
  | .osl i size off len => if i = id then .any else .osl i size off len
  | .exs i size off len cap => if i = id then .any else .exs i size off len cap
  | .agg cells => .agg (frzML id kvs cells)
  | .tup cells => .tup (frzML id kvs cells)
  | .fn f caps => .fn f (frzML id kvs caps)
  | .cnd c v => .cnd c (frzM id kvs v)
  | x => x
def frzML (id : Nat) (kvs : List (Int × AV)) : List AV → List AV
  | [] => []
  | x :: r => frzM id kvs x :: frzML id kvs r
end
theorem frzML_map (id : Nat) (kvs : List (Int × AV)) : ∀ l, frzML id kvs l = l.map (frzM id kvs)
  | [] => rfl
  | x :: r => by simp [frzML, frzML_map id kvs r]
def frzMB (id : Nat) (kvs : List (Int × AV)) : Blk → Blk
  | .cells e z R => .cells e z (R.map (frzML id kvs))
  | .map m => .map m
  | .iter m seen => .iter m seen
  | .cap j z N => if j = id then .cells 0 0 [] else .cap j z N
  | .pin j g z N => if j = id then .cells 0 0 [] else .pin j g z N
def frzMH (id : Nat) (kvs : List (Int × AV)) : List (Nat × Blk) → List (Nat × Blk)
  | [] => []
  | p :: r => if p.1 = id then frzMH id kvs r else (p.1, frzMB id kvs p.2) :: frzMH id kvs r
theorem hget_frzMH (id : Nat) (kvs : List (Int × AV)) (i : Nat) : ∀ H, hget (frzMH id kvs H) i = if i = id then none else (hget H i).map (frzMB id kvs)
  | [] => by simp [frzMH, hget]
  | (j, b) :: r => by
    have ih := hget_frzMH id kvs i r
    unfold frzMH
    by_cases h : j = id
    · subst h
      rw [if_pos rfl, ih]
      by_cases h2 : i = j
      · rw [if_pos h2, if_pos h2]
      · rw [if_neg h2, if_neg h2]; simp only [hget]; rw [if_neg (fun h => h2 h.symm)]
    · rw [if_neg h]
      simp only [hget]
      by_cases h2 : j = i
      · subst h2; rw [if_pos rfl, if_neg h, if_pos rfl]; rfl
      · rw [if_neg h2, if_neg h2]; exact ih
theorem RdP.frzM_eq {S : Nat → Prop} {v : Value} {x : AV} (h : RdP S w v x) (id : Nat) (kvs : List (Int × AV)) : frzM id kvs x = x := by
  have key : ∀ (l : List AV), (∀ (j : Nat) x, l[j]? = some x → frzM id kvs x = x) → frzML id kvs l = l := by
    intro l
    induction l with
    | nil => intro _; rfl
    | cons y r ih =>
      intro h
      simp only [frzML]
      rw [h 0 y rfl, ih (fun j x hj => h (j + 1) x (by simpa using hj))]
  induction h with
  | fn f vals caps hl hr ih => simp only [frzM]; rw [key caps ih]
  | agg cs cells hl hr ih => simp only [frzM]; rw [key cells ih]
  | _ => rfl
theorem frzM_list {id : Nat} {kvs : List (Int × AV)} {R' : Value → AV → Prop} {vals : Nat → Value} {cells : List AV} (h : ∀ j x, cells[j]? = some x → R' (vals j) (frzM id kvs x)) :
    ∀ j x, (frzML id kvs cells)[j]? = some x → R' (vals j) x := by
  intro j x hx
  rw [frzML_map, List.getElem?_map] at hx
  cases e : cells[j]? with
  | none => rw [e] at hx; cases hx
  | some y =>
    rw [e] at hx; simp only [Option.map_some, Option.some.injEq] at hx; subst hx
    exact h j y e

theorem inv_freezeM {l : List AV} {H : List (Nat × Blk)} {id : Nat} {kvs : List (Int × AV)} (hb : hget H id = some (.map kvs)) {μ : Nat → Option Nat} {S : Nat → Prop} {a : Act} (hi : Inv C μ S ⟨l, H⟩ a w) :
    Inv C (upd μ id none) (fun b => S b ∨ μ id = some b) ⟨l.map (frzM id kvs), frzMH id kvs H⟩ a w := by
  obtain ⟨g0, es0, clk0, vals0, b1, b2, b3, b4⟩ := hi.hp id _ hb
  let S2 : Nat → Prop := fun b => S b ∨ μ id = some b
  let μ2 : Nat → Option Nat := upd μ id none
  have hS : ∀ b, S b → S2 b := fun b h => .inl h
  have rd : ∀ {v : Value} {x : AV}, Rd μ S w v x → Rd μ2 S2 w v (frzM id kvs x) := by
    intro v x h
    induction h with
    | any v => exact .any v
    | pure h => rw [h.frzM_eq]; exact .pure (h.mono (SameOn.refl _ _) hS)
    | agg cs cells hl hr ih => simp only [frzM]; exact .agg cs _ (by rw [frzML_map, List.length_map]; exact hl) (frzM_list (R' := fun v x => Rd μ2 S2 w v x) (vals := fun j => cs.getD j undef) ih)
    | tup cs cells hl hr ih => simp only [frzM]; exact .tup cs _ (by rw [frzML_map, List.length_map]; exact hl) (frzM_list (R' := fun v x => Rd μ2 S2 w v x) (vals := fun j => cs.getD j undef) ih)
    | fn f vals cells hl hr ih => simp only [frzM]; exact .fn f vals _ (by rw [frzML_map, List.length_map]; exact hl) (frzM_list (R' := fun v x => Rd μ2 S2 w v x) (vals := fun j => vals.getD j undef) ih)
    | ptr i size row o g hg =>
      simp only [frzM]
      split
      · exact .any _
      · rename_i he
        exact .ptr i size row o g (by simp only [μ2, upd]; rw [if_neg he]; exact hg)
    | osl i size o len cap A hc h =>
      simp only [frzM]
      split
      · exact .any _
      · rename_i he
        refine .osl i size o len cap A hc ?_
        rcases h with h | ⟨g, e', n, h1, h2, h3, h4⟩
        · exact .inl h
        · exact .inr ⟨g, e', n, by simp only [μ2, upd]; rw [if_neg he]; exact h1, h2, h3, h4⟩
    | mp i g hg =>
      simp only [frzM]
      split
      · rename_i he
        subst he
        rw [b1] at hg; injection hg with hg; subst hg
        exact .pure (.rm g0 es0 clk0 kvs vals0 (.inr b1) b2 b3 (fun p hp => (b4 p hp).mono (SameOn.refl _ _) hS))
      · rename_i he
        exact .mp i g (by simp only [μ2, upd]; rw [if_neg he]; exact hg)
    | exs i size o len cap g e n hc hg hr hn =>
      simp only [frzM]
      split
      · exact .any _
      · rename_i he
        exact .exs i size o len cap g e n hc (by simp only [μ2, upd]; rw [if_neg he]; exact hg) hr hn
    | cndT v x h ih => exact .cndT v _ ih
    | cndF x => exact .cndF _
  have m2 : ∀ {i g}, μ2 i = some g → i ≠ id ∧ μ i = some g := fun {i g} hg => by
    simp only [μ2, upd] at hg
    split at hg
    · cases hg
    · exact ⟨by assumption, hg⟩
  refine ⟨by simp [hi.size], hi.defers, fun t x hx => ?_, fun i b hb' => ?_, fun i g hg => ?_, fun i j g h1 h2 => hi.inj i j g (m2 h1).2 (m2 h2).2, hi.frm, fun b hb' => ?_⟩
  · simp only [List.getElem?_map] at hx
    cases e : l[t]? with
    | none => rw [e] at hx; cases hx
    | some y =>
      rw [e] at hx
      simp only [Option.map_some, Option.some.injEq] at hx
      subst hx
      exact rd (hi.tm t y e)
  · simp only at hb'
    rw [hget_frzMH] at hb'
    split at hb'
    · cases hb'
    · rename_i he
      cases e1 : hget H i with
      | none => rw [e1] at hb'; cases hb'
      | some b0 =>
        rw [e1] at hb'
        simp only [Option.map_some, Option.some.injEq] at hb'
        subst hb'
        have hμ : μ2 i = μ i := by simp only [μ2, upd]; rw [if_neg he]
        have := hi.hp i b0 e1
        cases b0 with
        | cells e' z R =>
          rcases this with ⟨rfl, h2⟩ | ⟨g, c, h1, h2, h3, h4, h5⟩
          · exact .inl ⟨rfl, hμ.trans h2⟩
          · refine .inr ⟨g, c, hμ.trans h1, h2, by simpa using h3, fun row hrow => ?_, fun i' row hi' j x hx => ?_⟩
            · obtain ⟨r, hr, rfl⟩ := List.mem_map.1 hrow
              rw [frzML_map, List.length_map]; exact h4 r hr
            · rw [List.getElem?_map] at hi'
              cases e2 : R[i']? with
              | none => rw [e2] at hi'; cases hi'
              | some r =>
                rw [e2] at hi'; simp only [Option.map_some, Option.some.injEq] at hi'; subst hi'
                exact frzM_list (R' := fun v x => Rd μ2 S2 w v x) (vals := fun j => c.getD (i' * z + j) undef) (fun j x hx => rd (h5 i' r e2 j x hx)) j x hx
        | map kvs =>
          obtain ⟨g, es, clk, vals, h1, h2, h3, h4⟩ := this
          exact ⟨g, es, clk, vals, hμ.trans h1, h2, h3, fun p hp' => (h4 p hp').mono (SameOn.refl _ _) hS⟩
        | iter kvs seen =>
          obtain ⟨g, es, clk, vals, had, h1, h2, h4⟩ := this
          obtain ⟨m, k1, k2, k3⟩ := h2.lies
          exact ⟨g, es, clk, vals, had, hμ.trans h1, ⟨⟨m, k1, hS _ k2, k3⟩, h2.map, h2.last, h2.had⟩, fun p hp' => (h4 p hp').mono (SameOn.refl _ _) hS⟩
        | cap k z N =>
          obtain ⟨h1, g, e, h2, h3⟩ := this
          simp only [frzMB]
          split
          · exact .inl ⟨rfl, hμ.trans h1⟩
          · rename_i hk
            refine ⟨hμ.trans h1, g, e, ?_, h3⟩
            simp only [upd]
            rw [if_neg hk]; exact h2
        | pin k g z N =>
          obtain ⟨h1, h2, h3⟩ := this
          simp only [frzMB]
          split
          · exact .inl ⟨rfl, hμ.trans h1⟩
          · rename_i hk
            refine ⟨hμ.trans h1, ?_, h3⟩
            simp only [upd]
            rw [if_neg hk]; exact h2
  · obtain ⟨k1, k2⟩ := m2 hg
    obtain ⟨⟨b, h1⟩, h2, h3, h4⟩ := hi.dom i g k2
    refine ⟨⟨frzMB id kvs b, ?_⟩, h2, ?_, h4⟩
    · simp only at h1 ⊢
      rw [hget_frzMH, if_neg k1, h1]; rfl
    · rintro (h | h)
      · exact h3 h
      · exact k1 (hi.inj _ _ _ k2 h)
  · rcases hb' with h | h
    · exact hi.sb b h
    · obtain ⟨_, h2, _, h4⟩ := hi.dom id b h
      exact ⟨h4, .inr h2⟩
/-- A MAP THAT IS HELD IS WRITTEN NO MORE. -/
theorem cw_freezeM {k : List It} {l : List AV} {H : List (Nat × Blk)} (id : Nat) {kvs : List (Int × AV)} (hb : hget H id = some (.map kvs)) (h : Cw P C Ret k ⟨l.map (frzM id kvs), frzMH id kvs H⟩) : Cw P C Ret k ⟨l, H⟩ :=
  cw_le (fun _ _ ⟨_, _, hi⟩ => ⟨_, _, inv_freezeM hb hi⟩) h
attribute [go_sem] frzM frzML frzMB frzMH

/-! ### A map that is gone through -/
theorem cw_range (hT : TabOK P T) {k : List It} {all : Array Oper} {o : Oper} {l : List Oper} {t : TypeId} {x : Operand} {d : Nat} (ho : o.op = .range t x) (hd : o.dst = some d) (hg : o.guard = none) {kt et : TypeId} (ht : T.und t = .map kt et) {kvs : List (Int × AV)}
    (hx : evS σ x = (True, .rm kvs)) (hf : hget σ.hp d = none) (h : Cw P C Ret (.ops all l :: k) ⟨σ.tm.set d (.ptr d 1 0 0), (d, .iter kvs []) :: σ.hp⟩) : Cw P C Ret (.ops all (o :: l) :: k) σ := by
  refine cw_step (by rw [hg]; rfl) (fun a w K Q ⟨μ, S, hi⟩ hK => ?_) h
  have hv := hi.evS x (by rw [hx]; trivial)
  rw [hx] at hv
  obtain ⟨g, es, clk, vals, hv', h1, h2, h3, h4⟩ := (Rd.inv_rm hv).inv_rm
  have hty : P.underlying t = some (.map kt et) := by have := hT.und t; rw [ht] at this; exact this
  have hax : a.eval x = .map (some g) := hv'
  have hrun : (execOp a.eval o).run P w = .ok (.value (.pointer (some ⟨w.heap.size, 0, none⟩))) (w.alloc (.mapIter (some g) clk #[] clk)) := by
    simp [execOp, ho, hax, run_range_map w t kt et g es clk hty h2]
  unfold Oper.wp
  rw [hrun]
  have hlt := (hi.sb g h1).1
  have hnew := hi.new d hf (.mapIter (some g) clk #[] clk) (.iter kvs []) ⟨w.heap.size, es, clk, vals, #[], by simp [upd], ⟨⟨g, alloc_new w _, h1, by rw [alloc_get w _ g hlt]; exact h2⟩, h3, fun k r h => (by cases h), fun e he k hk => by simp⟩,
    fun p hp => (h4 p hp).mono (fun b hb => alloc_get w _ b (hi.sb b hb).1) (fun _ h => h)⟩
  have hput := hnew.put o.dst (u := .pointer (some ⟨w.heap.size, 0, none⟩)) (x := .ptr d 1 0 0) (by
    have := Rd.ptr (μ := upd μ d (some w.heap.size)) (S := S) (w := w.alloc (.mapIter (some g) clk #[] clk)) d 1 0 0 w.heap.size (by simp [upd])
    simpa using this)
  rw [hd] at hput
  refine hK _ _ ⟨upd μ d (some w.heap.size), S, ?_⟩
  rw [hd]
  exact hput

theorem run_next_at {g bm since c0 : Nat} {seen : Array Nat} {es : Array MapEntry} {clock : Nat} (ty : TypeId) (hg : w.heap[g]? = some (.mapIter (some bm) since seen c0)) (hb : w.heap[bm]? = some (.map es clock)) (hold : ∀ x ∈ es.toList, x.born < since) (hsc : since ≤ c0) :
    ((leftOf es seen).size = 0 ∧ (Instr.next (.pointer (some ⟨g, 0, none⟩)) false ty).run P w = .ok (.tuple #[.bool false]) w) ∨
    ∃ e ∈ (leftOf es seen).toList, ∃ w1 : World, (w1 = w ∨ w1 = w.drew) ∧ (Instr.next (.pointer (some ⟨g, 0, none⟩)) false ty).run P w =
      ((setObj g (.mapIter (some bm) since (seen.push e.born) clock)).run P w1).andThen (fun _ w' => .ok (.tuple #[.bool true, e.key, e.val]) w') := by
  simp only [Instr.next, getObj, Sem.run_bind, Sem.run, hg, hb, Result.andThen, next_test_false seen es since c0 hold hsc, Bool.false_eq_true, if_false]
  unfold leftOf
  have hmem : ∀ x ∈ (Array.filter (fun e => !seen.contains e.born) es).toList, x.born < since := fun x hx => hold x (by simp at hx ⊢; exact hx.1)
  generalize Array.filter (fun e => !seen.contains e.born) es = L at hmem ⊢
  have e1 : L.filter (fun x => decide (x.born < since)) = L := Array.filter_eq_self.2 (fun x hx => by simpa using hmem x (by simpa using hx))
  have e2 : L.filter (fun x => decide (x.born ≥ since)) = #[] := by
    rw [Array.filter_eq_empty_iff]
    intro x hx
    have := hmem x (by simpa using hx)
    simp
    omega
  simp only [e1, e2, Array.append_empty]
  by_cases h0 : L.size = 0
  · left
    have : L = #[] := Array.eq_empty_of_size_eq_zero h0
    subst this
    refine ⟨rfl, ?_⟩
    simp [choose, Sem.run, Question.forced]
  · right
    have hne : L.isEmpty = false := by simp [Array.isEmpty, h0]
    simp only [hne, Bool.false_eq_true, if_false, Array.empty_append, Array.size_map]
    have hch : ∃ (j : Nat) (w1 : World), j < L.size ∧ (w1 = w ∨ w1 = w.drew) ∧ (choose (Question.mapNext L.size)).run P w = .ok j w1 := by
      by_cases hf : L.size ≤ 1
      · exact ⟨0, w, by omega, .inl rfl, by simp [choose, Sem.run, Question.forced, hf]⟩
      · exact ⟨_, w.drew, Nat.mod_lt _ (by omega), .inr rfl, by
          simp only [choose, Sem.run, Question.forced, decide_eq_true_eq, hf, if_false, Question.cut]
          rfl⟩
    obtain ⟨j, w1, hj, hw1, hrun⟩ := hch
    refine ⟨L[j], by simp, w1, hw1, ?_⟩
    simp only [hrun, Array.getElem?_map, Array.getElem?_eq_getElem hj, Option.map_some, Sem.run_bind, Result.andThen]
    rfl

theorem cw_next {k : List It} {all : Array Oper} {o : Oper} {l : List Oper} {x : Operand} {d : Nat} (ho : o.op = .next x false) (hg : o.guard = none) {kvs : List (Int × AV)} {seen : List Int}
    (hx : evS σ x = (True, .ptr d 1 0 0)) (hb : hget σ.hp d = some (.iter kvs seen)) (h1 : (∀ p, p ∈ kvs → p.1 ∈ seen) → Cw P C Ret (.ops all l :: k) (σ.put o.dst (.tup [.bool false])))
    (h2 : ∀ n v, (n, v) ∈ kvs → n ∉ seen → Cw P C Ret (.ops all l :: k) (St.put ⟨σ.tm, hset σ.hp d (.iter kvs (n :: seen))⟩ o.dst (.tup [.bool true, .int .i64 n, v]))) : Cw P C Ret (.ops all (o :: l) :: k) σ := by
  intro a w hrel
  show wpList P all _ (o :: l) a w
  unfold wpList
  obtain ⟨μ, S, hi⟩ := hrel
  rw [wanted_of hi (c := true) (by rw [hg]; rfl)]
  refine .inl ?_
  have hv := hi.evS x (by rw [hx]; trivial)
  rw [hx] at hv
  obtain ⟨g, hμ, hax⟩ := hv.inv_ptr
  obtain ⟨g', es, clk, vals, had, q1, q2, q3⟩ := hi.hp d _ hb
  rw [hμ] at q1; injection q1 with q1; subst q1
  obtain ⟨m, k1, k2, k3⟩ := q2.lies
  have hax' : a.eval x = .pointer (some ⟨g, 0, none⟩) := by simpa using hax
  have hcase := run_next_at (P := P) o.type k1 k3 (fun e he => q2.map.born e he) (Nat.le_refl _)
  unfold Oper.wp
  rcases hcase with ⟨c1, c2⟩ | ⟨e, c1, w1, c2, c3⟩
  · have hrun : (execOp a.eval o).run P w = .ok (.value (.tuple #[.bool false])) w := by
      simp [execOp, ho, hax', c2]
    rw [hrun]
    refine h1 (fun p hp => ?_) _ _ ⟨μ, S, hi.put o.dst (.tup _ _ rfl fun j y hy => ?_)⟩
    · obtain ⟨e, he, hk⟩ := q2.map.has p hp
      refine (q2.had e he p.1 hk).1 ?_
      cases hc : had.contains e.born with
      | true => rfl
      | false =>
        have : e ∈ (leftOf es had).toList := by unfold leftOf; simp at he hc ⊢; exact ⟨he, by simpa using hc⟩
        rw [Array.eq_empty_of_size_eq_zero c1] at this
        simp at this
    · match j, hy with
      | 0, hy => injection hy with hy; subst hy; exact .pure (.bool false)
      | j + 1, hy => simp at hy
  · have he : e ∈ es.toList ∧ had.contains e.born = false := by unfold leftOf at c1; simpa using c1
    obtain ⟨n, v, e1, e2, e3⟩ := q2.map.key e he.1
    have hn : n ∉ seen := fun hm => by rw [(q2.had e he.1 n e1).2 hm] at he; cases he.2
    have hi1 : Inv C μ S σ a w1 := by
      rcases c2 with rfl | rfl
      · exact hi
      · exact hi.drew
    have hh1 : w1.heap = w.heap := by rcases c2 with rfl | rfl <;> rfl
    have hw1 : w1.heap[g]? = some (.mapIter (some m) clk had clk) := by rw [hh1]; exact k1
    obtain ⟨w', r1, r2, r3, r4, r5, r6, r7⟩ := run_setObj (P := P) (o := .mapIter (some m) clk (had.push e.born) clk) hw1 (fun _ _ _ h => nomatch h)
    have hrun : (execOp a.eval o).run P w = .ok (.value (.tuple #[.bool true, e.key, e.val])) w' := by
      rw [r1] at c3
      simp [execOp, ho, hax', c3]
    rw [hrun]
    have hS : ¬ S g := (hi.dom d g hμ).2.2.1
    have hw : SameOn S w w' := fun b hb => by rw [r6 b (by rintro rfl; exact hS hb), hh1]
    have hmg : m ≠ g := by rintro rfl; exact hS k2
    have hnd : (es.toList.map (·.key)).Nodup := q2.map.once
    have hblk : BlkOK μ S w' d (.iter kvs (n :: seen)) := by
      refine ⟨g, es, clk, vals, had.push e.born, hμ, ⟨⟨m, r7, k2, by rw [r6 m hmg, hh1]; exact k3⟩, q2.map, fun k' r' hkr => ?_, fun e' he' k' hk' => ?_⟩, fun p hp => (q3 p hp).mono hw (fun _ h => h)⟩
      · injection hkr with h1 h2
        subst h1
        exact ⟨e, he.1, e1, by simp⟩
      · rw [List.mem_cons]
        have h0 := q2.had e' he' k' hk'
        have hc : (had.push e.born).contains e'.born = (had.contains e'.born || e'.born == e.born) := by
          rw [Bool.eq_iff_iff]; simp
        rw [hc, Bool.or_eq_true, h0, beq_iff_eq]
        constructor
        · rintro (h | h)
          · exact .inr h
          · left
            -- one stamp, one entry
            have : e' = e := by
              have hb := q2.map.nodup
              obtain ⟨i, hi⟩ := List.getElem?_of_mem he'
              obtain ⟨j, hj⟩ := List.getElem?_of_mem he.1
              have h1 : (es.toList.map (·.born))[i]? = some e.born := by rw [List.getElem?_map, hi, ← h]; rfl
              have h2 : (es.toList.map (·.born))[j]? = some e.born := by rw [List.getElem?_map, hj]; rfl
              have := nodup_idx hb h1 h2
              subst this
              rw [hi] at hj; injection hj
            subst this
            rw [e1] at hk'
            injection hk' with _ hk'
            exact hk'.symm
        · rintro (h | h)
          · right
            subst h
            have : e' = e := by
              obtain ⟨i, hi⟩ := List.getElem?_of_mem he'
              obtain ⟨j, hj⟩ := List.getElem?_of_mem he.1
              have h1 : (es.toList.map (·.key))[i]? = some (.int .i64 k') := by rw [List.getElem?_map, hi, ← hk']; rfl
              have h2 : (es.toList.map (·.key))[j]? = some (.int .i64 k') := by rw [List.getElem?_map, hj, ← e1]; rfl
              have := nodup_idx hnd h1 h2
              subst this
              rw [hi] at hj; injection hj
            rw [this]
          · exact .inl h
    have hi2 := hi1.write d g hμ r2 r3 r4 r5 r6 (by simp [rowSize, r7, hw1]) _ hblk
    refine h2 n v e2 hn _ _ ⟨μ, S, Inv.put hi2 o.dst (.tup _ _ rfl fun j y hy => ?_)⟩
    match j, hy with
    | 0, hy => injection hy with hy; subst hy; exact .pure (.bool true)
    | 1, hy =>
      injection hy with hy; subst hy
      show Rd μ S w' e.key (.int .i64 n)
      rw [e1]; exact .pure (.int .i64 n)
    | 2, hy =>
      injection hy with hy; subst hy
      show Rd μ S w' e.val v
      rw [e3]; exact .pure ((q3 (n, v) e2).mono hw (fun _ h => h))
    | j + 3, hy => simp at hy

theorem cw_entry {k : List It} {all : Array Oper} {o : Oper} {l : List Oper} {x : Operand} {d : Nat} (ho : o.op = .entry x) (hg : o.guard = none) {kvs : List (Int × AV)} {n : Int} {seen : List Int} {v : AV}
    (hx : evS σ x = (True, .ptr d 1 0 0)) (hb : hget σ.hp d = some (.iter kvs (n :: seen))) (hv : (n, v) ∈ kvs) (h : Cw P C Ret (.ops all l :: k) (σ.put o.dst (.tup [.int .i64 n, v]))) : Cw P C Ret (.ops all (o :: l) :: k) σ := by
  refine cw_step (by rw [hg]; rfl) (fun a w K Q ⟨μ, S, hi⟩ hK => ?_) h
  have hvx := hi.evS x (by rw [hx]; trivial)
  rw [hx] at hvx
  obtain ⟨g, hμ, hax⟩ := hvx.inv_ptr
  obtain ⟨g', es, clk, vals, had, q1, q2, q3⟩ := hi.hp d _ hb
  rw [hμ] at q1; injection q1 with q1; subst q1
  obtain ⟨m, k1, k2, k3⟩ := q2.lies
  have hax' : a.eval x = .pointer (some ⟨g, 0, none⟩) := by simpa using hax
  obtain ⟨e, he, hk, hl⟩ := q2.last n seen rfl
  have hf : es.find? (·.born == e.born) = some e := by rw [← Array.find?_toList]; exact find_born e es.toList q2.map.nodup he
  have hrun : (execOp a.eval o).run P w = .ok (.value (.tuple #[e.key, e.val])) w := by
    have h0 : (Instr.entry (.pointer (some ⟨g, 0, none⟩))).run P w = .ok (.tuple #[e.key, e.val]) w := by
      simp only [Instr.entry, getObj, Sem.run_bind, Sem.run, k1, k3, Result.andThen, hl, bne_self_eq_false, Bool.false_eq_true, if_false, hf]
      rfl
    simp [execOp, ho, hax', h0]
  unfold Oper.wp
  rw [hrun]
  obtain ⟨n', v', e1, e2, e3⟩ := q2.map.key e he
  rw [hk] at e1; injection e1 with _ e1; subst e1
  have hvv : v' = v := by
    have h1 := mget_of_mem q2.map.rise e2
    have h2 := mget_of_mem q2.map.rise hv
    rw [h1] at h2; injection h2
  subst hvv
  refine hK _ _ ⟨μ, S, hi.put o.dst (.tup _ _ rfl fun j y hy => ?_)⟩
  match j, hy with
  | 0, hy =>
    injection hy with hy; subst hy
    show Rd μ S w e.key (.int .i64 n)
    rw [hk]; exact .pure (.int .i64 n)
  | 1, hy =>
    injection hy with hy; subst hy
    show Rd μ S w e.val v'
    rw [e3]; exact .pure (q3 (n, v') e2)
  | j + 2, hy => simp at hy
end
end Go.Eng

namespace La
open Go Go.Eng Go.Proofs

theorem mget_map {α β : Type} (g : α → β) : ∀ (m : List (Int × α)) (f : Int), mget (m.map fun p => (p.1, g p.2)) f = (mget m f).map g
  | [], _ => rfl
  | p :: r, f => by
    simp only [List.map_cons, mget, mget_map g r f]
    split <;> rfl
theorem mput_map {α β : Type} (g : α → β) : ∀ (m : List (Int × α)) (f : Int) (v : α), mput (m.map fun p => (p.1, g p.2)) f (g v) = (mput m f v).map fun p => (p.1, g p.2)
  | [], _, _ => rfl
  | p :: r, f, v => by
    simp only [List.map_cons, mput, mput_map g r f v]
    split
    · rfl
    · split <;> rfl
theorem mdel_map {α β : Type} (g : α → β) (m : List (Int × α)) (f : Int) : mdel (m.map fun p => (p.1, g p.2)) f = (mdel m f).map fun p => (p.1, g p.2) := by
  unfold mdel; rw [List.filter_map]; rfl

/-- maps of numbers; of truth values -/
def mI (m : List (Int × Int)) : List (Int × AV) := m.map fun p => (p.1, .int .i64 p.2)
def mB (m : List (Int × Bool)) : List (Int × AV) := m.map fun p => (p.1, .bool p.2)
def getB (m : List (Int × Bool)) (f : Int) : Bool := (mget m f).getD false
def getI (m : List (Int × Int)) (f : Int) : Int := (mget m f).getD 0
def hasI (m : List (Int × Int)) (f : Int) : Bool := (mget m f).isSome
@[go_sem] theorem mI_get (m : List (Int × Int)) (f : Int) : (mget (mI m) f).getD (.int .i64 0) = .int .i64 (getI m f) := by
  unfold mI getI; rw [mget_map (fun x => AV.int .i64 x)]; cases mget m f <;> rfl
@[go_sem] theorem mI_has (m : List (Int × Int)) (f : Int) : (mget (mI m) f).isSome = hasI m f := by
  unfold mI hasI; rw [mget_map (fun x => AV.int .i64 x)]; cases mget m f <;> rfl
@[go_sem] theorem mI_put (m : List (Int × Int)) (f x : Int) : mput (mI m) f (.int .i64 x) = mI (mput m f x) := mput_map (fun x => AV.int .i64 x) m f x
@[go_sem] theorem mI_del (m : List (Int × Int)) (f : Int) : mdel (mI m) f = mI (mdel m f) := mdel_map (fun x => AV.int .i64 x) m f
@[go_sem] theorem mB_get (m : List (Int × Bool)) (f : Int) : (mget (mB m) f).getD (.bool false) = .bool (getB m f) := by
  unfold mB getB; rw [mget_map AV.bool]; cases mget m f <;> rfl
@[go_sem] theorem mB_put (m : List (Int × Bool)) (f : Int) (x : Bool) : mput (mB m) f (.bool x) = mB (mput m f x) := mput_map AV.bool m f x
@[go_sem] theorem mB_del (m : List (Int × Bool)) (f : Int) : mdel (mB m) f = mB (mdel m f) := mdel_map AV.bool m f
theorem mI_nil : ([] : List (Int × AV)) = mI [] := rfl
theorem mB_nil : ([] : List (Int × AV)) = mB [] := rfl

/-- maps of nodes -/
def mN (m : List (Int × Node)) : List (Int × AV) := m.map fun p => (p.1, .agg (nodeRow p.2))
theorem mN_get (m : List (Int × Node)) (k : Int) : mget (mN m) k = (mget m k).map fun n => .agg (nodeRow n) := mget_map (fun n => AV.agg (nodeRow n)) m k
theorem mN_put (m : List (Int × Node)) (k : Int) (n : Node) : mput (mN m) k (.agg (nodeRow n)) = mN (mput m k n) := mput_map (fun n => AV.agg (nodeRow n)) m k n
theorem mN_del (m : List (Int × Node)) (k : Int) : mdel (mN m) k = mN (mdel m k) := mdel_map (fun n => AV.agg (nodeRow n)) m k

def RiseM {α : Type} (m : List (Int × α)) : Prop := m.Pairwise fun a b => a.1 < b.1
theorem getB_put {m : List (Int × Bool)} (h : RiseM m) (f : Int) (b : Bool) (x : Int) : getB (mput m f b) x = if x = f then b else getB m x := by
  unfold getB; rw [mget_mput h]; split <;> rfl

end La

namespace La
open Go Go.Eng

inductive MReach (m : List (Int × Node)) (k : Int) : Int → Prop
  | refl : MReach m k k
  | step {x : Int} {n : Node} {e : Entry} (h : MReach m k x) (hn : mget m x = some n) (he : e ∈ n.entries) : MReach m k e.fid
def allF (m : List (Int × Node)) : List Int := m.flatMap fun p => p.2.entries.map (·.fid)
theorem allF_mem {m : List (Int × Node)} {x : Int} {n : Node} {e : Entry} (hn : mget m x = some n) (he : e ∈ n.entries) : e.fid ∈ allF m :=
  List.mem_flatMap.2 ⟨_, mget_mem hn, List.mem_map.2 ⟨e, he, rfl⟩⟩
def unseen (m : List (Int × Node)) (had : List (Int × Bool)) : Nat := ((allF m).filter fun f => !(getB had f)).length
theorem unseen_put {m : List (Int × Node)} {had : List (Int × Bool)} (hr : RiseM had) {f : Int} (hf : f ∈ allF m) (h : getB had f = false) : unseen m (mput had f true) + 1 ≤ unseen m had := by
  unfold unseen
  generalize allF m = l at hf
  have hle : ∀ l : List Int, (l.filter fun x => !(getB (mput had f true) x)).length ≤ (l.filter fun x => !(getB had x)).length := fun l => by
    induction l with
    | nil => simp
    | cons x r ih =>
      rw [List.filter_cons, List.filter_cons, getB_put hr]
      by_cases hx : x = f
      · subst hx; simp [h]; omega
      · simp only [hx, if_false]; split <;> (try simp only [List.length_cons]) <;> omega
  induction l with
  | nil => cases hf
  | cons x r ih =>
    rw [List.filter_cons, List.filter_cons, getB_put hr]
    by_cases hx : x = f
    · subst hx
      have := hle r
      simp [h]; omega
    · have hf2 : f ∈ r := by
        rcases List.mem_cons.1 hf with h1 | h1
        · exact absurd h1.symm hx
        · exact h1
      have := ih hf2
      simp only [hx, if_false]
      split <;> (try simp only [List.length_cons]) <;> omega

/-- where the search is: 'T' is to be gone through yet -/
structure BI (m : List (Int × Node)) (k : Int) (had : List (Int × Bool)) (T : List Int) : Prop where
  rise : RiseM had
  sound : ∀ x, getB had x = true → MReach m k x
  start : getB had k = true
  todo : ∀ x, x ∈ T → getB had x = true
  shut : ∀ x, getB had x = true → x ∉ T → ∀ n, mget m x = some n → ∀ e, e ∈ n.entries → getB had e.fid = true
  size : T.length + unseen m had ≤ (allF m).length + 1
/-- at an entry of the first one that is to be gone through -/
structure BJ (m : List (Int × Node)) (k : Int) (x : Int) (n : Node) (c : Nat) (j : Nat) (had : List (Int × Bool)) (T : List Int) : Prop where
  at_ : mget m x = some n
  rise : RiseM had
  sound : ∀ x, getB had x = true → MReach m k x
  start : getB had k = true
  todo : ∀ x, x ∈ T → getB had x = true
  shut : ∀ x, getB had x = true → x ∉ T → ∀ n, mget m x = some n → ∀ e, e ∈ n.entries → getB had e.fid = true
  done : ∀ e, e ∈ n.entries.take j → getB had e.fid = true
  head : ∃ r, T = x :: r
  size : T.length + unseen m had ≤ c

theorem BI.begin (m : List (Int × Node)) (k : Int) : BI m k (mput [] k true) [k] := by
  have hr : RiseM ([] : List (Int × Bool)) := List.Pairwise.nil
  have hg : ∀ x, getB (mput [] k true) x = true → x = k := fun x h => by
    rw [getB_put hr] at h
    by_cases e : x = k
    · exact e
    · rw [if_neg e] at h; cases h
  refine ⟨mput_rise hr, fun x h => by rw [hg x h]; exact .refl, by rw [getB_put hr, if_pos rfl], fun x h => by rw [List.mem_singleton.1 h, getB_put hr, if_pos rfl], fun x h hn => absurd (List.mem_singleton.2 (hg x h)) hn, ?_⟩
  have : unseen m (mput [] k true) ≤ (allF m).length := List.length_filter_le _ _
  simp; omega
theorem BI.inner {m : List (Int × Node)} {k : Int} {had : List (Int × Bool)} {x : Int} {r : List Int} (h : BI m k had (x :: r)) {n : Node} (hn : mget m x = some n) : BJ m k x n ((x :: r).length + unseen m had) 0 had (x :: r) :=
  ⟨hn, h.rise, h.sound, h.start, h.todo, h.shut, fun e he => by simp at he, ⟨r, rfl⟩, Nat.le_refl _⟩
theorem BI.none {m : List (Int × Node)} {k : Int} {had : List (Int × Bool)} {x : Int} {r : List Int} (h : BI m k had (x :: r)) (hn : mget m x = none) : BI m k had r :=
  ⟨h.rise, h.sound, h.start, fun y hy => h.todo y (List.mem_cons_of_mem _ hy), fun y hy hno n hmn => h.shut y hy (fun hm => by
    rcases List.mem_cons.1 hm with rfl | hm
    · rw [hn] at hmn; cases hmn
    · exact hno hm) n hmn, by have := h.size; simp at this; omega⟩
theorem BJ.pop {m : List (Int × Node)} {k x : Int} {n : Node} {c : Nat} {had : List (Int × Bool)} {T : List Int} (h : BJ m k x n c n.entries.length had T) (hc : c ≤ (allF m).length + 1) :
    BI m k had (T.drop 1) ∧ (T.drop 1).length + unseen m had < c := by
  obtain ⟨r, rfl⟩ := h.head
  have hs := h.size
  simp only [List.length_cons] at hs
  simp only [List.drop_succ_cons, List.drop_zero]
  refine ⟨⟨h.rise, h.sound, h.start, fun y hy => h.todo y (List.mem_cons_of_mem _ hy), fun y hy hno n' hmn e he => ?_, by omega⟩, by omega⟩
  by_cases hyx : y = x
  · subst hyx
    rw [h.at_] at hmn; injection hmn with hmn; subst hmn
    exact h.done e (by rw [List.take_length]; exact he)
  · exact h.shut y hy (fun hm => by
      rcases List.mem_cons.1 hm with h1 | h1
      · exact hyx h1
      · exact hno h1) n' hmn e he
theorem BJ.skip {m : List (Int × Node)} {k x : Int} {n : Node} {c j : Nat} {had : List (Int × Bool)} {T : List Int} (h : BJ m k x n c j had T) (hj : j < n.entries.length) (hb : getB had (n.entries.getD j default).fid = true) : BJ m k x n c (j + 1) had T :=
  ⟨h.at_, h.rise, h.sound, h.start, h.todo, h.shut, fun e he => by
    rw [take_succ_getD hj] at he
    rcases List.mem_append.1 he with he | he
    · exact h.done e he
    · rw [List.mem_singleton.1 he]; exact hb, h.head, h.size⟩
theorem BJ.add {m : List (Int × Node)} {k x : Int} {n : Node} {c j : Nat} {had : List (Int × Bool)} {T : List Int} (h : BJ m k x n c j had T) (hj : j < n.entries.length) (hb : getB had (n.entries.getD j default).fid = false) :
    BJ m k x n c (j + 1) (mput had (n.entries.getD j default).fid true) (T ++ [(n.entries.getD j default).fid]) := by
  have hmem : n.entries.getD j default ∈ n.entries := getD_mem hj
  have htk : ∀ e, e ∈ n.entries.take (j + 1) → e ∈ n.entries.take j ∨ e = n.entries.getD j default := fun e he => by
    rw [take_succ_getD hj] at he
    rcases List.mem_append.1 he with he | he
    · exact .inl he
    · exact .inr (List.mem_singleton.1 he)
  generalize n.entries.getD j default = f at *
  have hg : ∀ y, getB (mput had f.fid true) y = if y = f.fid then true else getB had y := getB_put h.rise f.fid true
  have hmono : ∀ y, getB had y = true → getB (mput had f.fid true) y = true := fun y hy => by rw [hg]; split <;> first | rfl | exact hy
  obtain ⟨r, hr⟩ := h.head
  have hx : getB had x = true := h.todo x (by rw [hr]; simp)
  refine ⟨h.at_, mput_rise h.rise, fun y hy => ?_, hmono _ h.start, fun y hy => ?_, fun y hy hno n' hmn e he => ?_, fun e he => ?_, ⟨r ++ [f.fid], by rw [hr]; rfl⟩, ?_⟩
  · rw [hg] at hy
    split at hy
    · rename_i e; subst e; exact .step (h.sound x hx) h.at_ hmem
    · exact h.sound y hy
  · rcases List.mem_append.1 hy with hy | hy
    · exact hmono _ (h.todo y hy)
    · rw [List.mem_singleton.1 hy, hg, if_pos rfl]
  · rw [hg] at hy
    split at hy
    · rename_i e'; exact absurd (List.mem_append_right _ (List.mem_singleton.2 e')) hno
    · exact hmono _ (h.shut y hy (fun hm => hno (List.mem_append_left _ hm)) n' hmn e he)
  · rcases htk e he with h1 | h1
    · exact hmono _ (h.done e h1)
    · rw [h1, hg, if_pos rfl]
  · have := unseen_put h.rise (allF_mem h.at_ hmem) hb
    have := h.size
    simp only [List.length_append, List.length_cons, List.length_nil]
    omega
theorem BI.fin {m : List (Int × Node)} {k : Int} {had : List (Int × Bool)} (h : BI m k had []) (x : Int) : getB had x = true ↔ MReach m k x := by
  refine ⟨h.sound x, fun hr => ?_⟩
  induction hr with
  | refl => exact h.start
  | step hr hn he ih => exact h.shut _ ih (by simp) _ hn _ he
end La

namespace La
open Go Go.Eng Go.Proofs
set_option maxRecDepth 10000
set_option linter.unusedSimpArgs false
set_option linter.unusedVariables false

def cmpS (a b : List UInt8) : Int := if a < b then -1 else if b < a then 1 else 0
theorem cmpS_lt (a b : List UInt8) : decide (cmpS a b < 0) = decide (a < b) := by
  unfold cmpS
  split
  · rename_i h; simp [h]
  · rename_i h
    split
    · simp [h]
    · simp [h]
theorem cmpS_eq (a b : List UInt8) : decide (cmpS a b = 0) = decide (a = b) := by
  unfold cmpS
  split
  · rename_i h
    have : a ≠ b := by rintro rfl; exact sirr _ h
    simp [this]
  · rename_i h
    split
    · rename_i h2
      have : a ≠ b := by rintro rfl; exact sirr _ h2
      simp [this]
    · rename_i h2
      simp [stri h h2]

theorem isNaNS_ok (a : List UInt8) : FnOK Try.prog 141 [.str a] [] (fun r _ => r = .bool false) := by
  refine fn_of_cwW tabOK (Go.Proofs.Try.func141) rfl (fun C => ?_)
  simp only [Go.Proofs.Try.ntmps141, Go.Proofs.Try.results141, go_sem]
  refine cw_go tabOK 99 (by simp only [go_sem]; try exact rfl) (by simp [go_sem]) ?_
  refine cw_ret ⟨_, _, (by simp only [go_sem]; try exact rfl), by simp [go_sem], _, .inr (.inl rfl), ?_⟩
  simp

theorem compareS_ok (a b : List UInt8) : FnOK Try.prog 93 [.str a, .str b] [] (fun r _ => r = .int .i64 (cmpS a b)) := by
  refine fn_of_cwW tabOK (Go.Proofs.Try.func93) rfl (fun C => ?_)
  simp only [Go.Proofs.Try.ntmps93, Go.Proofs.Try.results93, go_sem]
  refine cw_go tabOK 99 (by simp only [go_sem]; try exact rfl) (by simp [go_sem]) ?_
  refine cw_call rfl rfl (by simp only [go_sem]; try exact rfl) (by simp [go_sem]) ⟨_, Go.Proofs.Try.func141, by kernel_rfl, rfl⟩ (by simp [go_sem]) (isNaNS_ok a) (by simp [go_sem]) (by simp only [go_sem]; exact rfl) ?_
  refine cw_go tabOK 99 (by simp only [go_sem]; try exact rfl) (by simp [go_sem]) ?_
  refine cw_call rfl rfl (by simp only [go_sem]; try exact rfl) (by simp [go_sem]) ⟨_, Go.Proofs.Try.func141, by kernel_rfl, rfl⟩ (by simp [go_sem]) (isNaNS_ok b) (by simp [go_sem]) (by simp only [go_sem]; exact rfl) ?_
  refine cw_go tabOK 99 (by simp only [go_sem]; try exact rfl) (by simp [go_sem]) ?_
  refine cw_cond (by simp only [go_sem]; try exact rfl) trivial (fun h => ?_) (fun h => ?_)
  · cases h
  refine cw_go tabOK 99 (by simp only [go_sem]; try exact rfl) (by simp [go_sem]) ?_
  refine cw_cond (by simp only [go_sem]; try exact rfl) trivial (fun h => ?_) (fun h => ?_)
  · cases h
  refine cw_go tabOK 99 (by simp only [go_sem]; try exact rfl) (by simp [go_sem]) ?_
  refine cw_cond (by simp only [go_sem]; try exact rfl) trivial (fun h => ?_) (fun h => ?_)
  · rename_i h0 h1 
    have hab : a < b := by rw [less_iff] at h; exact of_decide_eq_true h
    refine cw_go tabOK 99 (by simp only [go_sem]; try exact rfl) (by simp [go_sem]) ?_
    refine cw_ret ⟨_, _, (by simp only [go_sem]; try exact rfl), by simp [go_sem], _, .inr (.inl rfl), ?_⟩
    simp [cmpS, hab]
  have hab : ¬ a < b := by rw [less_iff] at h; exact of_decide_eq_false h
  refine cw_go tabOK 99 (by simp only [go_sem]; try exact rfl) (by simp [go_sem]) ?_
  refine cw_cond (by simp only [go_sem]; try exact rfl) trivial (fun h => ?_) (fun h => ?_)
  · have hba : b < a := by
      rw [less_iff] at h
      by_cases h3 : b < a
      · exact h3
      · have := stri hab h3
        subst this
        simp at h
    refine cw_go tabOK 99 (by simp only [go_sem]; try exact rfl) (by simp [go_sem]) ?_
    refine cw_ret ⟨_, _, (by simp only [go_sem]; try exact rfl), by simp [go_sem], _, .inr (.inl rfl), ?_⟩
    simp [cmpS, hab, hba]
  have hba : ¬ b < a := by
    intro h3
    have hne : a ≠ b := by rintro rfl; exact sirr _ h3
    rw [less_iff] at h
    simp [hab, hne] at h
  refine cw_go tabOK 99 (by simp only [go_sem]; try exact rfl) (by simp [go_sem]) ?_
  refine cw_ret ⟨_, _, (by simp only [go_sem]; try exact rfl), by simp [go_sem], _, .inr (.inl rfl), ?_⟩
  simp [cmpS, hab, hba]

theorem entryCmp_ok (e : Entry) (s : List UInt8) : FnOK Try.prog 92 [.agg (entryRow e), .str s] [] (fun r _ => r = .int .i64 (cmpS e.name s)) := by
  unfold entryRow
  refine fn_of_cwW tabOK (Go.Proofs.Try.func92) rfl (fun C => ?_)
  simp only [Go.Proofs.Try.ntmps92, Go.Proofs.Try.results92, go_sem]
  refine cw_go tabOK 99 (by simp only [go_sem]; try exact rfl) (by simp [go_sem]) ?_
  refine cw_call rfl rfl (by simp only [go_sem]; try exact rfl) (by simp [go_sem]) ⟨_, Go.Proofs.Try.func93, by kernel_rfl, rfl⟩ (by simp [go_sem]) (compareS_ok e.name s) (by simp [go_sem]) (by simp only [go_sem]; exact rfl) ?_
  refine cw_go tabOK 99 (by simp only [go_sem]; try exact rfl) (by simp [go_sem]) ?_
  refine cw_ret ⟨_, _, (by simp only [go_sem]; try exact rfl), by simp [go_sem], _, .inr (.inl rfl), ?_⟩
  rfl
theorem enterCmp_ok (e : Entry) (s : List UInt8) : FnOK Try.prog 94 [.agg (entryRow e), .str s] [] (fun r _ => r = .int .i64 (cmpS e.name s)) := by
  unfold entryRow
  refine fn_of_cwW tabOK (Go.Proofs.Try.func94) rfl (fun C => ?_)
  simp only [Go.Proofs.Try.ntmps94, Go.Proofs.Try.results94, go_sem]
  refine cw_go tabOK 99 (by simp only [go_sem]; try exact rfl) (by simp [go_sem]) ?_
  refine cw_call rfl rfl (by simp only [go_sem]; try exact rfl) (by simp [go_sem]) ⟨_, Go.Proofs.Try.func93, by kernel_rfl, rfl⟩ (by simp [go_sem]) (compareS_ok e.name s) (by simp [go_sem]) (by simp only [go_sem]; exact rfl) ?_
  refine cw_go tabOK 99 (by simp only [go_sem]; try exact rfl) (by simp [go_sem]) ?_
  refine cw_ret ⟨_, _, (by simp only [go_sem]; try exact rfl), by simp [go_sem], _, .inr (.inl rfl), ?_⟩
  rfl

theorem entry_search (l : List Entry) (s : List UInt8) (hlen : l.length ≤ 100000000) {f : FuncId} (hcal : Callable Try.prog f) (hf : ∀ e, FnOK Try.prog f [.agg (entryRow e), .str s] [] (fun r _ => r = .int .i64 (cmpS e.name s))) :
    FnOK Try.prog 91 [.sl (l.map entryRow), .str s, .fn f []] [] (fun r _ => r = .tup [.int .i64 (eplace l s), .bool (isE l s)]) := by
  refine fn_of_cwW tabOK (Go.Proofs.Try.func91) rfl (fun C => ?_)
  simp only [Go.Proofs.Try.ntmps91, Go.Proofs.Try.results91, go_sem]
  refine cw_go tabOK 99 (by simp only [go_sem]; try exact rfl) (by simp [go_sem]) ?_
  refine cw_loopS (fun i : Nat × Nat => i.1 ≤ i.2 ∧ i.2 ≤ l.length ∧ bsearch (eltAt l s) (i.2 - i.1) i.1 i.2 = eplace l s) (fun i => i.2 - i.1) (fun i => [(9, .int .i64 i.1), (10, .int .i64 i.2), (11, .any), (15, .any), (16, .any), (17, .any), (18, .any), (19, .any), (20, .any), (21, .any), (22, .any), (23, .any), (24, .any), (25, .any), (26, .any), (27, .any), (28, .any), (29, .any), (30, .any), (31, .any), (32, .any), (33, .any), (34, .any)]) (fun _ => []) (0, l.length) ⟨by simp, by simp, rfl⟩ ?_ fun i hi => ?_
  · simp only [go_sem]
    exact le_sub (by simp [go_sem]) (by simp [go_sem]) (by simp [go_sem])
  obtain ⟨lo, hi'⟩ := i
  obtain ⟨h1, h2, h3⟩ := hi
  simp only at h1 h2 h3
  simp only [go_sem]
  refine cw_go tabOK 99 (by simp only [go_sem]; try exact rfl) (by simp [go_sem]) ?_
  refine cw_cond (by simp only [go_sem]; try exact rfl) trivial (fun h => ?_) (fun h => ?_)
  · have hlt : lo < hi' := by simp at h; omega
    have hml : (lo + hi') / 2 < l.length := by omega
    have hn := hf (l.getD ((lo + hi') / 2) default)
    have hg : (l.map entryRow).getD ((lo + hi') / 2) [] = entryRow (l.getD ((lo + hi') / 2) default) := Fam.getD hml
    have hmid : IntKind.i64.wrap ((IntKind.u64.wrap (IntKind.i64.wrap ((lo : Int) + (hi' : Int)))).fdiv (2 ^ min 1 64)) = (((lo + hi') / 2 : Nat) : Int) := mid_ok (by omega)
    have hst := bsearch_step (eltAt l s) hlt
    have hlm : eltAt l s ((lo + hi') / 2) = decide ((l.getD ((lo + hi') / 2) default).name < s) := rfl
    have hm1 : lo ≤ (lo + hi') / 2 := by omega
    have hm2 : (lo + hi') / 2 < hi' := by omega
    generalize l.getD ((lo + hi') / 2) default = n at hn hg hlm
    generalize (lo + hi') / 2 = m at *
    refine cw_go tabOK 99 (by simp only [go_sem, hmid, hg, entryRow]; try exact rfl) ?_ ?_
    · simp [hmid, hg, hml, entryRow]
    refine cw_call rfl rfl (by simp only [go_sem]; try exact rfl) (by simp [go_sem]) hcal (by simp [go_sem, ne_eq]) (hn) (by simp [go_sem]) (by simp only [go_sem]; exact rfl) ?_
    refine cw_go tabOK 99 (by simp only [go_sem]; try exact rfl) (by simp [go_sem]) ?_
    refine cw_cond (by simp only [go_sem]; try exact rfl) trivial (fun h => ?_) (fun h => ?_)
    · rw [cmpS_lt, ← hlm] at h
      rw [h, if_pos rfl] at hst
      have hw : IntKind.i64.wrap ((m : Int) + 1) = ((m + 1 : Nat) : Int) := by rw [Eng.wrap_small (by omega) (by omega)]; omega
      refine cw_go tabOK 99 (by simp only [go_sem, hw]; try exact rfl) (by simp [go_sem, hw]) ?_
      refine cw_back ⟨(m + 1, hi'), ⟨by omega, h2, hst ▸ h3⟩, by simp; omega, le_sub ?_ ?_ ?_⟩
      · simp [go_sem]
      · simp [go_sem]
      · simp [go_sem]
    · rw [cmpS_lt, ← hlm] at h
      rw [h, if_neg (by simp)] at hst
      refine cw_go tabOK 99 (by simp only [go_sem]; try exact rfl) (by simp [go_sem]) ?_
      refine cw_back ⟨(lo, m), ⟨by omega, by omega, hst ▸ h3⟩, by simp; omega, le_sub ?_ ?_ ?_⟩
      · simp [go_sem]
      · simp [go_sem]
      · simp [go_sem]
  · have hge : ¬ lo < hi' := by simp at h; omega
    rw [bsearch_end _ hge] at h3
    subst h3
    refine cw_goR 99 (by simp only [go_sem]; try exact rfl) ?_
    refine cw_runN tabOK 5 (by simp only [go_sem]; exact rfl) (by simp only [go_sem]; exact rfl) (by simp only [go_sem]; try exact rfl) (by simp [go_sem]) ?_
    refine cw_name 39 (by simp only [go_sem]; exact rfl) (fun c39 h39 => ?_)
    simp only [go_sem]
    cases c39 with
    | true =>
      have hpl : eplace l s < l.length := by have := of_decide_eq_true h39; omega
      have hn := hf (l.getD (eplace l s) default)
      have hg : (l.map entryRow).getD (eplace l s) [] = entryRow (l.getD (eplace l s) default) := Fam.getD hpl
      have hat : isE l s = decide ((l.getD (eplace l s) default).name = s) := by simp [isE, hpl]
      generalize l.getD (eplace l s) default = n at hn hg hat
      refine cw_go tabOK 99 (by simp only [go_sem, hg, entryRow]; try exact rfl) ?_ ?_
      · simp [hg, hpl, entryRow]
      refine cw_callC rfl (by simp only [go_sem]; try exact rfl) (by simp only [go_sem]; try exact rfl) (by simp [go_sem]) hcal (by simp [go_sem]) (fun hb => (hn)) (by simp [go_sem]) (by simp only [go_sem]; exact rfl) ?_
      refine cw_go tabOK 99 (by simp only [go_sem]; try exact rfl) (by simp [go_sem]) ?_
      refine cw_ret ⟨_, _, (by simp only [go_sem]; try exact rfl), by simp [go_sem], _, .inr (.inl rfl), ?_⟩
      have e : (cmpS n.name s == 0) = decide (n.name = s) := by rw [← cmpS_eq]; by_cases h0 : cmpS n.name s = 0 <;> simp [h0]
      simp [hat, e]
    | false =>
      have hpl : ¬ eplace l s < l.length := by have := of_decide_eq_false h39; omega
      have hat : isE l s = false := by simp [isE, hpl]
      refine cw_go tabOK 99 (by simp only [go_sem]; try exact rfl) (by simp [go_sem]) ?_
      refine cw_pass (.int .i64 0) rfl ?_
      simp only [go_sem]
      refine cw_go tabOK 99 (by simp only [go_sem]; try exact rfl) (by simp [go_sem]) ?_
      refine cw_ret ⟨_, _, (by simp only [go_sem]; try exact rfl), by simp [go_sem], _, .inr (.inl rfl), ?_⟩
      simp [hat]

def optInt : Option Int → AV
  | none => .tup [.int .i64 0, .bool false]
  | some f => .tup [.int .i64 f, .bool true]
@[go_sem, simp] theorem optInt_refs (o : Option Int) : refs (optInt o) = [] := by cases o <;> simp [optInt, refs, refsL]
theorem entry_ok (n : Node) (s : List UInt8) (hn : n.Small) : FnOK Try.prog 36 [.agg (nodeRow n), .str s] [] (fun r _ => r = optInt (entryN n s)) := by
  have hlen := hn.entries
  unfold nodeRow
  refine fn_of_cwW tabOK (Go.Proofs.Try.func36) rfl (fun C => ?_)
  simp only [Go.Proofs.Try.ntmps36, Go.Proofs.Try.results36, go_sem]
  refine cw_go tabOK 99 (by simp only [go_sem]; try exact rfl) (by simp [go_sem]) ?_
  refine cw_call rfl rfl (by simp only [go_sem]; try exact rfl) (by simp [go_sem]) ⟨_, Go.Proofs.Try.func91, by kernel_rfl, rfl⟩ (by simp [go_sem]) (entry_search n.entries s hlen ⟨_, Go.Proofs.Try.func92, by kernel_rfl, rfl⟩ (fun e => entryCmp_ok e s)) (by simp [go_sem]) (by simp only [go_sem]; exact rfl) ?_
  refine cw_go tabOK 99 (by simp only [go_sem]; try exact rfl) (by simp [go_sem]) ?_
  refine cw_cond (by simp only [go_sem]; try exact rfl) trivial (fun h => ?_) (fun h => ?_)
  · have hat : isE n.entries s = false := by simpa using h
    refine cw_go tabOK 99 (by simp only [go_sem]; try exact rfl) (by simp [go_sem]) ?_
    refine cw_ret ⟨_, _, (by simp only [go_sem]; try exact rfl), by simp [go_sem], _, .inr (.inl rfl), ?_⟩
    simp [entryN, hat, optInt]
  · have hat : isE n.entries s = true := by simpa using h
    have hpl : eplace n.entries s < n.entries.length := by
      unfold isE at hat
      rw [Bool.and_eq_true] at hat
      exact of_decide_eq_true hat.1
    have hg : (n.entries.map entryRow).getD (eplace n.entries s) [] = entryRow (n.entries.getD (eplace n.entries s) default) := Fam.getD hpl
    have hr : entryN n s = some (n.entries.getD (eplace n.entries s) default).fid := by simp [entryN, hat]
    rw [hr]
    generalize n.entries.getD (eplace n.entries s) default = e at hg
    refine cw_go tabOK 99 (by simp only [go_sem, hg, entryRow]; try exact rfl) ?_ ?_
    · simp [hg, hpl, entryRow]
    refine cw_ret ⟨_, _, (by simp only [go_sem]; try exact rfl), by simp [go_sem], _, .inr (.inl rfl), ?_⟩
    simp [optInt]
end La

namespace La
open Go Go.Eng Go.Proofs
set_option maxRecDepth 10000
set_option linter.unusedSimpArgs false
set_option linter.unusedVariables false

theorem clone_entriesH (d : List Entry) (hd : d.length ≤ 100000000) : FnOK Try.prog 135 [.sl (d.map entryRow)] [] (fun r H => r = .osl 7 2 0 d.length ∧ ∀ i b, hget [(7, .cells 115 2 (d.map entryRow))] i = some b → hget H i = some b) := by
  refine fn_of_cwW tabOK (Go.Proofs.Try.func135) rfl (fun C => ?_)
  simp only [Go.Proofs.Try.ntmps135, Go.Proofs.Try.results135, go_sem]
  refine cw_go tabOK 99 (by simp only [go_sem]; try exact rfl) (by simp [go_sem]) ?_
  refine cw_nileq tabOK rfl rfl rfl (by first | rfl | (simp only [go_sem]; exact rfl)) (by first | rfl | (simp only [go_sem]; exact rfl)) (fun b hb => ?_)
  simp only [go_sem]
  refine cw_go tabOK 99 (by simp only [go_sem]; try exact rfl) (by simp [go_sem]) ?_
  refine cw_cond (by simp only [go_sem]; try exact rfl) trivial (fun h => ?_) (fun h => ?_)
  · have hn : d.map entryRow = [] := hb h
    have hd0 : d = [] := by simpa using hn
    subst hd0
    refine cw_le (le_empty 7 115 2 rfl) ?_
    refine cw_go tabOK 99 (by simp only [go_sem]; try exact rfl) (by simp [go_sem]) ?_
    refine cw_ret ⟨_, _, by simp only [go_sem]; try exact rfl, by simp [go_sem], .osl 7 2 0 0, .inr (.inr ⟨rfl, .inr ⟨7, 2, 0, rfl⟩⟩), ?_⟩
    simp [go_sem]
  · refine cw_go tabOK 99 (by simp only [go_sem]; try exact rfl) ?_ ?_
    · simp; omega
    refine cw_ret ⟨_, _, (by simp only [go_sem]; try exact rfl), by simp [go_sem], _, .inr (.inl rfl), ?_⟩
    simp [go_sem]

def heldRow (n : Node) (id : Nat) : List AV := [.int .i64 n.fid, .bool n.dir, .sl (n.data.map byteRow), .osl id 2 0 n.entries.length, .int .i64 n.version]
@[go_sem, simp] theorem heldRow_eq (n : Node) (id : Nat) : heldRow n id = [.int .i64 n.fid, .bool n.dir, .sl (n.data.map byteRow), .osl id 2 0 n.entries.length, .int .i64 n.version] := rfl
theorem own_oneH (n : Node) (hn : n.Small) : FnOK Try.prog 86 [.sl [nodeRow n]] [] (fun r H => r = .osl 23 5 0 1 ∧ ∀ i b, hget [(23, .cells 46 5 [heldRow n 1000]), (1000, .cells 115 2 (n.entries.map entryRow))] i = some b → hget H i = some b) := by
  refine fn_of_cwW tabOK (Go.Proofs.Try.func86) rfl (fun C => ?_)
  simp only [Go.Proofs.Try.ntmps86, Go.Proofs.Try.results86, go_sem]
  refine cw_go tabOK 99 (by simp only [go_sem]; try exact rfl) (by simp [go_sem]) ?_
  refine cw_loopS (fun _ : Bool => True) (fun i => cond i 1 0) (fun i => match i with
      | true => [(3, .osl 23 5 0 0), (5, .any), (8, .int .i64 0), (9, .any), (10, .any), (11, .any), (12, .any), (13, .any), (14, .any), (15, .any), (16, .any), (17, .any), (18, .any), (19, .any), (20, .any), (21, .any), (22, .any), (23, .any), (24, .any)]
      | false => [(3, .osl 23 5 0 1), (5, .any), (8, .int .i64 1), (9, .any), (10, .any), (11, .any), (12, .any), (13, .any), (14, .any), (15, .any), (16, .any), (17, .any), (18, .any), (19, .any), (20, .any), (21, .any), (22, .any), (23, .any), (24, .any)])
    (fun i => match i with
      | true => [(23, .cells 46 5 [])]
      | false => [(23, .cells 46 5 [heldRow n 1000]), (1000, .cells 115 2 (n.entries.map entryRow))]) true trivial ?_ fun i hi => ?_
  · simp only [go_sem]
    exact le_sub (by simp [go_sem]) (by simp [go_sem]) (by simp only [go_sem])
  cases i with
  | true =>
    simp only [go_sem]
    refine cw_go tabOK 99 (by simp only [go_sem]; try exact rfl) (by simp [go_sem]) ?_
    refine cw_cond (by simp only [go_sem]; try exact rfl) trivial (fun h => ?_) (fun h => ?_)
    · refine cw_go tabOK 99 (by simp only [go_sem, nodeRow]; try exact rfl) ?_ ?_
      · simp [nodeRow]
      refine cw_draw mixed ?_
      refine seg_start rfl ?_
      refine seg_run tabOK (by simp only [go_sem]; try exact rfl) (by simp [go_sem]) (by simp only [go_sem]; exact rfl) ?_
      refine seg_call rfl rfl (by simp only [go_sem]; try exact rfl) (by simp [go_sem]) ⟨_, Go.Proofs.Try.func128, by kernel_rfl, rfl⟩ (by simp [go_sem]) (clone_bytes _ hn.data) (by simp [go_sem]) (by simp only [go_sem]; exact rfl) (by simp only [go_sem]; exact rfl) ?_
      refine seg_run tabOK (by simp only [go_sem]; try exact rfl) (by simp [go_sem]) (by simp only [go_sem]; exact rfl) ?_
      refine seg_callN 993 rfl rfl (by simp only [go_sem]; try exact rfl) (by simp [go_sem]) ⟨_, Go.Proofs.Try.func135, by kernel_rfl, rfl⟩ (by simp [go_sem]) (clone_entriesH _ hn.entries) (by simp [go_sem]) (by simp only [go_sem]; try exact rfl) (by simp only [go_sem]; try exact rfl) (by simp [go_sem]) (by simp only [go_sem]; exact rfl) (by simp only [go_sem]; exact rfl) ?_
      refine seg_run tabOK (by simp only [go_sem]; try exact rfl) (by simp [go_sem]) (by simp only [go_sem]; exact rfl) ?_
      refine seg_end (by kernel_rfl) (by simp only [go_sem]; exact rfl) ?_
      refine draw_step tabOK rfl (by kernel_rfl) rfl (by simp only [go_sem]; try exact rfl) (by simp [go_sem]) rfl ?_
      refine seg_start rfl ?_
      refine seg_run tabOK (by simp only [go_sem]; try exact rfl) (by simp [go_sem]) (by simp only [go_sem]; exact rfl) ?_
      refine seg_end (by kernel_rfl) (by simp only [go_sem]; exact rfl) ?_
      refine draw_step tabOK rfl (by kernel_rfl) rfl (by simp only [go_sem]; try exact rfl) (by simp [go_sem]) rfl ?_
      refine draw_close (by kernel_rfl) ?_
      refine cw_go tabOK 99 (by simp only [go_sem]; try exact rfl) ?_ ?_
      · simp [rowsOf]
      refine cw_back ⟨false, by simp, le_sub ?_ ?_ ?_⟩
      · simp [go_sem]; rfl
      · simp [go_sem, heldRow]
      · simp [go_sem, heldRow]
    · simp at h
  | false =>
    simp only [go_sem]
    refine cw_go tabOK 99 (by simp only [go_sem]; try exact rfl) (by simp [go_sem]) ?_
    refine cw_cond (by simp only [go_sem]; try exact rfl) trivial (fun h => ?_) (fun h => ?_)
    · simp at h
    refine cw_go tabOK 99 (by simp only [go_sem]; try exact rfl) (by simp [go_sem]) ?_
    refine cw_ret ⟨_, _, (by simp only [go_sem]; try exact rfl), by simp [go_sem], _, .inr (.inl rfl), ?_⟩
    simp [go_sem]
end La

namespace La
open Go Go.Eng Go.Proofs
set_option maxRecDepth 10000
set_option linter.unusedSimpArgs false

theorem node_indexFunc (l : List Node) (hlen : l.length ≤ 100000000) {f : FuncId} {caps : List AV} {p : Node → Bool} (hcal : Callable Try.prog f) (hpure : (caps.all AV.pureB) = true)
    (hf : ∀ x, x ∈ l → FnOK Try.prog f (.agg (nodeRow x) :: caps) [] (fun r _ => r = .bool (p x))) :
    FnOK Try.prog 140 [.sl (l.map nodeRow), .fn f caps] [] (fun r _ => r = .int .i64 (idxI (l.findIdx? p))) := by
  have hcaps := refsL_pure hpure
  refine fn_of_cwW tabOK (Go.Proofs.Try.func140) rfl (fun C => ?_)
  simp only [Go.Proofs.Try.ntmps140, Go.Proofs.Try.results140, go_sem]
  refine cw_go tabOK 99 (by simp only [go_sem]; try exact rfl) (by simp [go_sem]) ?_
  refine cw_loopS (fun i : Nat => i ≤ l.length ∧ ∀ x, x ∈ l.take i → p x = false) (fun i => l.length - i) (fun i => [(8, .int .i64 i), (5, .any), (9, .any), (10, .any), (11, .any), (12, .any), (13, .any), (14, .any), (15, .any), (16, .any), (17, .any), (18, .any)]) (fun _ => []) 0 ⟨by omega, by simp⟩ ?_ fun i hi => ?_
  · simp only [go_sem]
    exact le_sub (by simp [go_sem]) (by simp [go_sem]) (by simp [go_sem, hcaps])
  obtain ⟨hi, hno⟩ := hi
  simp only [go_sem]
  refine cw_go tabOK 99 (by simp only [go_sem]; try exact rfl) (by simp [go_sem]) ?_
  refine cw_cond (by simp only [go_sem]; try exact rfl) trivial (fun h => ?_) (fun h => ?_)
  · have hlt : i < l.length := by simp at h; omega
    have hn := hf _ (getD_mem hlt)
    have hg : (l.map nodeRow).getD i [] = nodeRow (l.getD i default) := Fam.getD hlt
    have htk := take_succ_getD hlt
    have hgi : l[i]? = some (l.getD i default) := by rw [List.getD_eq_getElem?_getD, List.getElem?_eq_getElem hlt]; rfl
    generalize l.getD i default = n at hn hg htk hgi
    refine cw_go tabOK 99 (by simp only [go_sem, hg, nodeRow]; try exact rfl) ?_ ?_
    · simp [hlt, nodeRow]
    refine cw_call rfl rfl (by simp only [go_sem]; try exact rfl) (by simp [go_sem]) hcal (by simp [go_sem, hcaps]) (hn) (by simp [go_sem]) (by simp only [go_sem]; exact rfl) ?_
    refine cw_go tabOK 99 (by simp only [go_sem]; try exact rfl) (by simp [go_sem]) ?_
    refine cw_cond (by simp only [go_sem]; try exact rfl) trivial (fun h => ?_) (fun h => ?_)
    · refine cw_go tabOK 99 (by simp only [go_sem]; try exact rfl) (by simp [go_sem]) ?_
      refine cw_ret ⟨_, _, (by simp only [go_sem]; try exact rfl), by simp [go_sem], _, .inr (.inl rfl), ?_⟩
      rw [findIdx_at hgi hno h]; rfl
    · have hw : IntKind.i64.wrap ((i : Int) + 1) = (i : Int) + 1 := wrap_small (by omega) (by omega)
      refine cw_go tabOK 99 (by simp only [go_sem, hw]; try exact rfl) (by simp [go_sem, hw]) ?_
      refine cw_back ⟨i + 1, ⟨by omega, ?_⟩, by omega, le_sub ?_ ?_ ?_⟩
      · rw [htk]
        intro x hx
        rcases List.mem_append.1 hx with hx | hx
        · exact hno x hx
        · rw [List.mem_singleton.1 hx]; exact h
      · simp [go_sem]
      · simp [go_sem]
      · simp [go_sem, hcaps]
  · have e : i = l.length := by simp at h; omega
    refine cw_go tabOK 99 (by simp only [go_sem]; try exact rfl) (by simp [go_sem]) ?_
    refine cw_ret ⟨_, _, (by simp only [go_sem]; try exact rfl), by simp [go_sem], _, .inr (.inl rfl), ?_⟩
    rw [e, List.take_length] at hno
    rw [List.findIdx?_eq_none_iff.2 hno]; rfl

theorem node_deleteFunc (l : List Node) (hlen : l.length ≤ 100000000) (id : Nat) {f : FuncId} {caps : List AV} {p : Node → Bool} (hcal : Callable Try.prog f) (hpure : (caps.all AV.pureB) = true) (hid : id ≠ 7)
    (hf : ∀ x, x ∈ l → FnOK Try.prog f (.agg (nodeRow x) :: caps) [] (fun r _ => r = .bool (p x))) :
    FnOK Try.prog 89 [.osl id 5 0 l.length, .fn f caps] [(id, .cells 46 5 (l.map nodeRow))] (fun r H => r = .osl id 5 0 (l.filter fun x => !p x).length ∧
      ∀ i b, hget [(id, .cells 46 5 ((l.filter fun x => !p x).map nodeRow ++ List.replicate (l.length - (l.filter fun x => !p x).length) [.int .i64 0, .bool false, .nils, .nils, .int .i64 0]))] i = some b → hget H i = some b) := by
  have hcaps := refsL_pure hpure
  obtain ⟨q, hv, hq⟩ := viewL_pure hpure
  refine fn_of_cwW tabOK (Go.Proofs.Try.func89) rfl (fun C => ?_)
  simp only [Go.Proofs.Try.ntmps89, Go.Proofs.Try.results89, go_sem]
  refine cw_go tabOK 99 (by simp only [go_sem]; try exact rfl) (by simp [go_sem]) ?_
  refine cw_view rfl rfl (by simp only [go_sem]; try exact rfl) (by simp [go_sem]) (by simp only [go_sem, hv, hq]; exact rfl) (by simp [go_sem, hv, hq]) ⟨_, Go.Proofs.Try.func140, by kernel_rfl, rfl⟩ (node_indexFunc l hlen hcal hpure hf) (by simp [go_sem]) (by simp only [go_sem]; exact rfl) ?_
  refine cw_go tabOK 99 (by simp only [go_sem]; try exact rfl) (by simp [go_sem]) ?_
  refine cw_cond (by simp only [go_sem]; try exact rfl) trivial (fun h => ?_) (fun h => ?_)
  · refine cw_go tabOK 99 (by simp only [go_sem]; try exact rfl) (by simp [go_sem]) ?_
    refine cw_ret ⟨_, _, (by simp only [go_sem]; try exact rfl), by simp [go_sem], _, .inr (.inl rfl), ?_⟩
    have hn : l.findIdx? p = none := by
      cases e : l.findIdx? p with
      | none => rfl
      | some k => rw [e] at h; simp [idxI] at h
    have hfl : l.filter (fun x => !p x) = l := List.filter_eq_self.2 fun x hx => by
      simp [List.findIdx?_eq_none_iff.1 hn x hx]
    rw [hfl]
    simp [hget]
  obtain ⟨k, hk⟩ : ∃ k, l.findIdx? p = some k := by
    cases e : l.findIdx? p with
    | none => rw [e] at h; simp [idxI] at h
    | some k => exact ⟨k, rfl⟩
  have hkl : k < l.length := (List.findIdx?_eq_some_iff_getElem.1 hk).1
  have hsp := filter_split hk
  rw [hk]
  have hw : IntKind.i64.wrap ((k : Int) + 1) = ((k + 1 : Nat) : Int) := by rw [Eng.wrap_small (by omega) (by omega)]; rfl
  simp only [idxI]
  refine cw_go tabOK 99 (by simp only [go_sem, hw]; try exact rfl) (by simp [go_sem, hw]) ?_
  refine cw_loopS (fun s : Nat × List Node => DelInv p l s.1 s.2) (fun s => l.length - s.1) (fun s => [(5, .int .i64 (((l.take s.1).filter fun x => !p x).length : Nat)), (6, .int .i64 (s.1 : Nat)), (7, .any), (16, .any), (17, .any), (18, .any), (19, .any), (20, .any), (21, .any), (22, .any), (23, .any), (24, .any), (25, .any), (26, .any), (27, .any), (28, .any), (29, .any), (30, .any), (31, .any), (32, .any), (33, .any), (34, .any), (35, .any)]) (fun s => [(id, .cells 46 5 (s.2.map nodeRow))]) (k + 1, l) (DelInv.start hk) ?_ fun s hs => ?_
  · have el : ((l.take (k + 1)).filter fun x => !p x).length = k := by rw [hsp]; simp; omega
    simp only [go_sem, el]
    exact le_sub (by simp [go_sem]) (by simp [go_sem]) (by simp [go_sem, hcaps])
  obtain ⟨j, L⟩ := s
  have hjl := hs.le
  have hL := hs.len
  have hlt := hs.lt
  simp only at hs hjl hL hlt
  simp only [go_sem]
  refine cw_go tabOK 99 (by simp only [go_sem]; try exact rfl) (by simp [go_sem]) ?_
  refine cw_cond (by simp only [go_sem]; try exact rfl) trivial (fun h => ?_) (fun h => ?_)
  · have hj : j < l.length := by simp at h; omega
    have hn := hf _ (getD_mem hj)
    have hg : (L.map nodeRow).getD j [] = nodeRow (l.getD j default) := by rw [Fam.getD (by omega), hs.get hj]
    have hkeep := hs.keep hj
    have hskip := hs.skip hj
    have htk := take_succ_getD hj
    generalize l.getD j default = n at hn hg hkeep hskip htk
    refine cw_go tabOK 99 (by simp only [go_sem, hg, nodeRow, hid, Ne.symm hid]; try exact rfl) ?_ ?_
    · simp [nodeRow]; omega
    refine cw_call rfl rfl (by simp only [go_sem]; try exact rfl) (by simp [go_sem]) hcal (by simp [go_sem, hcaps]) (hn) (by simp [go_sem]) (by simp only [go_sem]; exact rfl) ?_
    generalize hm : ((l.take j).filter fun x => !p x).length = m at hkeep hlt
    have hw1 : IntKind.i64.wrap ((j : Int) + 1) = ((j + 1 : Nat) : Int) := by rw [Eng.wrap_small (by omega) (by omega)]; rfl
    have hw2 : IntKind.i64.wrap ((m : Int) + 1) = ((m + 1 : Nat) : Int) := by rw [Eng.wrap_small (by omega) (by omega)]; rfl
    refine cw_go tabOK 99 (by simp only [go_sem, hm]; try exact rfl) (by simp [go_sem, hm]) ?_
    refine cw_cond (by simp only [go_sem]; try exact rfl) trivial (fun h => ?_) (fun h => ?_)
    · have hp : p n = false := by simpa using h
      obtain ⟨hk1, hk2⟩ := hkeep hp
      have hset := set_map nodeRow L m n
      simp only [nodeRow] at hset
      have hgl : (L.map nodeRow).getD m [] = nodeRow (L.getD m default) := Fam.getD (by omega)
      simp only [nodeRow] at hgl
      refine cw_go tabOK 99 (by simp only [go_sem, hw1, hw2, hm, hid, Ne.symm hid, hgl, hset]; try exact rfl) ?_ ?_
      · simp [hid, Ne.symm hid]; omega
      refine cw_back ⟨(j + 1, L.set m n), hk1, by simp only; omega, le_sub ?_ ?_ ?_⟩
      · simp [go_sem, hk2]
      · simp [go_sem, hid, Ne.symm hid, hset]
      · simp [go_sem, hcaps, -List.map_set]
    · have hp : p n = true := by simpa using h
      refine cw_go tabOK 99 (by simp only [go_sem, hw1, hid, Ne.symm hid]; try exact rfl) (by simp [go_sem, hw1, hid, Ne.symm hid]) ?_
      have hsame : ((l.take (j + 1)).filter fun x => !p x).length = m := by
        rw [← hm, htk, List.filter_append]
        simp only [List.filter_cons, hp, Bool.not_true, Bool.false_eq_true, if_false, List.filter_nil, List.append_nil]
      refine cw_back ⟨(j + 1, L), hskip hp, by simp only; omega, le_sub ?_ ?_ ?_⟩
      · simp [go_sem, hsame, hm]
      · simp [go_sem, hid, Ne.symm hid]
      · simp [go_sem, hcaps]
  have e : j = l.length := by simp at h; omega
  subst e
  have hfin := hs.fin
  rw [List.take_length]
  generalize hd : (l.filter fun x => !p x) = d at *
  have hdl : d.length ≤ l.length := by rw [← hd]; exact List.length_filter_le _ _
  have hcl := clear_rows nodeRow (d := d) (L := L) [.int .i64 0, .bool false, .nils, .nils, .int .i64 0] hfin (by omega)
  rw [hL] at hcl
  refine cw_go tabOK 99 (by simp only [go_sem, hid, Ne.symm hid, hcl]; try exact rfl) ?_ ?_
  · simp only [not_false_eq_true, true_and]
    omega
  refine cw_ret ⟨_, _, (by simp only [go_sem]; try exact rfl), by simp [go_sem], _, .inr (.inl rfl), ?_⟩
  simp [hget]

theorem entry_indexFunc (l : List Entry) (hlen : l.length ≤ 100000000) {f : FuncId} {caps : List AV} {p : Entry → Bool} (hcal : Callable Try.prog f) (hpure : (caps.all AV.pureB) = true)
    (hf : ∀ x, x ∈ l → FnOK Try.prog f (.agg (entryRow x) :: caps) [] (fun r _ => r = .bool (p x))) :
    FnOK Try.prog 144 [.sl (l.map entryRow), .fn f caps] [] (fun r _ => r = .int .i64 (idxI (l.findIdx? p))) := by
  have hcaps := refsL_pure hpure
  refine fn_of_cwW tabOK (Go.Proofs.Try.func144) rfl (fun C => ?_)
  simp only [Go.Proofs.Try.ntmps144, Go.Proofs.Try.results144, go_sem]
  refine cw_go tabOK 99 (by simp only [go_sem]; try exact rfl) (by simp [go_sem]) ?_
  refine cw_loopS (fun i : Nat => i ≤ l.length ∧ ∀ x, x ∈ l.take i → p x = false) (fun i => l.length - i) (fun i => [(8, .int .i64 i), (5, .any), (9, .any), (10, .any), (11, .any), (12, .any), (13, .any), (14, .any), (15, .any), (16, .any), (17, .any), (18, .any)]) (fun _ => []) 0 ⟨by omega, by simp⟩ ?_ fun i hi => ?_
  · simp only [go_sem]
    exact le_sub (by simp [go_sem]) (by simp [go_sem]) (by simp [go_sem, hcaps])
  obtain ⟨hi, hno⟩ := hi
  simp only [go_sem]
  refine cw_go tabOK 99 (by simp only [go_sem]; try exact rfl) (by simp [go_sem]) ?_
  refine cw_cond (by simp only [go_sem]; try exact rfl) trivial (fun h => ?_) (fun h => ?_)
  · have hlt : i < l.length := by simp at h; omega
    have hn := hf _ (getD_mem hlt)
    have hg : (l.map entryRow).getD i [] = entryRow (l.getD i default) := Fam.getD hlt
    have htk := take_succ_getD hlt
    have hgi : l[i]? = some (l.getD i default) := by rw [List.getD_eq_getElem?_getD, List.getElem?_eq_getElem hlt]; rfl
    generalize l.getD i default = n at hn hg htk hgi
    refine cw_go tabOK 99 (by simp only [go_sem, hg, entryRow]; try exact rfl) ?_ ?_
    · simp [hlt, entryRow]
    refine cw_call rfl rfl (by simp only [go_sem]; try exact rfl) (by simp [go_sem]) hcal (by simp [go_sem, hcaps]) (hn) (by simp [go_sem]) (by simp only [go_sem]; exact rfl) ?_
    refine cw_go tabOK 99 (by simp only [go_sem]; try exact rfl) (by simp [go_sem]) ?_
    refine cw_cond (by simp only [go_sem]; try exact rfl) trivial (fun h => ?_) (fun h => ?_)
    · refine cw_go tabOK 99 (by simp only [go_sem]; try exact rfl) (by simp [go_sem]) ?_
      refine cw_ret ⟨_, _, (by simp only [go_sem]; try exact rfl), by simp [go_sem], _, .inr (.inl rfl), ?_⟩
      rw [findIdx_at hgi hno h]; rfl
    · have hw : IntKind.i64.wrap ((i : Int) + 1) = (i : Int) + 1 := wrap_small (by omega) (by omega)
      refine cw_go tabOK 99 (by simp only [go_sem, hw]; try exact rfl) (by simp [go_sem, hw]) ?_
      refine cw_back ⟨i + 1, ⟨by omega, ?_⟩, by omega, le_sub ?_ ?_ ?_⟩
      · rw [htk]
        intro x hx
        rcases List.mem_append.1 hx with hx | hx
        · exact hno x hx
        · rw [List.mem_singleton.1 hx]; exact h
      · simp [go_sem]
      · simp [go_sem]
      · simp [go_sem, hcaps]
  · have e : i = l.length := by simp at h; omega
    refine cw_go tabOK 99 (by simp only [go_sem]; try exact rfl) (by simp [go_sem]) ?_
    refine cw_ret ⟨_, _, (by simp only [go_sem]; try exact rfl), by simp [go_sem], _, .inr (.inl rfl), ?_⟩
    rw [e, List.take_length] at hno
    rw [List.findIdx?_eq_none_iff.2 hno]; rfl

theorem entry_deleteFunc (l : List Entry) (hlen : l.length ≤ 100000000) (id : Nat) {f : FuncId} {caps : List AV} {p : Entry → Bool} (hcal : Callable Try.prog f) (hpure : (caps.all AV.pureB) = true) (hid : id ≠ 7)
    (hf : ∀ x, x ∈ l → FnOK Try.prog f (.agg (entryRow x) :: caps) [] (fun r _ => r = .bool (p x))) :
    FnOK Try.prog 96 [.osl id 2 0 l.length, .fn f caps] [(id, .cells 115 2 (l.map entryRow))] (fun r H => r = .osl id 2 0 (l.filter fun x => !p x).length ∧
      ∀ i b, hget [(id, .cells 115 2 ((l.filter fun x => !p x).map entryRow ++ List.replicate (l.length - (l.filter fun x => !p x).length) [.str [], .int .i64 0]))] i = some b → hget H i = some b) := by
  have hcaps := refsL_pure hpure
  obtain ⟨q, hv, hq⟩ := viewL_pure hpure
  refine fn_of_cwW tabOK (Go.Proofs.Try.func96) rfl (fun C => ?_)
  simp only [Go.Proofs.Try.ntmps96, Go.Proofs.Try.results96, go_sem]
  refine cw_go tabOK 99 (by simp only [go_sem]; try exact rfl) (by simp [go_sem]) ?_
  refine cw_view rfl rfl (by simp only [go_sem]; try exact rfl) (by simp [go_sem]) (by simp only [go_sem, hv, hq]; exact rfl) (by simp [go_sem, hv, hq]) ⟨_, Go.Proofs.Try.func144, by kernel_rfl, rfl⟩ (entry_indexFunc l hlen hcal hpure hf) (by simp [go_sem]) (by simp only [go_sem]; exact rfl) ?_
  refine cw_go tabOK 99 (by simp only [go_sem]; try exact rfl) (by simp [go_sem]) ?_
  refine cw_cond (by simp only [go_sem]; try exact rfl) trivial (fun h => ?_) (fun h => ?_)
  · refine cw_go tabOK 99 (by simp only [go_sem]; try exact rfl) (by simp [go_sem]) ?_
    refine cw_ret ⟨_, _, (by simp only [go_sem]; try exact rfl), by simp [go_sem], _, .inr (.inl rfl), ?_⟩
    have hn : l.findIdx? p = none := by
      cases e : l.findIdx? p with
      | none => rfl
      | some k => rw [e] at h; simp [idxI] at h
    have hfl : l.filter (fun x => !p x) = l := List.filter_eq_self.2 fun x hx => by
      simp [List.findIdx?_eq_none_iff.1 hn x hx]
    rw [hfl]
    simp [hget]
  obtain ⟨k, hk⟩ : ∃ k, l.findIdx? p = some k := by
    cases e : l.findIdx? p with
    | none => rw [e] at h; simp [idxI] at h
    | some k => exact ⟨k, rfl⟩
  have hkl : k < l.length := (List.findIdx?_eq_some_iff_getElem.1 hk).1
  have hsp := filter_split hk
  rw [hk]
  have hw : IntKind.i64.wrap ((k : Int) + 1) = ((k + 1 : Nat) : Int) := by rw [Eng.wrap_small (by omega) (by omega)]; rfl
  simp only [idxI]
  refine cw_go tabOK 99 (by simp only [go_sem, hw]; try exact rfl) (by simp [go_sem, hw]) ?_
  refine cw_loopS (fun s : Nat × List Entry => DelInv p l s.1 s.2) (fun s => l.length - s.1) (fun s => [(5, .int .i64 (((l.take s.1).filter fun x => !p x).length : Nat)), (6, .int .i64 (s.1 : Nat)), (7, .any), (16, .any), (17, .any), (18, .any), (19, .any), (20, .any), (21, .any), (22, .any), (23, .any), (24, .any), (25, .any), (26, .any), (27, .any), (28, .any), (29, .any), (30, .any), (31, .any), (32, .any), (33, .any), (34, .any), (35, .any)]) (fun s => [(id, .cells 115 2 (s.2.map entryRow))]) (k + 1, l) (DelInv.start hk) ?_ fun s hs => ?_
  · have el : ((l.take (k + 1)).filter fun x => !p x).length = k := by rw [hsp]; simp; omega
    simp only [go_sem, el]
    exact le_sub (by simp [go_sem]) (by simp [go_sem]) (by simp [go_sem, hcaps])
  obtain ⟨j, L⟩ := s
  have hjl := hs.le
  have hL := hs.len
  have hlt := hs.lt
  simp only at hs hjl hL hlt
  simp only [go_sem]
  refine cw_go tabOK 99 (by simp only [go_sem]; try exact rfl) (by simp [go_sem]) ?_
  refine cw_cond (by simp only [go_sem]; try exact rfl) trivial (fun h => ?_) (fun h => ?_)
  · have hj : j < l.length := by simp at h; omega
    have hn := hf _ (getD_mem hj)
    have hg : (L.map entryRow).getD j [] = entryRow (l.getD j default) := by rw [Fam.getD (by omega), hs.get hj]
    have hkeep := hs.keep hj
    have hskip := hs.skip hj
    have htk := take_succ_getD hj
    generalize l.getD j default = n at hn hg hkeep hskip htk
    refine cw_go tabOK 99 (by simp only [go_sem, hg, entryRow, hid, Ne.symm hid]; try exact rfl) ?_ ?_
    · simp [entryRow]; omega
    refine cw_call rfl rfl (by simp only [go_sem]; try exact rfl) (by simp [go_sem]) hcal (by simp [go_sem, hcaps]) (hn) (by simp [go_sem]) (by simp only [go_sem]; exact rfl) ?_
    generalize hm : ((l.take j).filter fun x => !p x).length = m at hkeep hlt
    have hw1 : IntKind.i64.wrap ((j : Int) + 1) = ((j + 1 : Nat) : Int) := by rw [Eng.wrap_small (by omega) (by omega)]; rfl
    have hw2 : IntKind.i64.wrap ((m : Int) + 1) = ((m + 1 : Nat) : Int) := by rw [Eng.wrap_small (by omega) (by omega)]; rfl
    refine cw_go tabOK 99 (by simp only [go_sem, hm]; try exact rfl) (by simp [go_sem, hm]) ?_
    refine cw_cond (by simp only [go_sem]; try exact rfl) trivial (fun h => ?_) (fun h => ?_)
    · have hp : p n = false := by simpa using h
      obtain ⟨hk1, hk2⟩ := hkeep hp
      have hset := set_map entryRow L m n
      simp only [entryRow] at hset
      have hgl : (L.map entryRow).getD m [] = entryRow (L.getD m default) := Fam.getD (by omega)
      simp only [entryRow] at hgl
      refine cw_go tabOK 99 (by simp only [go_sem, hw1, hw2, hm, hid, Ne.symm hid, hgl, hset]; try exact rfl) ?_ ?_
      · simp [hid, Ne.symm hid]; omega
      refine cw_back ⟨(j + 1, L.set m n), hk1, by simp only; omega, le_sub ?_ ?_ ?_⟩
      · simp [go_sem, hk2]
      · simp [go_sem, hid, Ne.symm hid, hset]
      · simp [go_sem, hcaps, -List.map_set]
    · have hp : p n = true := by simpa using h
      refine cw_go tabOK 99 (by simp only [go_sem, hw1, hid, Ne.symm hid]; try exact rfl) (by simp [go_sem, hw1, hid, Ne.symm hid]) ?_
      have hsame : ((l.take (j + 1)).filter fun x => !p x).length = m := by
        rw [← hm, htk, List.filter_append]
        simp only [List.filter_cons, hp, Bool.not_true, Bool.false_eq_true, if_false, List.filter_nil, List.append_nil]
      refine cw_back ⟨(j + 1, L), hskip hp, by simp only; omega, le_sub ?_ ?_ ?_⟩
      · simp [go_sem, hsame, hm]
      · simp [go_sem, hid, Ne.symm hid]
      · simp [go_sem, hcaps]
  have e : j = l.length := by simp at h; omega
  subst e
  have hfin := hs.fin
  rw [List.take_length]
  generalize hd : (l.filter fun x => !p x) = d at *
  have hdl : d.length ≤ l.length := by rw [← hd]; exact List.length_filter_le _ _
  have hcl := clear_rows entryRow (d := d) (L := L) [.str [], .int .i64 0] hfin (by omega)
  rw [hL] at hcl
  refine cw_go tabOK 99 (by simp only [go_sem, hid, Ne.symm hid, hcl]; try exact rfl) ?_ ?_
  · simp only [not_false_eq_true, true_and]
    omega
  refine cw_ret ⟨_, _, (by simp only [go_sem]; try exact rfl), by simp [go_sem], _, .inr (.inl rfl), ?_⟩
  simp [hget]

theorem entry_containsFunc (l : List Entry) (hlen : l.length ≤ 100000000) {f : FuncId} {caps : List AV} {p : Entry → Bool} (hcal : Callable Try.prog f) (hpure : (caps.all AV.pureB) = true)
    (hf : ∀ x, x ∈ l → FnOK Try.prog f (.agg (entryRow x) :: caps) [] (fun r _ => r = .bool (p x))) :
    FnOK Try.prog 129 [.sl (l.map entryRow), .fn f caps] [] (fun r _ => r = .bool (l.any p)) := by
  have hcaps := refsL_pure hpure
  refine fn_of_cwW tabOK (Go.Proofs.Try.func129) rfl (fun C => ?_)
  simp only [Go.Proofs.Try.ntmps129, Go.Proofs.Try.results129, go_sem]
  refine cw_go tabOK 99 (by simp only [go_sem]; try exact rfl) (by simp [go_sem]) ?_
  refine cw_call rfl rfl (by simp only [go_sem]; try exact rfl) (by simp [go_sem]) ⟨_, Go.Proofs.Try.func144, by kernel_rfl, rfl⟩ (by simp [go_sem, hcaps]) (entry_indexFunc l hlen hcal hpure hf) (by simp [go_sem]) (by simp only [go_sem]; exact rfl) ?_
  refine cw_go tabOK 99 (by simp only [go_sem]; try exact rfl) (by simp [go_sem]) ?_
  refine cw_ret ⟨_, _, (by simp only [go_sem]; try exact rfl), by simp [go_sem], _, .inr (.inl rfl), ?_⟩
  rw [idxI_any]

theorem kept_indexFunc (l : List Kept) (hlen : l.length ≤ 100000000) {f : FuncId} {caps : List AV} {p : Kept → Bool} (hcal : Callable Try.prog f) (hpure : (caps.all AV.pureB) = true)
    (hf : ∀ x, x ∈ l → FnOK Try.prog f (.agg (keptRow x) :: caps) [] (fun r _ => r = .bool (p x))) :
    FnOK Try.prog 149 [.sl (l.map keptRow), .fn f caps] [] (fun r _ => r = .int .i64 (idxI (l.findIdx? p))) := by
  have hcaps := refsL_pure hpure
  refine fn_of_cwW tabOK (Go.Proofs.Try.func149) rfl (fun C => ?_)
  simp only [Go.Proofs.Try.ntmps149, Go.Proofs.Try.results149, go_sem]
  refine cw_go tabOK 99 (by simp only [go_sem]; try exact rfl) (by simp [go_sem]) ?_
  refine cw_loopS (fun i : Nat => i ≤ l.length ∧ ∀ x, x ∈ l.take i → p x = false) (fun i => l.length - i) (fun i => [(8, .int .i64 i), (5, .any), (9, .any), (10, .any), (11, .any), (12, .any), (13, .any), (14, .any), (15, .any), (16, .any), (17, .any), (18, .any)]) (fun _ => []) 0 ⟨by omega, by simp⟩ ?_ fun i hi => ?_
  · simp only [go_sem]
    exact le_sub (by simp [go_sem]) (by simp [go_sem]) (by simp [go_sem, hcaps])
  obtain ⟨hi, hno⟩ := hi
  simp only [go_sem]
  refine cw_go tabOK 99 (by simp only [go_sem]; try exact rfl) (by simp [go_sem]) ?_
  refine cw_cond (by simp only [go_sem]; try exact rfl) trivial (fun h => ?_) (fun h => ?_)
  · have hlt : i < l.length := by simp at h; omega
    have hn := hf _ (getD_mem hlt)
    have hg : (l.map keptRow).getD i [] = keptRow (l.getD i default) := Fam.getD hlt
    have htk := take_succ_getD hlt
    have hgi : l[i]? = some (l.getD i default) := by rw [List.getD_eq_getElem?_getD, List.getElem?_eq_getElem hlt]; rfl
    generalize l.getD i default = n at hn hg htk hgi
    refine cw_go tabOK 99 (by simp only [go_sem, hg, keptRow]; try exact rfl) ?_ ?_
    · simp [hlt, keptRow]
    refine cw_call rfl rfl (by simp only [go_sem]; try exact rfl) (by simp [go_sem]) hcal (by simp [go_sem, hcaps]) (hn) (by simp [go_sem]) (by simp only [go_sem]; exact rfl) ?_
    refine cw_go tabOK 99 (by simp only [go_sem]; try exact rfl) (by simp [go_sem]) ?_
    refine cw_cond (by simp only [go_sem]; try exact rfl) trivial (fun h => ?_) (fun h => ?_)
    · refine cw_go tabOK 99 (by simp only [go_sem]; try exact rfl) (by simp [go_sem]) ?_
      refine cw_ret ⟨_, _, (by simp only [go_sem]; try exact rfl), by simp [go_sem], _, .inr (.inl rfl), ?_⟩
      rw [findIdx_at hgi hno h]; rfl
    · have hw : IntKind.i64.wrap ((i : Int) + 1) = (i : Int) + 1 := wrap_small (by omega) (by omega)
      refine cw_go tabOK 99 (by simp only [go_sem, hw]; try exact rfl) (by simp [go_sem, hw]) ?_
      refine cw_back ⟨i + 1, ⟨by omega, ?_⟩, by omega, le_sub ?_ ?_ ?_⟩
      · rw [htk]
        intro x hx
        rcases List.mem_append.1 hx with hx | hx
        · exact hno x hx
        · rw [List.mem_singleton.1 hx]; exact h
      · simp [go_sem]
      · simp [go_sem]
      · simp [go_sem, hcaps]
  · have e : i = l.length := by simp at h; omega
    refine cw_go tabOK 99 (by simp only [go_sem]; try exact rfl) (by simp [go_sem]) ?_
    refine cw_ret ⟨_, _, (by simp only [go_sem]; try exact rfl), by simp [go_sem], _, .inr (.inl rfl), ?_⟩
    rw [e, List.take_length] at hno
    rw [List.findIdx?_eq_none_iff.2 hno]; rfl

theorem kept_deleteFunc (l : List Kept) (hlen : l.length ≤ 100000000) (id : Nat) {f : FuncId} {caps : List AV} {p : Kept → Bool} (hcal : Callable Try.prog f) (hpure : (caps.all AV.pureB) = true) (hid : id ≠ 7)
    (hf : ∀ x, x ∈ l → FnOK Try.prog f (.agg (keptRow x) :: caps) [] (fun r _ => r = .bool (p x))) :
    FnOK Try.prog 109 [.osl id 8 0 l.length, .fn f caps] [(id, .cells 72 8 (l.map keptRow))] (fun r H => r = .osl id 8 0 (l.filter fun x => !p x).length ∧
      ∀ i b, hget [(id, .cells 72 8 ((l.filter fun x => !p x).map keptRow ++ List.replicate (l.length - (l.filter fun x => !p x).length) [.int .i64 0, .bool false, .nils, .nils, .int .i64 0, .bool false, .int .i64 0, .int .i64 0]))] i = some b → hget H i = some b) := by
  have hcaps := refsL_pure hpure
  obtain ⟨q, hv, hq⟩ := viewL_pure hpure
  refine fn_of_cwW tabOK (Go.Proofs.Try.func109) rfl (fun C => ?_)
  simp only [Go.Proofs.Try.ntmps109, Go.Proofs.Try.results109, go_sem]
  refine cw_go tabOK 99 (by simp only [go_sem]; try exact rfl) (by simp [go_sem]) ?_
  refine cw_view rfl rfl (by simp only [go_sem]; try exact rfl) (by simp [go_sem]) (by simp only [go_sem, hv, hq]; exact rfl) (by simp [go_sem, hv, hq]) ⟨_, Go.Proofs.Try.func149, by kernel_rfl, rfl⟩ (kept_indexFunc l hlen hcal hpure hf) (by simp [go_sem]) (by simp only [go_sem]; exact rfl) ?_
  refine cw_go tabOK 99 (by simp only [go_sem]; try exact rfl) (by simp [go_sem]) ?_
  refine cw_cond (by simp only [go_sem]; try exact rfl) trivial (fun h => ?_) (fun h => ?_)
  · refine cw_go tabOK 99 (by simp only [go_sem]; try exact rfl) (by simp [go_sem]) ?_
    refine cw_ret ⟨_, _, (by simp only [go_sem]; try exact rfl), by simp [go_sem], _, .inr (.inl rfl), ?_⟩
    have hn : l.findIdx? p = none := by
      cases e : l.findIdx? p with
      | none => rfl
      | some k => rw [e] at h; simp [idxI] at h
    have hfl : l.filter (fun x => !p x) = l := List.filter_eq_self.2 fun x hx => by
      simp [List.findIdx?_eq_none_iff.1 hn x hx]
    rw [hfl]
    simp [hget]
  obtain ⟨k, hk⟩ : ∃ k, l.findIdx? p = some k := by
    cases e : l.findIdx? p with
    | none => rw [e] at h; simp [idxI] at h
    | some k => exact ⟨k, rfl⟩
  have hkl : k < l.length := (List.findIdx?_eq_some_iff_getElem.1 hk).1
  have hsp := filter_split hk
  rw [hk]
  have hw : IntKind.i64.wrap ((k : Int) + 1) = ((k + 1 : Nat) : Int) := by rw [Eng.wrap_small (by omega) (by omega)]; rfl
  simp only [idxI]
  refine cw_go tabOK 99 (by simp only [go_sem, hw]; try exact rfl) (by simp [go_sem, hw]) ?_
  refine cw_loopS (fun s : Nat × List Kept => DelInv p l s.1 s.2) (fun s => l.length - s.1) (fun s => [(5, .int .i64 (((l.take s.1).filter fun x => !p x).length : Nat)), (6, .int .i64 (s.1 : Nat)), (7, .any), (16, .any), (17, .any), (18, .any), (19, .any), (20, .any), (21, .any), (22, .any), (23, .any), (24, .any), (25, .any), (26, .any), (27, .any), (28, .any), (29, .any), (30, .any), (31, .any), (32, .any), (33, .any), (34, .any), (35, .any)]) (fun s => [(id, .cells 72 8 (s.2.map keptRow))]) (k + 1, l) (DelInv.start hk) ?_ fun s hs => ?_
  · have el : ((l.take (k + 1)).filter fun x => !p x).length = k := by rw [hsp]; simp; omega
    simp only [go_sem, el]
    exact le_sub (by simp [go_sem]) (by simp [go_sem]) (by simp [go_sem, hcaps])
  obtain ⟨j, L⟩ := s
  have hjl := hs.le
  have hL := hs.len
  have hlt := hs.lt
  simp only at hs hjl hL hlt
  simp only [go_sem]
  refine cw_go tabOK 99 (by simp only [go_sem]; try exact rfl) (by simp [go_sem]) ?_
  refine cw_cond (by simp only [go_sem]; try exact rfl) trivial (fun h => ?_) (fun h => ?_)
  · have hj : j < l.length := by simp at h; omega
    have hn := hf _ (getD_mem hj)
    have hg : (L.map keptRow).getD j [] = keptRow (l.getD j default) := by rw [Fam.getD (by omega), hs.get hj]
    have hkeep := hs.keep hj
    have hskip := hs.skip hj
    have htk := take_succ_getD hj
    generalize l.getD j default = n at hn hg hkeep hskip htk
    refine cw_go tabOK 99 (by simp only [go_sem, hg, keptRow, hid, Ne.symm hid]; try exact rfl) ?_ ?_
    · simp [keptRow]; omega
    refine cw_call rfl rfl (by simp only [go_sem]; try exact rfl) (by simp [go_sem]) hcal (by simp [go_sem, hcaps]) (hn) (by simp [go_sem]) (by simp only [go_sem]; exact rfl) ?_
    generalize hm : ((l.take j).filter fun x => !p x).length = m at hkeep hlt
    have hw1 : IntKind.i64.wrap ((j : Int) + 1) = ((j + 1 : Nat) : Int) := by rw [Eng.wrap_small (by omega) (by omega)]; rfl
    have hw2 : IntKind.i64.wrap ((m : Int) + 1) = ((m + 1 : Nat) : Int) := by rw [Eng.wrap_small (by omega) (by omega)]; rfl
    refine cw_go tabOK 99 (by simp only [go_sem, hm]; try exact rfl) (by simp [go_sem, hm]) ?_
    refine cw_cond (by simp only [go_sem]; try exact rfl) trivial (fun h => ?_) (fun h => ?_)
    · have hp : p n = false := by simpa using h
      obtain ⟨hk1, hk2⟩ := hkeep hp
      have hset := set_map keptRow L m n
      simp only [keptRow] at hset
      have hgl : (L.map keptRow).getD m [] = keptRow (L.getD m default) := Fam.getD (by omega)
      simp only [keptRow] at hgl
      refine cw_go tabOK 99 (by simp only [go_sem, hw1, hw2, hm, hid, Ne.symm hid, hgl, hset]; try exact rfl) ?_ ?_
      · simp [hid, Ne.symm hid]; omega
      refine cw_back ⟨(j + 1, L.set m n), hk1, by simp only; omega, le_sub ?_ ?_ ?_⟩
      · simp [go_sem, hk2]
      · simp [go_sem, hid, Ne.symm hid, hset]
      · simp [go_sem, hcaps, -List.map_set]
    · have hp : p n = true := by simpa using h
      refine cw_go tabOK 99 (by simp only [go_sem, hw1, hid, Ne.symm hid]; try exact rfl) (by simp [go_sem, hw1, hid, Ne.symm hid]) ?_
      have hsame : ((l.take (j + 1)).filter fun x => !p x).length = m := by
        rw [← hm, htk, List.filter_append]
        simp only [List.filter_cons, hp, Bool.not_true, Bool.false_eq_true, if_false, List.filter_nil, List.append_nil]
      refine cw_back ⟨(j + 1, L), hskip hp, by simp only; omega, le_sub ?_ ?_ ?_⟩
      · simp [go_sem, hsame, hm]
      · simp [go_sem, hid, Ne.symm hid]
      · simp [go_sem, hcaps]
  have e : j = l.length := by simp at h; omega
  subst e
  have hfin := hs.fin
  rw [List.take_length]
  generalize hd : (l.filter fun x => !p x) = d at *
  have hdl : d.length ≤ l.length := by rw [← hd]; exact List.length_filter_le _ _
  have hcl := clear_rows keptRow (d := d) (L := L) [.int .i64 0, .bool false, .nils, .nils, .int .i64 0, .bool false, .int .i64 0, .int .i64 0] hfin (by omega)
  rw [hL] at hcl
  refine cw_go tabOK 99 (by simp only [go_sem, hid, Ne.symm hid, hcl]; try exact rfl) ?_ ?_
  · simp only [not_false_eq_true, true_and]
    omega
  refine cw_ret ⟨_, _, (by simp only [go_sem]; try exact rfl), by simp [go_sem], _, .inr (.inl rfl), ?_⟩
  simp [hget]

end La

namespace La
open Go Go.Eng Go.Proofs
set_option maxRecDepth 10000
set_option linter.unusedSimpArgs false
set_option linter.unusedVariables false

theorem dropIs_ok (n : Node) (f : Int) : FnOK Try.prog 90 [.agg (nodeRow n), .rp [.int .i64 f] 0] [] (fun r _ => r = .bool (n.fid == f)) := by
  unfold nodeRow
  refine fn_of_cwW tabOK (Go.Proofs.Try.func90) rfl (fun C => ?_)
  simp only [Go.Proofs.Try.ntmps90, Go.Proofs.Try.results90, go_sem]
  refine cw_go tabOK 99 (by simp only [go_sem]; try exact rfl) (by simp [go_sem]) ?_
  refine cw_ret ⟨_, _, (by simp only [go_sem]; try exact rfl), by simp [go_sem], _, .inr (.inl rfl), ?_⟩
  simp

theorem drop_ok (l : List Node) (f : Int) (hl : Small l) : FnOK Try.prog 35 [.sl (l.map nodeRow), .int .i64 f] [] (fun r _ => r = .sl ((dropN l f).map nodeRow)) := by
  have hlen := hl.len
  refine fn_of_cwW tabOK (Go.Proofs.Try.func35) rfl (fun C => ?_)
  simp only [Go.Proofs.Try.ntmps35, Go.Proofs.Try.results35, go_sem]
  refine cw_go tabOK 99 (by simp only [go_sem]; try exact rfl) (by simp [go_sem]) ?_
  refine cw_freeze 3 rfl (rfl) ?_
  simp only [go_sem]
  refine cw_callG [] 100 rfl rfl (by simp only [go_sem]; try exact rfl) (by simp [go_sem]) ⟨_, Go.Proofs.Try.func86, by kernel_rfl, rfl⟩ (by simp only [go_sem, Bool.false_or, Bool.or_true, Bool.true_or, if_true]; try exact rfl) (own_okH l hl) (by simp [go_sem]) (by simp [go_sem]) (by simp [go_sem]) (by simp only [go_sem]) (by simp [go_sem]) (by simp only [go_sem, Bool.false_or, Bool.or_true, Bool.true_or, Bool.or_false, ↓reduceIte]; exact rfl) ?_
  refine cw_go tabOK 99 (by simp only [go_sem]; try exact rfl) (by simp [go_sem]) ?_
  refine cw_callG [123] 100 rfl rfl (by simp only [go_sem]; try exact rfl) (by simp [go_sem]) ⟨_, Go.Proofs.Try.func89, by kernel_rfl, rfl⟩ (by simp only [go_sem, Bool.false_or, Bool.or_true, Bool.true_or, if_true]; try exact rfl) (node_deleteFunc l hlen 123 ⟨_, Go.Proofs.Try.func90, by kernel_rfl, rfl⟩ rfl (by decide) (fun x _ => dropIs_ok x f)) (by simp [go_sem]) (by simp [go_sem]) (by simp [go_sem]) (by simp only [go_sem]) (by simp [go_sem]) (by simp only [go_sem, Bool.false_or, Bool.or_true, Bool.true_or, Bool.or_false, ↓reduceIte]; exact rfl) ?_
  refine cw_go tabOK 99 (by simp only [go_sem]; try exact rfl) (by simp [go_sem]) ?_
  refine cw_freeze 223 rfl (by rw [List.all_append, nodeRow_pure, Bool.true_and]; exact rep_pure _ rfl) ?_
  simp only [go_sem]
  refine cw_ret ⟨_, _, (by simp only [go_sem]; try exact rfl), by simp [go_sem], _, .inr (.inl rfl), ?_⟩
  have hle := List.length_filter_le (fun x : Node => !(x.fid == f)) l
  have hd : (l.filter fun x : Node => !(x.fid == f)) = dropN l f := rfl
  rw [hd] at hle
  simp only [hd]
  generalize dropN l f = d at *
  rw [if_pos (by simp), take_app (by simp)]

theorem leaveIs_ok (e : Entry) (s : List UInt8) : FnOK Try.prog 97 [.agg (entryRow e), .rp [.str s] 0] [] (fun r _ => r = .bool (e.name == s)) := by
  unfold entryRow
  refine fn_of_cwW tabOK (Go.Proofs.Try.func97) rfl (fun C => ?_)
  simp only [Go.Proofs.Try.ntmps97, Go.Proofs.Try.results97, go_sem]
  refine cw_go tabOK 99 (by simp only [go_sem]; try exact rfl) (by simp [go_sem]) ?_
  refine cw_ret ⟨_, _, (by simp only [go_sem]; try exact rfl), by simp [go_sem], _, .inr (.inl rfl), ?_⟩
  simp

theorem leave_ok (n : Node) (s : List UInt8) (hn : n.Small) : FnOK Try.prog 38 [.agg (nodeRow n), .str s] [] (fun r _ => r = .agg (nodeRow (leaveN n s))) := by
  have hlen := hn.entries
  refine fn_of_cwW tabOK (Go.Proofs.Try.func38) rfl (fun C => ?_)
  simp only [Go.Proofs.Try.ntmps38, Go.Proofs.Try.results38, go_sem]
  refine cw_go tabOK 99 (by simp only [go_sem, nodeRow]; try exact rfl) ?_ ?_
  · simp [nodeRow]
  refine cw_freeze 7 rfl (rfl) ?_
  refine cw_freeze 3 rfl (rfl) ?_
  simp only [go_sem]
  refine cw_callG [] 0 rfl rfl (by simp only [go_sem]; try exact rfl) (by simp [go_sem]) ⟨_, Go.Proofs.Try.func86, by kernel_rfl, rfl⟩ (by simp only [go_sem, Bool.false_or, Bool.or_true, Bool.true_or, if_true]; try exact rfl) (own_oneH n hn) (by simp [go_sem]) (by simp [go_sem]) (by simp [go_sem]) (by simp only [go_sem]) (by simp [go_sem]) (by simp only [go_sem, Bool.false_or, Bool.or_true, Bool.true_or, Bool.or_false, ↓reduceIte]; exact rfl) ?_
  refine cw_go tabOK 99 (by simp only [go_sem, heldRow]; try exact rfl) ?_ ?_
  · simp [heldRow]
  refine cw_le (le_killB 1000 5 (by simp only [go_sem]; exact rfl) (by simp only [go_sem, kill]; exact rfl)) ?_
  refine cw_le (le_killB 1000 23 (by simp only [go_sem]; exact rfl) (by simp only [go_sem, kill]; exact rfl)) ?_
  simp only [go_sem]
  refine cw_callG [1000] 100 rfl rfl (by simp only [go_sem]; try exact rfl) (by simp [go_sem]) ⟨_, Go.Proofs.Try.func96, by kernel_rfl, rfl⟩ (by simp only [go_sem, Bool.false_or, Bool.or_true, Bool.true_or, if_true]; try exact rfl) (entry_deleteFunc n.entries hlen 1000 ⟨_, Go.Proofs.Try.func97, by kernel_rfl, rfl⟩ rfl (by decide) (fun x _ => leaveIs_ok x s)) (by simp [go_sem]) (by simp [go_sem]) (by simp [go_sem]) (by simp only [go_sem]) (by simp [go_sem]) (by simp only [go_sem, Bool.false_or, Bool.or_true, Bool.true_or, Bool.or_false, ↓reduceIte]; exact rfl) ?_
  refine cw_freeze 1100 rfl (by rw [List.all_append, entryRow_pure, Bool.true_and]; exact rep_pure _ rfl) ?_
  simp only [go_sem]
  have hle := List.length_filter_le (fun x : Entry => !(x.name == s)) n.entries
  have hd : (n.entries.filter fun x : Entry => !(x.name == s)) = leaveE n.entries s := rfl
  have hr : nodeRow (leaveN n s) = [.int .i64 n.fid, .bool n.dir, .sl (n.data.map byteRow), .sl ((leaveE n.entries s).map entryRow), .int .i64 n.version] := rfl
  simp only [hd] at hle ⊢
  rw [hr]
  generalize leaveE n.entries s = d at *
  simp only [go_sem, if_pos (show d.length ≤ (d.map entryRow ++ List.replicate (n.entries.length - d.length) [AV.str [], AV.int .i64 0]).length by simp), take_app (show d.length = (d.map entryRow).length by simp)]
  refine cw_go tabOK 99 (by simp only [go_sem]; try exact rfl) (by simp [go_sem]) ?_
  refine cw_ret ⟨_, _, (by simp only [go_sem]; try exact rfl), by simp [go_sem], _, .inr (.inl rfl), ?_⟩
  simp

theorem entry_insertR (l M : List Entry) (i : Nat) (hi : i ≤ l.length) (hlen : l.length ≤ 100000000) (hM : l.take i ++ ⟨[], 0⟩ :: l.drop i = M) :
    FnOK Try.prog 95 [.osl 1000 2 0 l.length, .int .i64 i, .osl 28 2 0 1] [(28, .cells 115 2 [[.str [], .int .i64 0]]), (1000, .cells 115 2 (l.map entryRow))]
      (fun r H => r = .osl 7 2 0 (l.length + 1) ∧ ∀ i' b, hget [(7, .cells 115 2 (M.map entryRow))] i' = some b → hget H i' = some b) := by
  subst hM
  have hL : (l.map entryRow).length = l.length := List.length_map ..
  have := FnOK.renum (rows' := (l.take i ++ ⟨[], 0⟩ :: l.drop i).map entryRow) 7 (entry_insert (l.map entryRow) i (by omega) (by omega) (entryRow_rowsOf l) (entryRow_leaf l) (fun id => entryRow_noRef id l)) (by
    rw [List.map_append, List.map_cons, List.map_append, List.map_cons, ← List.map_take, ← List.map_drop, entryRow_nil1, entryRow_nil1]; rfl) (ins_free (fun id => entryRow_noRef id l) (by decide))
  rw [hL] at this
  exact this

theorem entryRow_at {M : List Entry} {i : Nat} (h : i < M.length) : (M.map entryRow).getD i [] = [.str (M.getD i default).name, .int .i64 (M.getD i default).fid] := by
  rw [Fam.getD h]; rfl

theorem enter_ok (n : Node) (s : List UInt8) (f : Int) (hn : n.Small) : FnOK Try.prog 37 [.agg (nodeRow n), .str s, .int .i64 f] [] (fun r _ => r = .agg (nodeRow (enterN n s f))) := by
  have hlen := hn.entries
  refine fn_of_cwW tabOK (Go.Proofs.Try.func37) rfl (fun C => ?_)
  simp only [Go.Proofs.Try.ntmps37, Go.Proofs.Try.results37, go_sem]
  refine cw_go tabOK 99 (by simp only [go_sem, nodeRow]; try exact rfl) ?_ ?_
  · simp [nodeRow]
  refine cw_freeze 11 rfl (rfl) ?_
  refine cw_freeze 3 rfl (rfl) ?_
  simp only [go_sem]
  refine cw_callG [] 0 rfl rfl (by simp only [go_sem]; try exact rfl) (by simp [go_sem]) ⟨_, Go.Proofs.Try.func86, by kernel_rfl, rfl⟩ (by simp only [go_sem, Bool.false_or, Bool.or_true, Bool.true_or, if_true]; try exact rfl) (own_oneH n hn) (by simp [go_sem]) (by simp [go_sem]) (by simp [go_sem]) (by simp only [go_sem]) (by simp [go_sem]) (by simp only [go_sem, Bool.false_or, Bool.or_true, Bool.true_or, Bool.or_false, ↓reduceIte]; exact rfl) ?_
  refine cw_go tabOK 99 (by simp only [go_sem]; try exact rfl) (by simp [go_sem]) ?_
  refine cw_view rfl rfl (by simp only [go_sem]; try exact rfl) (by simp [go_sem]) (by simp only [go_sem]; try exact rfl) (by simp [go_sem]) ⟨_, Go.Proofs.Try.func91, by kernel_rfl, rfl⟩ (entry_search n.entries s hlen ⟨_, Go.Proofs.Try.func94, by kernel_rfl, rfl⟩ (fun e => enterCmp_ok e s)) (by simp [go_sem]) (by simp only [go_sem]; exact rfl) ?_
  refine cw_go tabOK 99 (by simp only [go_sem]; try exact rfl) (by simp [go_sem]) ?_
  have hple := eplace_le n.entries s
  refine cw_cond (by simp only [go_sem]; try exact rfl) trivial (fun h => ?_) (fun h => ?_)
  · have hat : isE n.entries s = false := by simpa using h
    refine cw_go tabOK 99 (by simp only [go_sem]; try exact rfl) (by simp [go_sem]) ?_
    refine cw_le (le_killB 1000 7 (by simp only [go_sem]; exact rfl) (by simp only [go_sem, kill]; exact rfl)) ?_
    refine cw_le (le_killB 1000 23 (by simp only [go_sem]; exact rfl) (by simp only [go_sem, kill]; exact rfl)) ?_
    simp only [go_sem]
    have hM : (n.entries.take (eplace n.entries s) ++ ⟨[], 0⟩ :: n.entries.drop (eplace n.entries s)).length = n.entries.length + 1 := by simp; omega
    have hS : (n.entries.take (eplace n.entries s) ++ ⟨[], 0⟩ :: n.entries.drop (eplace n.entries s)).set (eplace n.entries s) ⟨s, f⟩ = enterE n.entries s f := by
      unfold enterE
      rw [hat, if_neg (by simp), List.set_append_right _ _ (by rw [List.length_take]; omega), List.length_take, Nat.min_eq_left hple, Nat.sub_self]; rfl
    generalize hMd : n.entries.take (eplace n.entries s) ++ ⟨[], 0⟩ :: n.entries.drop (eplace n.entries s) = M at *
    refine cw_callG [1000, 28] 200 rfl rfl (by simp only [go_sem]; try exact rfl) (by simp [go_sem]) ⟨_, Go.Proofs.Try.func95, by kernel_rfl, rfl⟩ (by simp only [go_sem, Bool.false_or, Bool.or_true, Bool.true_or, if_true]; try exact rfl) (entry_insertR n.entries M (eplace n.entries s) hple hlen hMd) (by simp [go_sem]) (by simp [go_sem]) (by simp [go_sem]) (by simp only [go_sem]) (by simp [go_sem]) (by simp only [go_sem, Bool.false_or, Bool.or_true, Bool.true_or, Bool.or_false, ↓reduceIte]; exact rfl) ?_
    refine cw_runN tabOK 2 (by simp only [go_sem]; exact rfl) (by simp only [go_sem]; exact rfl) (by simp only [go_sem]; try exact rfl) (by simp [go_sem]) ?_
    have hE : (enterE n.entries s f).length = n.entries.length + 1 := by rw [← hS, List.length_set, hM]
    have hlt : eplace n.entries s < (M).length := by omega
    have hg := entryRow_at hlt
    have hq : ((M).map entryRow).set (eplace n.entries s) [.str s, .int .i64 f] = (enterE n.entries s f).map entryRow := by
      rw [← hS, List.map_set]; rfl
    refine cw_goR 99 (by simp only [go_sem]; try exact rfl) ?_
    refine cw_runN tabOK 6 (by simp only [go_sem]; exact rfl) (by simp only [go_sem]; exact rfl) (by simp only [go_sem]; try exact rfl) (by simp [go_sem]) ?_
    refine cw_runN tabOK 1 (by simp only [go_sem]; exact rfl) (by simp only [go_sem]; exact rfl) (by simp only [go_sem]; try exact rfl) ?_ ?_
    · exact ⟨by simp, by omega, by omega⟩
    refine cw_runN tabOK 1 (by simp only [go_sem]; exact rfl) (by simp only [go_sem]; exact rfl) (by simp only [go_sem]; try exact rfl) ?_ ?_
    · exact ⟨by simp, by omega⟩
    simp only [go_sem, hg, hq]
    refine cw_freeze 207 rfl (entryRow_pure _) ?_
    have hr : nodeRow (enterN n s f) = [.int .i64 n.fid, .bool n.dir, .sl (n.data.map byteRow), .sl ((enterE n.entries s f).map entryRow), .int .i64 n.version] := rfl
    rw [hr]
    have hE2 := List.take_of_length_le (l := (enterE n.entries s f).map entryRow) (i := (enterE n.entries s f).length) (by simp)
    simp only [go_sem, ← hE, hE2]
    refine cw_go tabOK 99 (by simp only [go_sem]; try exact rfl) (by simp [go_sem]) ?_
    refine cw_ret ⟨_, _, (by simp only [go_sem]; try exact rfl), by simp [go_sem], _, .inr (.inl rfl), ?_⟩
    simp
  · have hat : isE n.entries s = true := by simpa using h
    have hpl : eplace n.entries s < n.entries.length := by
      unfold isE at hat
      rw [Bool.and_eq_true] at hat
      exact of_decide_eq_true hat.1
    have hS : n.entries.set (eplace n.entries s) ⟨s, f⟩ = enterE n.entries s f := by
      unfold enterE
      rw [hat, if_pos rfl]
    have hE : (enterE n.entries s f).length = n.entries.length := by rw [← hS, List.length_set]
    have hlt : eplace n.entries s < (n.entries).length := by omega
    have hg := entryRow_at hlt
    have hq : ((n.entries).map entryRow).set (eplace n.entries s) [.str s, .int .i64 f] = (enterE n.entries s f).map entryRow := by
      rw [← hS, List.map_set]; rfl
    refine cw_goR 99 (by simp only [go_sem]; try exact rfl) ?_
    refine cw_runN tabOK 6 (by simp only [go_sem]; exact rfl) (by simp only [go_sem]; exact rfl) (by simp only [go_sem]; try exact rfl) (by simp [go_sem]) ?_
    refine cw_runN tabOK 1 (by simp only [go_sem]; exact rfl) (by simp only [go_sem]; exact rfl) (by simp only [go_sem]; try exact rfl) ?_ ?_
    · exact ⟨by simp, by omega, by omega⟩
    refine cw_runN tabOK 1 (by simp only [go_sem]; exact rfl) (by simp only [go_sem]; exact rfl) (by simp only [go_sem]; try exact rfl) ?_ ?_
    · exact ⟨by simp, by omega⟩
    simp only [go_sem, hg, hq]
    refine cw_freeze 1000 rfl (entryRow_pure _) ?_
    have hr : nodeRow (enterN n s f) = [.int .i64 n.fid, .bool n.dir, .sl (n.data.map byteRow), .sl ((enterE n.entries s f).map entryRow), .int .i64 n.version] := rfl
    rw [hr]
    have hE2 := List.take_of_length_le (l := (enterE n.entries s f).map entryRow) (i := (enterE n.entries s f).length) (by simp)
    simp only [go_sem, ← hE, hE2]
    refine cw_go tabOK 99 (by simp only [go_sem]; try exact rfl) (by simp [go_sem]) ?_
    refine cw_ret ⟨_, _, (by simp only [go_sem]; try exact rfl), by simp [go_sem], _, .inr (.inl rfl), ?_⟩
    simp
end La

namespace La
open Go Go.Eng Go.Proofs
set_option maxRecDepth 10000
set_option linter.unusedSimpArgs false
set_option linter.unusedVariables false

def okC (c : UInt8) : Bool := (decide (97 ≤ c.toNat) && decide (c.toNat ≤ 122)) || (decide (48 ≤ c.toNat) && decide (c.toNat ≤ 57))
def nameB (s : List UInt8) : Bool := decide (1 ≤ s.length) && decide (s.length ≤ 8) && s.all okC

theorem name_ok (s : List UInt8) (hs : s.length ≤ 100000000) : FnOK Try.prog 160 [.str s] [] (fun r _ => r = .bool (nameB s)) := by
  refine fn_of_cwW tabOK (Go.Proofs.Try.func160) rfl (fun C => ?_)
  simp only [Go.Proofs.Try.ntmps160, Go.Proofs.Try.results160, go_sem]
  refine cw_goR 99 (by simp only [go_sem]; try exact rfl) ?_
  refine cw_runN tabOK 1 (by simp only [go_sem]; exact rfl) (by simp only [go_sem]; exact rfl) (by simp only [go_sem]; try exact rfl) (by simp [go_sem]) ?_
  refine cw_goR 99 (by simp only [go_sem]; try exact rfl) ?_
  cases e1 : decide ((s.length : Int) < 1) with
  | true =>
    have hno : nameB s = false := by
      have h1 := of_decide_eq_true e1
      unfold nameB
      rw [show decide (1 ≤ s.length) = false from decide_eq_false (by omega)]; rfl
    refine cw_go tabOK 99 (by simp only [go_sem, e1]; try exact rfl) (by simp [go_sem, e1]) ?_
    refine cw_cond (by simp only [go_sem]; try exact rfl) trivial (fun h => ?_) (fun h => ?_)
    · refine cw_go tabOK 99 (by simp only [go_sem]; try exact rfl) (by simp [go_sem]) ?_
      refine cw_ret ⟨_, _, (by simp only [go_sem]; try exact rfl), by simp [go_sem], _, .inr (.inl rfl), ?_⟩
      rw [hno]
    · cases h
  | false =>
    have h1 := of_decide_eq_false e1
    cases e2 : decide ((s.length : Int) > 8) with
    | true =>
      have hno : nameB s = false := by
        have h2 := of_decide_eq_true e2
        unfold nameB
        rw [show decide (s.length ≤ 8) = false from decide_eq_false (by omega), Bool.and_false]; rfl
      refine cw_go tabOK 99 (by simp only [go_sem, e1, e2]; try exact rfl) (by simp [go_sem, e1, e2]) ?_
      refine cw_cond (by simp only [go_sem]; try exact rfl) trivial (fun h => ?_) (fun h => ?_)
      · refine cw_go tabOK 99 (by simp only [go_sem]; try exact rfl) (by simp [go_sem]) ?_
        refine cw_ret ⟨_, _, (by simp only [go_sem]; try exact rfl), by simp [go_sem], _, .inr (.inl rfl), ?_⟩
        rw [hno]
      · cases h
    | false =>
      have h2 := of_decide_eq_false e2
      have hyes : nameB s = s.all okC := by
        unfold nameB
        rw [show decide (1 ≤ s.length) = true from decide_eq_true (by omega), show decide (s.length ≤ 8) = true from decide_eq_true (by omega)]; rfl
      rw [hyes]
      refine cw_go tabOK 99 (by simp only [go_sem, e1, e2]; try exact rfl) (by simp [go_sem, e1, e2]) ?_
      refine cw_cond (by simp only [go_sem]; try exact rfl) trivial (fun h => ?_) (fun h => ?_)
      · cases h
      refine cw_go tabOK 99 (by simp only [go_sem]; try exact rfl) (by simp [go_sem]) ?_
      refine cw_loopS (fun i : Nat => i ≤ s.length ∧ ∀ j, j < i → okC (s.getD j 0) = true) (fun i => s.length - i) (fun i => [(3, .any), (4, .any), (15, .int .i64 i), (16, .any), (17, .any), (18, .any), (19, .any), (20, .any), (21, .any), (22, .any), (23, .any), (24, .any), (25, .any), (26, .any), (27, .any), (28, .any), (29, .any), (30, .any), (31, .any), (32, .any), (33, .any), (34, .any), (35, .any)]) (fun _ => []) 0 ⟨by omega, by omega⟩ ?_ fun i hi => ?_
      · simp only [go_sem]
        exact le_sub (by simp [go_sem]) (by simp [go_sem]) (by simp [go_sem])
      obtain ⟨hi, hs⟩ := hi
      simp only [go_sem]
      refine cw_go tabOK 99 (by simp only [go_sem]; try exact rfl) (by simp [go_sem]) ?_
      refine cw_cond (by simp only [go_sem]; try exact rfl) trivial (fun h => ?_) (fun h => ?_)
      · have hlt : i < s.length := by simp at h; omega
        have hw : IntKind.i64.wrap ((i : Int) + 1) = ((i + 1 : Nat) : Int) := by rw [Eng.wrap_small (by omega) (by omega)]; rfl
        have hno : okC (s.getD i 0) = false → s.all okC = false := fun h0 => by
          cases e : s.all okC with
          | false => rfl
          | true =>
            have := List.all_eq_true.1 e (s.getD i 0) (by rw [List.getD_eq_getElem?_getD, List.getElem?_eq_getElem hlt]; exact List.getElem_mem hlt)
            rw [this] at h0; cases h0
        have hyes : okC (s.getD i 0) = true → ∀ j, j < i + 1 → okC (s.getD j 0) = true := fun h0 j hj => by
          rcases Nat.lt_succ_iff_lt_or_eq.1 hj with h1 | rfl
          · exact hs j h1
          · exact h0
        refine cw_goR 99 (by simp only [go_sem]; try exact rfl) ?_
        refine cw_runN tabOK 2 (by simp only [go_sem]; exact rfl) (by simp only [go_sem]; exact rfl) (by simp only [go_sem]; try exact rfl) (by simp [go_sem]) ?_
        refine cw_goR 99 (by simp only [go_sem]; try exact rfl) ?_
        refine cw_runN tabOK 2 (by simp only [go_sem]; exact rfl) (by simp only [go_sem]; exact rfl) (by simp only [go_sem]; try exact rfl) (by simp [go_sem]) ?_
        refine cw_runN tabOK 1 (by simp only [go_sem]; exact rfl) (by simp only [go_sem]; exact rfl) (by simp only [go_sem]; try exact rfl) ?_ ?_
        · simp; omega
        refine cw_runN tabOK 1 (by simp only [go_sem]; exact rfl) (by simp only [go_sem]; exact rfl) (by simp only [go_sem]; try exact rfl) (by simp [go_sem]) ?_
        refine cw_goR 99 (by simp only [go_sem]; try exact rfl) ?_
        generalize s.getD i 0 = c at hno hyes
        have hc : okC c = ((!(decide ((c.toNat : Int) < 97)) && !(decide ((c.toNat : Int) > 122))) || (!(decide ((c.toNat : Int) < 48)) && !(decide ((c.toNat : Int) > 57)))) := by
          unfold okC
          rw [Bool.eq_iff_iff]
          simp only [Bool.or_eq_true, Bool.and_eq_true, decide_eq_true_eq, Bool.not_eq_true', decide_eq_false_iff_not]
          omega
        generalize hf1 : decide ((c.toNat : Int) < 97) = f1 at hc
        generalize hf2 : decide ((c.toNat : Int) > 122) = f2 at hc
        generalize hf3 : decide ((c.toNat : Int) < 48) = f3 at hc
        generalize hf4 : decide ((c.toNat : Int) > 57) = f4 at hc
        refine cw_runN tabOK 14 (by simp only [go_sem]; exact rfl) (by simp only [go_sem]; exact rfl) (by simp only [go_sem, hf1, hf2, hf3, hf4]; try exact rfl) ?_ ?_
        · cases f1 <;> cases f2 <;> cases f3 <;> cases f4 <;> simp
        have hb : (bif (bif f1 then true else f2) then (bif f3 then true else f4) else false) = !okC c := by
          rw [hc]; cases f1 <;> cases f2 <;> cases f3 <;> cases f4 <;> rfl
        simp only [go_sem, hb]
        refine cw_cond (by simp only [go_sem]; try exact rfl) trivial (fun h => ?_) (fun h => ?_)
        · have h0 : okC c = false := by simpa using h
          refine cw_go tabOK 99 (by simp only [go_sem]; try exact rfl) (by simp [go_sem]) ?_
          refine cw_ret ⟨_, _, (by simp only [go_sem]; try exact rfl), by simp [go_sem], _, .inr (.inl rfl), ?_⟩
          rw [hno h0]
        · have h0 : okC c = true := by simpa using h
          refine cw_go tabOK 99 (by simp only [go_sem, hw]; try exact rfl) (by simp [go_sem, hw]) ?_
          refine cw_back ⟨i + 1, ⟨by omega, hyes h0⟩, by omega, le_sub ?_ ?_ ?_⟩
          · simp [go_sem]
          · simp [go_sem]
          · simp [go_sem]
      · have e : i = s.length := by simp at h; omega
        have : s.all okC = true := List.all_eq_true.2 fun x hx => by
          obtain ⟨j, hj⟩ := List.getElem?_of_mem hx
          have := hs j (by rw [e]; exact (List.getElem?_eq_some_iff.1 hj).1)
          rwa [List.getD_eq_getElem?_getD, hj] at this
        refine cw_go tabOK 99 (by simp only [go_sem]; try exact rfl) (by simp [go_sem]) ?_
        refine cw_ret ⟨_, _, (by simp only [go_sem]; try exact rfl), by simp [go_sem], _, .inr (.inl rfl), ?_⟩
        rw [this]
end La

namespace La
open Go Go.Eng Go.Proofs
set_option maxRecDepth 10000
set_option linter.unusedSimpArgs false
set_option linter.unusedVariables false

theorem hold {K H : List (Nat × Blk)} (h : ∀ p, p ∈ K → hget H p.1 = some p.2) : ∀ i b, hget K i = some b → hget H i = some b := fun i b hb => h (i, b) (hget_mem hb)

theorem hold2 {a b : Nat} {x y : Blk} {H : List (Nat × Blk)} (h1 : hget H a = some x) (h2 : hget H b = some y) : ∀ i c, (if a = i then some x else if b = i then some y else none) = some c → hget H i = some c := fun i c hc => by
  by_cases e1 : a = i
  · subst e1; rw [if_pos rfl] at hc; rw [h1, hc]
  · rw [if_neg e1] at hc
    by_cases e2 : b = i
    · subst e2; rw [if_pos rfl] at hc; rw [h2, hc]
    · rw [if_neg e2] at hc; cases hc

def getN (l : List Node) (k : Int) : Node := (findN l k).getD zeroN
def dirE (l : List Node) (k : Int) : Int := match findN l k with
  | none => 12
  | some n => if n.dir then 0 else 8
def roomE (n : Node) (s : List UInt8) : Int := if nameB s then (if isE n.entries s then 7 else if n.entries.length ≥ 6 then 5 else 0) else 7
def doerRow (l : List Node) (a : Act) (v : Int) : List AV := [.sl (l.map nodeRow), .int .i64 a.kind, .int .i64 a.fid, .int .i64 a.dir, .str a.name, .int .i64 a.to, .str a.toName, .sl (a.data.map byteRow), .int .i64 v]
@[go_sem, simp] theorem doerRow_refsL (l : List Node) (a : Act) (v : Int) : refsL (doerRow l a v) = [] := rfl
def dH (R : List AV) (G Y N : Nat → Nat) : List (Nat × Blk) := [(15, .cells 143 9 [R])] ++ pins [15] G Y N

theorem room_ok (n : Node) (s : List UInt8) (hn : n.Small) (hs : s.length ≤ 100000000) : FnOK Try.prog 146 [.agg (nodeRow n), .str s] [] (fun r _ => r = .int .i64 (roomE n s)) := by
  have hlen := hn.entries
  refine fn_of_cwW tabOK (Go.Proofs.Try.func146) rfl (fun C => ?_)
  simp only [Go.Proofs.Try.ntmps146, Go.Proofs.Try.results146, go_sem]
  refine cw_go tabOK 99 (by simp only [go_sem, nodeRow]; try exact rfl) ?_ ?_
  · simp
  refine cw_call rfl rfl (by simp only [go_sem]; try exact rfl) (by simp [go_sem]) ⟨_, Go.Proofs.Try.func160, by kernel_rfl, rfl⟩ (by simp [go_sem]) (name_ok s hs) (by simp [go_sem]) (by simp only [go_sem]; exact rfl) ?_
  refine cw_go tabOK 99 (by simp only [go_sem]; try exact rfl) (by simp [go_sem]) ?_
  refine cw_cond (by simp only [go_sem]; try exact rfl) trivial (fun h => ?_) (fun h => ?_)
  · have h0 : nameB s = false := by simpa using h
    refine cw_go tabOK 99 (by simp only [go_sem]; try exact rfl) (by simp [go_sem]) ?_
    refine cw_ret ⟨_, _, (by simp only [go_sem]; try exact rfl), by simp [go_sem], _, .inr (.inl rfl), ?_⟩
    simp [roomE, h0]
  have h0 : nameB s = true := by simpa using h
  refine cw_go tabOK 99 (by simp only [go_sem, nodeRow]; try exact rfl) ?_ ?_
  · simp [nodeRow]
  refine cw_call rfl rfl (by simp only [go_sem]; try exact rfl) (by simp [go_sem]) ⟨_, Go.Proofs.Try.func36, by kernel_rfl, rfl⟩ (by simp [go_sem]) (entry_ok n s hn) (by simp [go_sem]) (by simp only [go_sem]; exact rfl) ?_
  cases he : isE n.entries s with
  | true =>
    have e1 : entryN n s = some (n.entries.getD (eplace n.entries s) default).fid := by unfold entryN; rw [if_pos he]
    rw [e1]
    simp only [optInt]
    refine cw_go tabOK 99 (by simp only [go_sem]; try exact rfl) (by simp [go_sem]) ?_
    refine cw_cond (by simp only [go_sem]; try exact rfl) trivial (fun h => ?_) (fun h => ?_)
    · refine cw_go tabOK 99 (by simp only [go_sem]; try exact rfl) (by simp [go_sem]) ?_
      refine cw_ret ⟨_, _, (by simp only [go_sem]; try exact rfl), by simp [go_sem], _, .inr (.inl rfl), ?_⟩
      simp [roomE, h0, he]
    · cases h
  | false =>
    have e1 : entryN n s = none := by unfold entryN; rw [if_neg (by simp [he])]
    rw [e1]
    simp only [optInt]
    refine cw_go tabOK 99 (by simp only [go_sem]; try exact rfl) (by simp [go_sem]) ?_
    refine cw_cond (by simp only [go_sem]; try exact rfl) trivial (fun h => ?_) (fun h => ?_)
    · cases h
    refine cw_go tabOK 99 (by simp only [go_sem, nodeRow]; try exact rfl) ?_ ?_
    · simp [nodeRow]
    refine cw_cond (by simp only [go_sem]; try exact rfl) trivial (fun h => ?_) (fun h => ?_)
    · have h6 : 6 ≤ n.entries.length := by simp at h; omega
      refine cw_go tabOK 99 (by simp only [go_sem]; try exact rfl) (by simp [go_sem]) ?_
      refine cw_ret ⟨_, _, (by simp only [go_sem]; try exact rfl), by simp [go_sem], _, .inr (.inl rfl), ?_⟩
      simp [roomE, h0, he, h6]
    · have h6 : ¬ 6 ≤ n.entries.length := by simp at h; omega
      refine cw_go tabOK 99 (by simp only [go_sem]; try exact rfl) (by simp [go_sem]) ?_
      refine cw_ret ⟨_, _, (by simp only [go_sem]; try exact rfl), by simp [go_sem], _, .inr (.inl rfl), ?_⟩
      simp [roomE, h0, he, h6]

theorem dir_ok (l : List Node) (a : Act) (v k : Int) (hl : Small l) (G Y N : Nat → Nat) : FnOK Try.prog 145 [.ptr 15 9 0 0, .int .i64 k] (dH (doerRow l a v) G Y N)
    (fun r H => r = .tup [.agg (nodeRow (getN l k)), .int .i64 (dirE l k)] ∧ ∀ i b, hget (dH (doerRow l a v) G Y N) i = some b → hget H i = some b) := by
  unfold dH
  refine fn_of_cwW tabOK (Go.Proofs.Try.func145) rfl (fun C => ?_)
  simp only [Go.Proofs.Try.ntmps145, Go.Proofs.Try.results145, go_sem]
  refine cw_go tabOK 99 (by simp only [go_sem, doerRow]; try exact rfl) ?_ ?_
  · simp [doerRow]
  refine cw_call rfl rfl (by simp only [go_sem]; try exact rfl) (by simp [go_sem]) ⟨_, Go.Proofs.Try.func33, by kernel_rfl, rfl⟩ (by simp [go_sem]) (find_ok l k hl) (by simp [go_sem]) (by simp only [go_sem]; exact rfl) ?_
  simp only [go_sem, findR]
  rw [isAt_eq]
  unfold getN dirE
  generalize findN l k = o
  cases o with
  | none =>
    simp only [Option.getD_none, Option.isSome_none]
    refine cw_go tabOK 99 (by simp only [go_sem, nodeRow, zeroN]; try exact rfl) ?_ ?_
    · simp [nodeRow]
    refine cw_cond (by simp only [go_sem]; try exact rfl) trivial (fun h => ?_) (fun h => ?_)
    · refine cw_go tabOK 99 (by simp only [go_sem, nodeRow, zeroN]; try exact rfl) ?_ ?_
      · simp [nodeRow]
      refine cw_ret ⟨_, _, by simp only [go_sem]; try exact rfl, by simp [go_sem], _, .inr (.inl rfl), ?_, hold2 ?_ ?_⟩
      · simp [nodeRow, zeroN]
      · simp [go_sem, doerRow]
      · simp [go_sem]
    · cases h
  | some n =>
    simp only [Option.getD_some, Option.isSome_some]
    refine cw_go tabOK 99 (by simp only [go_sem, nodeRow]; try exact rfl) ?_ ?_
    · simp [nodeRow]
    refine cw_cond (by simp only [go_sem]; try exact rfl) trivial (fun h => ?_) (fun h => ?_)
    · cases h
    refine cw_go tabOK 99 (by simp only [go_sem, nodeRow]; try exact rfl) ?_ ?_
    · simp [nodeRow]
    refine cw_cond (by simp only [go_sem]; try exact rfl) trivial (fun h => ?_) (fun h => ?_)
    · have hd : n.dir = false := by simpa using h
      refine cw_go tabOK 99 (by simp only [go_sem, nodeRow]; try exact rfl) ?_ ?_
      · simp [nodeRow]
      refine cw_ret ⟨_, _, by simp only [go_sem]; try exact rfl, by simp [go_sem], _, .inr (.inl rfl), ?_, hold2 ?_ ?_⟩
      · simp [nodeRow, hd]
      · simp [go_sem, doerRow]
      · simp [go_sem]
    · have hd : n.dir = true := by simpa using h
      refine cw_go tabOK 99 (by simp only [go_sem, nodeRow]; try exact rfl) ?_ ?_
      · simp [nodeRow]
      refine cw_ret ⟨_, _, by simp only [go_sem]; try exact rfl, by simp [go_sem], _, .inr (.inl rfl), ?_, hold2 ?_ ?_⟩
      · simp [nodeRow, hd]
      · simp [go_sem, doerRow]
      · simp [go_sem]

theorem put_in (l : List Node) (a : Act) (v : Int) (n : Node) (hl : Small l) (hn : n.Small) (G Y N : Nat → Nat) : FnOK Try.prog 147 [.ptr 15 9 0 0, .agg (nodeRow n)] (dH (doerRow l a v) G Y N)
    (fun r H => r = .tup [] ∧ ∀ i b, hget (dH (doerRow (putN l { n with version := v }) a v) G Y N) i = some b → hget H i = some b) := by
  have hp := put_ok l ({ n with version := v } : Node) hl ⟨hn.data, hn.entries⟩
  unfold dH
  refine fn_of_cwW tabOK (Go.Proofs.Try.func147) rfl (fun C => ?_)
  simp only [Go.Proofs.Try.ntmps147, Go.Proofs.Try.results147, go_sem]
  refine cw_go tabOK 99 (by simp only [go_sem, doerRow, nodeRow]; try exact rfl) ?_ ?_
  · simp [doerRow]
  refine cw_freeze 3 rfl (rfl) ?_
  simp only [go_sem]
  refine cw_draw mixed ?_
  refine seg_start rfl ?_
  refine seg_run tabOK (by simp only [go_sem]; try exact rfl) (by simp [go_sem]) (by simp only [go_sem]; exact rfl) ?_
  refine seg_call rfl rfl (by simp only [go_sem]; try exact rfl) (by simp [go_sem]) ⟨_, Go.Proofs.Try.func32, by kernel_rfl, rfl⟩ (by simp [go_sem]) (hp) (by simp [go_sem]) (by simp only [go_sem]; exact rfl) (by simp only [go_sem]; exact rfl) ?_
  refine seg_run tabOK (by simp only [go_sem]; try exact rfl) (by simp [go_sem]) (by simp only [go_sem]; exact rfl) ?_
  refine seg_end (by kernel_rfl) (by simp only [go_sem]; exact rfl) ?_
  refine draw_step tabOK rfl (by kernel_rfl) rfl (by simp only [go_sem]; try exact rfl) (by simp [go_sem]) rfl ?_
  refine draw_close (by kernel_rfl) ?_
  try simp only [go_sem, List.getElem_toArray, List.getElem_cons_succ, List.getElem_cons_zero]
  refine cw_nil ⟨_, _, rfl, trivial, .tup [], .inr (.inl rfl), rfl, hold2 ?_ ?_⟩
  · simp [go_sem, doerRow]
  · simp [go_sem]
end La
