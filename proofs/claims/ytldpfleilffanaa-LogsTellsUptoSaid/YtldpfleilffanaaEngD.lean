/- The abstract machine, part D: an operation that leaves the world as it is yields what 'pureOp' says. No condition. -/
import Derived.Test.YtldpfleilffanaaEngC
import Derived.Laws.BytesArg
import Derived.Laws.Slices
namespace Go.Eng
section sound
variable {P : Program} {T : Tab} {C : Ctx} {μ : Nat → Option Nat} {S : Nat → Prop} {σ : St} {a : Act} {w : World}

theorem sound_addStr {op : BinOp} {t : TypeId} {ox oy : Operand} {v u : Value} {x y r : AV} {p : Prop} (h : addStr op x y = some (p, r)) (hp : p) (hv : Rd μ S w v x) (hu : Rd μ S w u y) :
    ∃ q, (do eqGuard op t ox oy v u; binOp op t v u : Sem Value).run P w = .ok q w ∧ Rd μ S w q r := by
  unfold addStr at h
  split at h
  · simp only [Option.some.injEq, Prod.mk.injEq] at h
    obtain ⟨rfl, rfl⟩ := h
    obtain ⟨s, rfl, rfl⟩ := hv.inv_str
    obtain ⟨s', rfl, rfl⟩ := hu.inv_str
    have h1 : s.data.toList.length = s.size := by simp
    have h2 : s'.data.toList.length = s'.size := by simp
    rw [h1, h2] at hp
    refine ⟨.string (s ++ s'), ?_, .pure (.str _ _ (by simp))⟩
    simp only [eqGuard_at_string, pure_bind, binOp_string_add]
    exact run_string_add_sum w s s' (by omega)
  · rename_i k a k' b
    simp only [Option.some.injEq, Prod.mk.injEq] at h
    obtain ⟨rfl, rfl⟩ := h
    obtain rfl := hv.inv_int
    obtain rfl := hu.inv_int
    refine ⟨_, ?_, .pure (.int _ _)⟩
    simp [eqGuard_at_int, binOp, Op.shift, show ¬ b < 0 by omega]
  · rename_i k a k' b
    simp only [Option.some.injEq, Prod.mk.injEq] at h
    obtain ⟨rfl, rfl⟩ := h
    obtain rfl := hv.inv_int
    obtain rfl := hu.inv_int
    refine ⟨_, ?_, .pure (.int _ _)⟩
    simp [eqGuard_at_int, binOp, Op.shift, show ¬ b < 0 by omega]
  · simp only [Option.some.injEq, Prod.mk.injEq] at h
    obtain ⟨rfl, rfl⟩ := h
    subst hp
    obtain rfl := hv.inv_int
    obtain rfl := hu.inv_int
    refine ⟨_, ?_, .pure (.int _ _)⟩
    simp [eqGuard_at_int, binOp, Op.intBits]
  · simp only [Option.some.injEq, Prod.mk.injEq] at h
    obtain ⟨rfl, rfl⟩ := h
    subst hp
    obtain rfl := hv.inv_int
    obtain rfl := hu.inv_int
    refine ⟨_, ?_, .pure (.int _ _)⟩
    simp [eqGuard_at_int, binOp, Op.intBits]
  · simp only [Option.some.injEq, Prod.mk.injEq] at h
    obtain ⟨rfl, rfl⟩ := h
    obtain ⟨rfl, hb⟩ := hp
    obtain rfl := hv.inv_int
    obtain rfl := hu.inv_int
    refine ⟨_, ?_, .pure (.int _ _)⟩
    simp [eqGuard_at_int, binOp, Op.intDiv, hb]
  · simp only [Option.some.injEq, Prod.mk.injEq] at h
    obtain ⟨rfl, rfl⟩ := h
    obtain ⟨rfl, hb⟩ := hp
    obtain rfl := hv.inv_int
    obtain rfl := hu.inv_int
    refine ⟨_, ?_, .pure (.int _ _)⟩
    simp [eqGuard_at_int, binOp, Op.intDiv, hb]
  · cases h

theorem sound_un {op : UnOp} {v : Value} {x r : AV} (h : unAV op x = some r) (hv : Rd μ S w v x) : ∃ q, (Op.unary op v).run P w = .ok q w ∧ Rd μ S w q r := by
  unfold unAV at h
  split at h
  · injection h with h; subst h
    obtain rfl := hv.inv_bool
    exact ⟨_, rfl, .pure (.bool _)⟩
  · injection h with h; subst h
    obtain rfl := hv.inv_int
    exact ⟨_, rfl, .pure (.int _ _)⟩
  · cases h

theorem sound_pick (hi : Inv C μ S σ a w) {c x y : Operand} {r : AV} {p : Prop} (h : pickAV (ev σ c) (ev σ x) (ev σ y) = some (p, r)) (hp : p) :
    ∃ b, a.eval c = .bool b ∧ Rd μ S w (if b then a.eval x else a.eval y) r := by
  unfold pickAV at h
  have hc := (hi.ev c).strip
  have hx := (hi.ev x).strip
  have hy := (hi.ev y).strip
  revert h hc hx hy
  generalize strip (ev σ c) = qc
  generalize strip (ev σ x) = qx
  generalize strip (ev σ y) = qy
  intro h hc hx hy
  split at h
  · rename_i pc b
    split at h
    · simp only [Option.some.injEq, Prod.mk.injEq] at h
      obtain ⟨rfl, rfl⟩ := h
      obtain ⟨h1, h2, h3⟩ := hp
      refine ⟨b, (hc h1).inv_bool, ?_⟩
      cases b with
      | true => simpa using hx (h2 rfl)
      | false => simpa using hy (h3 rfl)
    · cases h
  · cases h

theorem run_getObj_map {g clk : Nat} {es : Array MapEntry} (h : w.heap[g]? = some (.map es clk)) : (getObj g).run P w = .ok (.map es clk) w := by
  simp [getObj, Sem.run, h]

theorem sound_len (hT : TabOK P T) (hi : Inv C μ S σ a w) {t ty : TypeId} {v : Value} {x r : AV} (h : lenAV T σ t x = some r) (hv : Rd μ S w v x) :
    ∃ u, (Builtin.len_ #[t] ty #[v]).run P w = .ok u w ∧ Rd μ S w u r := by
  unfold lenAV at h
  have ht := hT.und t
  split at h <;> (try cases h) <;> rename_i hu <;> rw [hu] at ht <;> simp only [KDOK] at ht
  · obtain ⟨s, rfl, rfl⟩ := hv.inv_str
    exact ⟨.int .i64 s.size, by simp [Builtin.len_, run_underlying ht, goInt], by simpa using Rd.pure (.int .i64 s.size)⟩
  · obtain ⟨A, cap, size, g, off, vals, rfl, _⟩ := hv.inv_sl.inv_sl
    exact ⟨_, by simp [Builtin.len_, run_underlying ht, goInt], .pure (.int _ _)⟩
  · obtain rfl := hv.inv_nils
    exact ⟨_, by simp [Builtin.len_, run_underlying ht, goInt], .pure (.int _ _)⟩
  · obtain ⟨A, cap, rfl, _⟩ := hv.inv_osl
    exact ⟨_, by simp [Builtin.len_, run_underlying ht, goInt], .pure (.int _ _)⟩
  · obtain rfl := hv.inv_nilm
    exact ⟨_, by simp [Builtin.len_, run_underlying ht, goInt], .pure (.int _ _)⟩
  · obtain ⟨g, es, clk, vals, rfl, hS, hg, hm, hr⟩ := hv.inv_rm.inv_rm
    refine ⟨.int .i64 es.size, by simp [Builtin.len_, run_underlying ht, goInt, run_getObj_map hg], ?_⟩
    rw [hm.size_eq]; exact .pure (.int _ _)
  · split at h <;> (try cases h)
    rename_i kvs hb
    obtain ⟨g, hg, rfl⟩ := hv.inv_mp
    obtain ⟨g', es, clk, vals, h1, h2, h3, h4⟩ := hi.hp _ _ hb
    rw [h1] at hg; injection hg with hg; subst hg
    refine ⟨.int .i64 es.size, by simp [Builtin.len_, run_underlying ht, goInt, run_getObj_map h2], ?_⟩
    rw [h3.size_eq]; exact .pure (.int _ _)

theorem evSL_len (os : List Operand) : (evSL σ os).2.length = os.length := by
  induction os with
  | nil => rfl
  | cons o r ih => simp [evSL, ih]

theorem Inv.evSL (hi : Inv C μ S σ a w) : ∀ (os : List Operand), (Eng.evSL σ os).1 → ∀ (j : Nat) x, (Eng.evSL σ os).2[j]? = some x → ∃ o, os[j]? = some o ∧ Rd μ S w (a.eval o) x
  | [], _, j, x, hx => by simp [Eng.evSL] at hx
  | o :: r, hp, j, x, hx => by
    simp only [Eng.evSL] at hp hx
    cases j with
    | zero => simp only [List.getElem?_cons_zero, Option.some.injEq] at hx; subst hx; exact ⟨o, rfl, hi.evS o hp.1⟩
    | succ j => simp only [List.getElem?_cons_succ] at hx ⊢; exact hi.evSL r hp.2 j x hx

theorem ord_of (hi : Inv C μ S σ a w) (o : Option Operand) (h : (evSL σ o.toList).1) : ORd μ S w (o.map fun o => (evS σ o).2) (o.map a.eval) := by
  cases o with
  | none => trivial
  | some o => exact hi.evS o h.1

theorem sound_conv (hT : TabOK P T) {s t : TypeId} {v : Value} {x r : AV} {p : Prop} (h : convAV T s t x = some (p, r)) (hp : p) (hv : Rd μ S w v x) :
    ∃ u, (convert s t v).run P w = .ok u w ∧ Rd μ S w u r := by
  unfold convAV at h
  have hs := hT.und s
  have ht := hT.und t
  split at h <;> (try cases h) <;> rename_i h1 h2 <;> rw [h1] at hs <;> rw [h2] at ht <;> simp only [KDOK] at hs ht
  · rename_i _ k k' n
    obtain rfl := hv.inv_int
    have e : P.intKind t = k := by simp [Program.intKind, ht]
    exact ⟨_, run_convert_int w s t _ _ (by rw [hs]; rfl) (by rw [e]; exact ht), by rw [e]; exact .pure (.int _ _)⟩
  · rename_i e rows
    obtain ⟨he, hrow⟩ := hp
    have he' := hT.und e
    rw [he] at he'
    simp only [KDOK] at he'
    obtain ⟨A, cap, size, g, off, vals, rfl, hc, hsz, hA, hcell, hr⟩ := hv.inv_sl.inv_sl
    have hstr : (strOfNums (rows.map numOf)).data.toList = rows.map byteOf := by rw [strOfNums_data, List.map_map]; rfl
    by_cases h0 : rows = []
    · subst h0
      cases A with
      | none => exact ⟨_, run_convert_bytes_nil w s e hs he' _ _ t ht, .pure (.str _ _ rfl)⟩
      | some a =>
        obtain ⟨b, o, i⟩ := a
        refine ⟨.string ByteArray.empty, ?_, .pure (.str _ _ rfl)⟩
        rw [run_convert_bytes_string w s t e _ _ _ hs he' ht]
        have hl : (Go.loadCells ⟨b, o, i⟩ ([] : List (List AV)).length).run P w = .ok (([] : List Int).map (Value.int .u8)).toArray w := by simp [Go.loadCells, loadCellsFrom]
        rw [run_bytesToString w _ _ cap [] hl]
        rfl
    · have hpos : 0 < rows.length := by
        rcases Nat.eq_zero_or_pos rows.length with h | h
        · exact absurd (List.eq_nil_of_length_eq_zero h) h0
        · exact h
      obtain ⟨rfl, _⟩ := hA hpos
      have hs1 : size = 1 := by
        obtain ⟨row, hmem⟩ := List.exists_mem_of_ne_nil rows h0
        obtain ⟨n, rfl⟩ := hrow row hmem
        rw [← hsz _ hmem]; rfl
      subst hs1
      refine ⟨_, run_convert_bytes_arg w s e hs he' g off rows.length cap (rows.map numOf) (by simp) (fun i hi => ?_) t ht, .pure (.str _ _ hstr)⟩
      have h1 := hcell i 0 hi (by omega)
      have hrow' : rows[i]? = some rows[i] := List.getElem?_eq_getElem hi
      obtain ⟨n, hn⟩ := hrow _ (List.getElem_mem hi)
      have h3 := hr i _ hrow' 0 (.int .u8 n) (by rw [hn]; rfl)
      have hval : vals i 0 = .int .u8 n := (Rd.pure (μ := μ) h3).inv_int
      have e2 : off + (i * 1 + 0) = off + i := by omega
      rw [e2] at h1
      rw [h1, List.getD_eq_getElem?_getD, List.getElem?_map, hrow', hn, hval]
      rfl
  · rename_i e
    obtain rfl := hv.inv_nils
    have he' := hT.und e
    rw [show T.und e = .int .u8 from hp] at he'
    exact ⟨_, run_convert_bytes_nil w s e hs he' _ _ t ht, .pure (.str _ _ rfl)⟩

/-! ### Maps -/

theorem mget_mem {α : Type} {n : Int} {x : α} : ∀ {kvs : List (Int × α)}, mget kvs n = some x → (n, x) ∈ kvs
  | [], h => by cases h
  | p :: r, h => by
    simp only [mget] at h
    split at h
    · rename_i e; subst e; injection h with h; subst h; exact List.mem_cons_self ..
    · exact List.mem_cons_of_mem _ (mget_mem h)

theorem mget_of_mem {α : Type} {n : Int} {x : α} : ∀ {kvs : List (Int × α)}, kvs.Pairwise (fun a b => a.1 < b.1) → (n, x) ∈ kvs → mget kvs n = some x
  | p :: r, hs, h => by
    simp only [mget]
    rw [List.pairwise_cons] at hs
    rcases List.mem_cons.1 h with e | h
    · rw [← e, if_pos rfl]
    · rw [if_neg (fun e => by have := hs.1 _ h; simp only at this; omega)]
      exact mget_of_mem hs.2 h

theorem mget_none {α : Type} {n : Int} : ∀ {kvs : List (Int × α)}, mget kvs n = none → ∀ x, (n, x) ∉ kvs
  | [], _, x, h => by cases h
  | p :: r, hn, x, h => by
    simp only [mget] at hn
    split at hn
    · cases hn
    · rename_i e
      rcases List.mem_cons.1 h with e' | h
      · exact e (by rw [← e'])
      · exact mget_none hn x h

theorem find_now (n : Int) : ∀ (es : List MapEntry) (i : Nat), (∀ e, e ∈ es → ∃ k, e.key = .int .i64 k) →
    (∃ j e, es[j]? = some e ∧ e.key = .int .i64 n ∧ Instr.findNow (.int .i64) (.int .i64 n) es i = some (some (i + j, e.val))) ∨
    ((∀ e, e ∈ es → e.key ≠ .int .i64 n) ∧ Instr.findNow (.int .i64) (.int .i64 n) es i = some none)
  | [], i, _ => .inr ⟨fun e h => by simp at h, rfl⟩
  | e :: es, i, h => by
    obtain ⟨k, hk⟩ := h e (by simp)
    by_cases hkn : n = k
    · subst hkn
      exact .inl ⟨0, e, rfl, hk, by simp [Instr.findNow, Instr.sameNow, hk]⟩
    · rcases find_now n es (i + 1) (fun e he => h e (by simp [he])) with ⟨j, e', h1, h2, h3⟩ | ⟨h1, h2⟩
      · refine .inl ⟨j + 1, e', by simpa using h1, h2, ?_⟩
        simp only [Instr.findNow, Instr.sameNow, hk, if_true, show (n == k) = false from by simpa using hkn]
        rw [h3, show i + 1 + j = i + (j + 1) from by omega]
      · refine .inr ⟨fun e' he => ?_, ?_⟩
        · rcases List.mem_cons.1 he with rfl | he
          · rw [hk]; intro hc; injection hc with _ hc; exact hkn hc.symm
          · exact h1 e' he
        · simp only [Instr.findNow, Instr.sameNow, hk, if_true, show (n == k) = false from by simpa using hkn]
          exact h2

theorem run_findKey {key : TypeId} (hk : P.underlying key = some (.int .i64)) {es : List MapEntry} {n : Int} {r : Option (Nat × Value)} (h : Instr.findNow (.int .i64) (.int .i64 n) es 0 = some r) :
    (Instr.findKey key (.int .i64 n) es).run P w = .ok r w := by
  unfold Instr.findKey
  simp [run_underlying hk, h]

theorem run_checkKey {key : TypeId} (hk : P.underlying key = some (.int .i64)) (b : Bool) (n : Int) : (Instr.checkKey b 10000 key (.int .i64 n)).run P w = .ok () w := by
  unfold Instr.checkKey
  simp [run_underlying hk]

theorem i64_of (hT : TabOK P T) {k : TypeId} (h : (T.und k).isI64 = true) : P.underlying k = some (.int .i64) := by
  have ht := hT.und k
  unfold KD.isI64 at h
  split at h
  · rename_i e; rw [e] at ht; exact ht
  · cases h

/-- what a map's entries say of a key -/
theorem MapOK.find {es : Array MapEntry} {clk : Nat} {kvs : List (Int × AV)} {vals : Int → Value} (h : MapOK es clk kvs vals) (n : Int) :
    (∃ j e x, es.toList[j]? = some e ∧ e.key = .int .i64 n ∧ e.val = vals n ∧ mget kvs n = some x ∧ Instr.findNow (.int .i64) (.int .i64 n) es.toList 0 = some (some (j, vals n))) ∨
    (mget kvs n = none ∧ (∀ e, e ∈ es.toList → e.key ≠ .int .i64 n) ∧ Instr.findNow (.int .i64) (.int .i64 n) es.toList 0 = some none) := by
  rcases find_now n es.toList 0 (fun e he => by obtain ⟨k, x, hk, _⟩ := h.key e he; exact ⟨k, hk⟩) with ⟨j, e, h1, h2, h3⟩ | ⟨h1, h2⟩
  · obtain ⟨k, x, k1, k2, k3⟩ := h.key e (List.mem_of_getElem? h1)
    rw [h2] at k1
    injection k1 with _ k1
    subst k1
    refine .inl ⟨j, e, x, h1, h2, k3, mget_of_mem h.rise k2, ?_⟩
    rw [h3, Nat.zero_add, k3]
  · refine .inr ⟨?_, h1, h2⟩
    cases e : mget kvs n with
    | none => rfl
    | some x =>
      obtain ⟨e', he, hk⟩ := h.has _ (mget_mem e)
      exact absurd hk (h1 e' he)

theorem zero_rd (hT : TabOK P T) {e : TypeId} (hs : T.siz e ≠ 0) {z : AV} (hz : zeroAV T e = some z) : ∃ v, (∀ w, (zeroValue e).run P w = .ok v w) ∧ ∀ μ S w, Rd μ S w v z := by
  obtain ⟨i, h1, h2, h3, zv, h4, h5, h6, h7⟩ := hT.siz e hs
  refine ⟨zv, fun w => ?_, fun μ S w => ?_⟩
  · simp [zeroValue, typeInfo, h1, h4]
  · unfold zeroAV at hz
    rw [h7] at hz
    have hcell : ∀ (j : Nat) x, (T.zer e)[j]? = some x → Rd μ S w (zv.cells.getD j undef) x := fun j x hx => by
      rw [← h5, List.getElem?_map] at hx
      cases e2 : zv.cells.toList[j]? with
      | none => rw [e2] at hx; cases hx
      | some u =>
        rw [e2] at hx
        simp only [Option.map_some, Option.some.injEq] at hx
        subst hx
        have : zv.cells.getD j undef = u := by
          rw [Array.getD_eq_getD_getElem?, ← Array.getElem?_toList, e2]; rfl
        rw [this]; exact rd_ofValue μ S w u
    have hlen : (T.zer e).length = T.siz e := by rw [← h5, List.length_map, Array.length_toList, h6]
    cases zv with
    | agg cs =>
      simp only [Option.some.injEq] at hz
      subst hz
      exact .agg cs _ (by rw [hlen]; exact h6) hcell
    | _ =>
      simp only [Option.some.injEq] at hz
      subst hz
      have hl1 : T.siz e = 1 := by rw [← h6]; rfl
      have hx : (T.zer e)[0]? = some ((T.zer e).getD 0 .any) := by
        rw [List.getD_eq_getElem?_getD, List.getElem?_eq_getElem (by omega)]; rfl
      exact hcell 0 _ hx

/-- a map, as the model has it -/
theorem map_of (hi : Inv C μ S σ a w) {v : Value} {x : AV} {kvs : List (Int × AV)} (h : mapOf σ x = some kvs) (hv : Rd μ S w v x) :
    (v = .map none ∧ kvs = []) ∨ ∃ g es clk vals, v = .map (some g) ∧ w.heap[g]? = some (.map es clk) ∧ MapOK es clk kvs vals ∧ ∀ p, p ∈ kvs → RdP S w (vals p.1) p.2 := by
  unfold mapOf at h
  split at h
  · injection h with h; subst h
    obtain ⟨g, es, clk, vals, h1, h2, h3, h4, h5⟩ := hv.inv_rm.inv_rm
    exact .inr ⟨g, es, clk, vals, h1, h3, h4, h5⟩
  · injection h with h; subst h
    exact .inl ⟨hv.inv_nilm, rfl⟩
  · split at h
    · rename_i id kvs' hb
      injection h with h; subst h
      obtain ⟨g, hg, rfl⟩ := hv.inv_mp
      obtain ⟨g', es, clk, vals, k1, k2, k3, k4⟩ := hi.hp _ _ hb
      rw [k1] at hg; injection hg with hg; subst hg
      exact .inr ⟨g', es, clk, vals, rfl, k2, k3, k4⟩
    · cases h
  · cases h

theorem sound_look (hT : TabOK P T) (hi : Inv C μ S σ a w) {t : TypeId} {v vi : Value} {x i r : AV} {ok : Bool} {p : Prop} (h : lookAV T σ t x i ok = some (p, r)) (hp : p) (hv : Rd μ S w v x) (hvi : Rd μ S w vi i) :
    ∃ u, (Instr.lookup t v vi ok).run P w = .ok u w ∧ Rd μ S w u r := by
  unfold lookAV at h
  split at h
  · rename_i k e kvs n hu hm
    split at h
    · rename_i z hz
      simp only [Option.some.injEq, Prod.mk.injEq] at h
      obtain ⟨rfl, rfl⟩ := h
      obtain ⟨hk, hs⟩ := hp
      have hk := i64_of hT hk
      have ht := hT.und t
      rw [hu] at ht
      simp only [KDOK] at ht
      obtain rfl := hvi.inv_int
      obtain ⟨zv, hz1, hz2⟩ := zero_rd hT hs hz
      have fin : ∀ (u : Value) (y : AV) (b : Bool), Rd μ S w u y → Rd μ S w (if ok then .tuple #[u, .bool b] else u) (bif ok then .tup [y, .bool b] else y) := fun u y b hu => by
        cases ok with
        | false => exact hu
        | true =>
          refine .tup _ _ rfl fun j x hx => ?_
          rcases j with _ | _ | j
          · simp at hx; subst hx; exact hu
          · simp at hx; subst hx; exact .pure (.bool b)
          · simp at hx
      rcases map_of hi hm hv with ⟨rfl, rfl⟩ | ⟨g, es, clk, vals, rfl, h2, h3, h4⟩
      · refine ⟨if ok then .tuple #[zv, .bool false] else zv, ?_, fin zv z false (hz2 μ S w)⟩
        simp [Instr.lookup, run_underlying ht, run_checkKey hk, run_findKey (w := w) hk (es := []) (n := n) (r := none) rfl, hz1]
      · rcases h3.find n with ⟨j, en, y, k1, k2, k3, k4, k5⟩ | ⟨k1, k2, k3⟩
        · refine ⟨if ok then .tuple #[vals n, .bool true] else vals n, ?_, ?_⟩
          · simp [Instr.lookup, run_underlying ht, run_checkKey hk, run_findKey (w := w) hk k5, run_getObj_map h2]
          · rw [k4]; exact fin _ _ true (.pure (h4 _ (mget_mem k4)))
        · refine ⟨if ok then .tuple #[zv, .bool false] else zv, ?_, ?_⟩
          · simp [Instr.lookup, run_underlying ht, run_checkKey hk, run_findKey (w := w) hk k3, run_getObj_map h2, hz1]
          · rw [k1]; exact fin _ _ false (hz2 μ S w)
    · cases h
  · cases h

/-- THE VALUE OF AN OPERATION THAT LEAVES THE WORLD AS IT IS. -/
theorem sound_pure (hT : TabOK P T) (hi : Inv C μ S σ a w) (o : Oper) {p : Prop} {x : AV} (h : pureOp T σ o.op = some (p, x)) (hp : p) :
    ∃ u, (execOp a.eval o).run P w = .ok (.value u) w ∧ Rd μ S w u x := by
  unfold pureOp at h
  unfold execOp
  split at h
  · simp only [Option.some.injEq, Prod.mk.injEq] at h
    obtain ⟨rfl, rfl⟩ := h
    rename_i he; rw [he]
    exact ⟨_, rfl, hi.ev _⟩
  · simp only [Option.some.injEq, Prod.mk.injEq] at h
    obtain ⟨rfl, rfl⟩ := h
    rename_i he; rw [he]
    exact ⟨_, rfl, hi.ev _⟩
  · rename_i he; rw [he]
    obtain ⟨b, h1, h2⟩ := sound_pick hi h hp
    refine ⟨_, ?_, h2⟩
    simp [h1, asBool]
  · rename_i t y he; rw [he]
    cases hl : loadOp T σ t (evS σ y).2 with
    | none => rw [hl] at h; cases h
    | some q =>
      simp only [hl, Option.map_some, Option.some.injEq, Prod.mk.injEq] at h
      obtain ⟨rfl, rfl⟩ := h
      obtain ⟨u, h1, h2⟩ := sound_load hT hi (p := q.1) (r := q.2) hl hp.2 (hi.evS y hp.1)
      exact ⟨u, by simp [h1], h2⟩
  · rename_i y he; rw [he]
    split at h <;> (try cases h)
    · rename_i id size row off hy
      have hv := hi.evS y hp
      rw [hy] at hv
      obtain ⟨g, hg, hv'⟩ := hv.inv_ptr
      exact ⟨_, by simp [hv'], .ptr id size row off g hg⟩
    · rename_i cells off hy
      have hv := hi.evS y hp
      rw [hy] at hv
      obtain ⟨g, o', vals, hv', _⟩ := hv.inv_rp.inv_rp
      exact ⟨a.eval y, by simp [hv'], hv⟩
  · rename_i op t y z ty he; rw [he]
    split at h
    · rename_i r hb
      simp only [Option.some.injEq, Prod.mk.injEq] at h
      obtain ⟨rfl, rfl⟩ := h
      obtain ⟨q, h1, h2⟩ := sound_bin (P := P) (μ := μ) (S := S) (w := w) (ox := y) (oy := z) hT hb (hi.evS y hp.1) (hi.evS z hp.2)
      exact ⟨q, by simp only [Sem.run_bind] at h1 ⊢; rw [h1]; rfl, h2⟩
    · cases hl : addStr op (evS σ y).2 (evS σ z).2 with
      | none => rw [hl] at h; cases h
      | some q =>
        simp only [hl, Option.map_some, Option.some.injEq, Prod.mk.injEq] at h
        obtain ⟨rfl, rfl⟩ := h
        obtain ⟨u, h1, h2⟩ := sound_addStr (P := P) (μ := μ) (S := S) (w := w) (t := t) (ox := y) (oy := z) (p := q.1) (r := q.2) hl hp.2.2 (hi.evS y hp.1) (hi.evS z hp.2.1)
        exact ⟨u, by simp only [Sem.run_bind] at h1 ⊢; rw [h1]; rfl, h2⟩
  · rename_i op t y he; rw [he]
    cases hl : unAV op (evS σ y).2 with
    | none => rw [hl] at h; cases h
    | some q =>
      simp only [hl, Option.map_some, Option.some.injEq, Prod.mk.injEq] at h
      obtain ⟨rfl, rfl⟩ := h
      obtain ⟨u, h1, h2⟩ := sound_un (P := P) (μ := μ) (S := S) (w := w) hl (hi.evS y hp)
      exact ⟨u, by simp [h1], h2⟩
  · rename_i t y j he; rw [he]
    cases hl : fieldAddrAV T t (evS σ y).2 j with
    | none => rw [hl] at h; cases h
    | some q =>
      simp only [hl, Option.map_some, Option.some.injEq, Prod.mk.injEq] at h
      obtain ⟨rfl, rfl⟩ := h
      obtain ⟨u, h1, h2⟩ := sound_fieldAddr (P := P) (μ := μ) (S := S) (w := w) hT hl (hi.evS y hp)
      exact ⟨u, by simp [h1], h2⟩
  · rename_i t y j he; rw [he]
    cases hl : fieldAV T t (evS σ y).2 j with
    | none => rw [hl] at h; cases h
    | some q =>
      simp only [hl, Option.map_some, Option.some.injEq, Prod.mk.injEq] at h
      obtain ⟨rfl, rfl⟩ := h
      obtain ⟨u, h1, h2⟩ := sound_field (P := P) (μ := μ) (S := S) (w := w) hT (p := q.1) (r := q.2) hl hp.2 (hi.evS y hp.1)
      exact ⟨u, by simp [h1], h2⟩
  · rename_i t y j he; rw [he]
    cases hl : indexAddrAV T t (evS σ y).2 (evS σ j).2 with
    | none => rw [hl] at h; cases h
    | some q =>
      simp only [hl, Option.map_some, Option.some.injEq, Prod.mk.injEq] at h
      obtain ⟨rfl, rfl⟩ := h
      obtain ⟨u, h1, h2⟩ := sound_indexAddr (P := P) (μ := μ) (S := S) (w := w) hT (p := q.1) (r := q.2) hl hp.2.2 (hi.evS y hp.1) (hi.evS j hp.2.1)
      exact ⟨u, by simp [h1], h2⟩
  · rename_i t y j he; rw [he]
    cases hl : indexAV T t (evS σ y).2 (evS σ j).2 with
    | none => rw [hl] at h; cases h
    | some q =>
      simp only [hl, Option.map_some, Option.some.injEq, Prod.mk.injEq] at h
      obtain ⟨rfl, rfl⟩ := h
      obtain ⟨u, h1, h2⟩ := sound_index (P := P) (μ := μ) (S := S) (w := w) hT (p := q.1) (r := q.2) hl hp.2.2 (hi.evS y hp.1) (hi.evS j hp.2.1)
      exact ⟨u, by simp [h1], h2⟩
  · rename_i t y lo hi' he; rw [he]
    cases hl : sliceAV T t (evS σ y).2 (lo.map fun o => (evS σ o).2) (hi'.map fun o => (evS σ o).2) with
    | none => rw [hl] at h; cases h
    | some q =>
      simp only [hl, Option.map_some, Option.some.injEq, Prod.mk.injEq] at h
      obtain ⟨rfl, rfl⟩ := h
      obtain ⟨u, h1, h2⟩ := sound_slice (P := P) (μ := μ) (S := S) (w := w) hT (p := q.1) (r := q.2) hl hp.2.2.2 (hi.evS y hp.1) (ord_of hi lo hp.2.1) (ord_of hi hi' hp.2.2.1)
      exact ⟨u, by simp [h1], h2⟩
  · rename_i y j he; rw [he]
    split at h <;> (try cases h)
    rename_i vs hy
    have hv := hi.evS y hp.1
    rw [hy] at hv
    obtain ⟨us, hv', hl, hr⟩ := hv.inv_tup
    have hj : j < us.size := by omega
    refine ⟨us[j], by simp [hv', Instr.extract, hj], ?_⟩
    have := hr j (vs.getD j .any) (by rw [List.getD_eq_getElem?_getD, List.getElem?_eq_getElem hp.2]; rfl)
    rwa [Array.getD_eq_getD_getElem?, Array.getElem?_eq_getElem hj] at this
  · rename_i f first captured he; rw [he]
    split at h <;> (try cases h)
    rename_i hf
    have hf : first = #[] := by
      cases first with | mk l => cases l <;> simp_all
    subst hf
    refine ⟨.func (.func f) #[] (captured.map a.eval), by simp [Instr.makeFunc], .fn f _ _ (by rw [evSL_len]; simp) (fun j x hx => ?_)⟩
    obtain ⟨o, ho, hr⟩ := hi.evSL _ hp j x hx
    have : (captured.map a.eval).getD j undef = a.eval o := by
      rw [Array.getD_eq_getD_getElem?, Array.getElem?_map]
      have : captured[j]? = some o := by simpa using ho
      rw [this]; rfl
    rw [this]; exact hr
  · rename_i args ats he; rw [he]
    split at h <;> (try cases h)
    rename_i y t hy ht
    cases hl : lenAV T σ t (evS σ y).2 with
    | none => rw [hl] at h; cases h
    | some q =>
      simp only [hl, Option.map_some, Option.some.injEq, Prod.mk.injEq] at h
      obtain ⟨rfl, rfl⟩ := h
      have e1 : args = #[y] := by cases args; simp_all
      have e2 : ats = #[t] := by cases ats; simp_all
      subst e1 e2
      obtain ⟨u, h1, h2⟩ := sound_len (ty := o.type) (P := P) (μ := μ) (S := S) (w := w) hT hi hl (hi.evS y hp)
      exact ⟨u, by simp [resolve, invoke, builtin, h1], h2⟩
  · rename_i s t y he; rw [he]
    cases hl : convAV T s t (evS σ y).2 with
    | none => rw [hl] at h; cases h
    | some q =>
      simp only [hl, Option.map_some, Option.some.injEq, Prod.mk.injEq] at h
      obtain ⟨rfl, rfl⟩ := h
      obtain ⟨u, h1, h2⟩ := sound_conv (P := P) (μ := μ) (S := S) (w := w) hT (p := q.1) (r := q.2) hl hp.2 (hi.evS y hp.1)
      exact ⟨u, by simp [h1], h2⟩
  · rename_i t y i ok he; rw [he]
    cases hl : lookAV T σ t (evS σ y).2 (evS σ i).2 ok with
    | none => rw [hl] at h; cases h
    | some q =>
      simp only [hl, Option.map_some, Option.some.injEq, Prod.mk.injEq] at h
      obtain ⟨rfl, rfl⟩ := h
      obtain ⟨u, h1, h2⟩ := sound_look (P := P) (μ := μ) (S := S) (w := w) hT hi (p := q.1) (r := q.2) hl hp.2.2 (hi.evS y hp.1) (hi.evS i hp.2.1)
      exact ⟨u, by simp [h1], h2⟩
  · cases h

end sound
end Go.Eng
