/- Texts of this claim, part 2: EngD, EngE, EngF. No condition. -/
import Derived.Test.YtfiiingppbkpkaaGreatXF1
import Derived.Laws.BytesArg
import Derived.Laws.Slices
set_option maxRecDepth 10000
set_option maxHeartbeats 4000000
set_option linter.unusedSimpArgs false
set_option linter.unusedVariables false
namespace Go.Eng
section sound
variable {P : Program} {T : Tab} {C : Ctx} {μ : Nat → Option Nat} {S : Nat → Prop} {σ : St} {a : Act} {w : World}
theorem sound_addStr {op : BinOp} {t : TypeId} {ox oy : Operand} {v u : Value} {x y r : AV} {p : Prop} (h : addStr op x y = some (p, r)) (hp : p) (hv : Rd μ S w v x) (hu : Rd μ S w u y) :
  ∃ q, (do eqGuard op t ox oy v u; binOp op t v u : Sem Value).run P w = .ok q w ∧ Rd μ S w q r := by
 unfold addStr at h
 split at h
 ·simp only [Option.some.injEq, Prod.mk.injEq] at h
  obtain ⟨rfl, rfl⟩ := h
  obtain ⟨s, rfl, rfl⟩ := hv.inv_str
  obtain ⟨s', rfl, rfl⟩ := hu.inv_str
  have h1 : s.data.toList.length = s.size := by simp
  have h2 : s'.data.toList.length = s'.size := by simp
  rw [h1, h2] at hp
  refine ⟨.string (s ++ s'), ?_, .pure (.str _ _ (by simp))⟩
  simp only [eqGuard_at_string, pure_bind, binOp_string_add]
  exact run_string_add_sum w s s' (by omega)
 ·rename_i k a k' b
  simp only [Option.some.injEq, Prod.mk.injEq] at h
  obtain ⟨rfl, rfl⟩ := h
  obtain rfl := hv.inv_int
  obtain rfl := hu.inv_int
  refine ⟨_, ?_, .pure (.int _ _)⟩
  simp [eqGuard_at_int, binOp, Op.shift, show ¬ b < 0 by omega]
 ·rename_i k a k' b
  simp only [Option.some.injEq, Prod.mk.injEq] at h
  obtain ⟨rfl, rfl⟩ := h
  obtain rfl := hv.inv_int
  obtain rfl := hu.inv_int
  refine ⟨_, ?_, .pure (.int _ _)⟩
  simp [eqGuard_at_int, binOp, Op.shift, show ¬ b < 0 by omega]
 ·simp only [Option.some.injEq, Prod.mk.injEq] at h
  obtain ⟨rfl, rfl⟩ := h
  subst hp
  obtain rfl := hv.inv_int
  obtain rfl := hu.inv_int
  refine ⟨_, ?_, .pure (.int _ _)⟩
  simp [eqGuard_at_int, binOp, Op.intBits]
 ·simp only [Option.some.injEq, Prod.mk.injEq] at h
  obtain ⟨rfl, rfl⟩ := h
  subst hp
  obtain rfl := hv.inv_int
  obtain rfl := hu.inv_int
  refine ⟨_, ?_, .pure (.int _ _)⟩
  simp [eqGuard_at_int, binOp, Op.intBits]
 ·simp only [Option.some.injEq, Prod.mk.injEq] at h
  obtain ⟨rfl, rfl⟩ := h
  obtain ⟨rfl, hb⟩ := hp
  obtain rfl := hv.inv_int
  obtain rfl := hu.inv_int
  refine ⟨_, ?_, .pure (.int _ _)⟩
  simp [eqGuard_at_int, binOp, Op.intDiv, hb]
 ·simp only [Option.some.injEq, Prod.mk.injEq] at h
  obtain ⟨rfl, rfl⟩ := h
  obtain ⟨rfl, hb⟩ := hp
  obtain rfl := hv.inv_int
  obtain rfl := hu.inv_int
  refine ⟨_, ?_, .pure (.int _ _)⟩
  simp [eqGuard_at_int, binOp, Op.intDiv, hb]
 ·cases h
theorem sound_un {op : UnOp} {v : Value} {x r : AV} (h : unAV op x = some r) (hv : Rd μ S w v x) : ∃ q, (Op.unary op v).run P w = .ok q w ∧ Rd μ S w q r := by
 unfold unAV at h
 split at h
 ·injection h with h; subst h
  obtain rfl := hv.inv_bool
  exact ⟨_, rfl, .pure (.bool _)⟩
 ·injection h with h; subst h
  obtain rfl := hv.inv_int
  exact ⟨_, rfl, .pure (.int _ _)⟩
 ·cases h
theorem sound_pick (hi : Inv C μ S σ a w) {c x y : Operand} {r : AV} {p : Prop} (h : pickAV (ev σ c) (ev σ x) (ev σ y) = some (p, r)) (hp : p) :
  ∃ b, a.eval c = .bool b ∧ Rd μ S w (if b then a.eval x else a.eval y) r := by
 unfold pickAV at h
 have hc := (hi.ev c).strip
 have hx := (hi.ev x).strip
 have hy := (hi.ev y).strip
 revert h hc hx hy
 generalize strip (ev σ c) = qc
 generalize strip (ev σ x) = qx
 generalize strip (ev σ y) = qy
 intro h hc hx hy
 split at h
 ·rename_i pc b
  split at h
  ·simp only [Option.some.injEq, Prod.mk.injEq] at h
   obtain ⟨rfl, rfl⟩ := h
   obtain ⟨h1, h2, h3⟩ := hp
   refine ⟨b, (hc h1).inv_bool, ?_⟩
   cases b with
   | true => simpa using hx (h2 rfl)
   | false => simpa using hy (h3 rfl)
  ·cases h
 ·cases h
theorem run_getObj_map {g clk : Nat} {es : Array MapEntry} (h : w.heap[g]? = some (.map es clk)) : (getObj g).run P w = .ok (.map es clk) w := by
 simp [getObj, Sem.run, h]
theorem sound_len (hT : TabOK P T) (hi : Inv C μ S σ a w) {t ty : TypeId} {v : Value} {x r : AV} (h : lenAV T σ t x = some r) (hv : Rd μ S w v x) :
  ∃ u, (Builtin.len_ #[t] ty #[v]).run P w = .ok u w ∧ Rd μ S w u r := by
 unfold lenAV at h
 have ht := hT.und t
 split at h <;> (try cases h) <;> rename_i hu <;> rw [hu] at ht <;> simp only [KDOK] at ht
 ·obtain ⟨s, rfl, rfl⟩ := hv.inv_str
  exact ⟨.int .i64 s.size, by simp [Builtin.len_, run_underlying ht, goInt], by simpa using Rd.pure (.int .i64 s.size)⟩
 ·obtain ⟨A, cap, size, g, off, vals, rfl, _⟩ := hv.inv_sl.inv_sl
  exact ⟨_, by simp [Builtin.len_, run_underlying ht, goInt], .pure (.int _ _)⟩
 ·obtain rfl := hv.inv_nils
  exact ⟨_, by simp [Builtin.len_, run_underlying ht, goInt], .pure (.int _ _)⟩
 ·obtain ⟨A, cap, rfl, _⟩ := hv.inv_osl
  exact ⟨_, by simp [Builtin.len_, run_underlying ht, goInt], .pure (.int _ _)⟩
 ·obtain rfl := hv.inv_nilm
  exact ⟨_, by simp [Builtin.len_, run_underlying ht, goInt], .pure (.int _ _)⟩
 ·obtain ⟨g, es, clk, vals, rfl, hS, hg, hm, hr⟩ := hv.inv_rm.inv_rm
  refine ⟨.int .i64 es.size, by simp [Builtin.len_, run_underlying ht, goInt, run_getObj_map hg], ?_⟩
  rw [hm.size_eq]; exact .pure (.int _ _)
 ·split at h <;> (try cases h)
  rename_i kvs hb
  obtain ⟨g, hg, rfl⟩ := hv.inv_mp
  obtain ⟨g', es, clk, vals, h1, h2, h3, h4⟩ := hi.hp _ _ hb
  rw [h1] at hg; injection hg with hg; subst hg
  refine ⟨.int .i64 es.size, by simp [Builtin.len_, run_underlying ht, goInt, run_getObj_map h2], ?_⟩
  rw [h3.size_eq]; exact .pure (.int _ _)
theorem evSL_len (os : List Operand) : (evSL σ os).2.length = os.length := by
 induction os with
 | nil => rfl
 | cons o r ih => simp [evSL, ih]
theorem Inv.evSL (hi : Inv C μ S σ a w) : ∀ (os : List Operand), (Eng.evSL σ os).1 → ∀ (j : Nat) x, (Eng.evSL σ os).2[j]? = some x → ∃ o, os[j]? = some o ∧ Rd μ S w (a.eval o) x
 | [], _, j, x, hx => by simp [Eng.evSL] at hx
 | o :: r, hp, j, x, hx => by
  simp only [Eng.evSL] at hp hx
  cases j with
  | zero => simp only [List.getElem?_cons_zero, Option.some.injEq] at hx; subst hx; exact ⟨o, rfl, hi.evS o hp.1⟩
  | succ j => simp only [List.getElem?_cons_succ] at hx ⊢; exact hi.evSL r hp.2 j x hx
theorem ord_of (hi : Inv C μ S σ a w) (o : Option Operand) (h : (evSL σ o.toList).1) : ORd μ S w (o.map fun o => (evS σ o).2) (o.map a.eval) := by
 cases o with
 | none => trivial
 | some o => exact hi.evS o h.1
theorem sound_conv (hT : TabOK P T) {s t : TypeId} {v : Value} {x r : AV} {p : Prop} (h : convAV T s t x = some (p, r)) (hp : p) (hv : Rd μ S w v x) :
  ∃ u, (convert s t v).run P w = .ok u w ∧ Rd μ S w u r := by
 unfold convAV at h
 have hs := hT.und s
 have ht := hT.und t
 split at h <;> (try cases h) <;> rename_i h1 h2 <;> rw [h1] at hs <;> rw [h2] at ht <;> simp only [KDOK] at hs ht
 ·rename_i _ k k' n
  obtain rfl := hv.inv_int
  have e : P.intKind t = k := by simp [Program.intKind, ht]
  exact ⟨_, run_convert_int w s t _ _ (by rw [hs]; rfl) (by rw [e]; exact ht), by rw [e]; exact .pure (.int _ _)⟩
 ·rename_i e rows
  obtain ⟨he, hrow⟩ := hp
  have he' := hT.und e
  rw [he] at he'
  simp only [KDOK] at he'
  obtain ⟨A, cap, size, g, off, vals, rfl, hc, hsz, hA, hcell, hr⟩ := hv.inv_sl.inv_sl
  have hstr : (strOfNums (rows.map numOf)).data.toList = rows.map byteOf := by rw [strOfNums_data, List.map_map]; rfl
  by_cases h0 : rows = []
  ·subst h0
   cases A with
   | none => exact ⟨_, run_convert_bytes_nil w s e hs he' _ _ t ht, .pure (.str _ _ rfl)⟩
   | some a =>
    obtain ⟨b, o, i⟩ := a
    refine ⟨.string ByteArray.empty, ?_, .pure (.str _ _ rfl)⟩
    rw [run_convert_bytes_string w s t e _ _ _ hs he' ht]
    have hl : (Go.loadCells ⟨b, o, i⟩ ([] : List (List AV)).length).run P w = .ok (([] : List Int).map (Value.int .u8)).toArray w := by simp [Go.loadCells, loadCellsFrom]
    rw [run_bytesToString w _ _ cap [] hl]
    rfl
  ·have hpos : 0 < rows.length := by
    rcases Nat.eq_zero_or_pos rows.length with h | h
    ·exact absurd (List.eq_nil_of_length_eq_zero h) h0
    ·exact h
   obtain ⟨rfl, _⟩ := hA hpos
   have hs1 : size = 1 := by
    obtain ⟨row, hmem⟩ := List.exists_mem_of_ne_nil rows h0
    obtain ⟨n, rfl⟩ := hrow row hmem
    rw [← hsz _ hmem]; rfl
   subst hs1
   refine ⟨_, run_convert_bytes_arg w s e hs he' g off rows.length cap (rows.map numOf) (by simp) (fun i hi => ?_) t ht, .pure (.str _ _ hstr)⟩
   have h1 := hcell i 0 hi (by omega)
   have hrow' : rows[i]? = some rows[i] := List.getElem?_eq_getElem hi
   obtain ⟨n, hn⟩ := hrow _ (List.getElem_mem hi)
   have h3 := hr i _ hrow' 0 (.int .u8 n) (by rw [hn]; rfl)
   have hval : vals i 0 = .int .u8 n := (Rd.pure (μ := μ) h3).inv_int
   have e2 : off + (i * 1 + 0) = off + i := by omega
   rw [e2] at h1
   rw [h1, List.getD_eq_getElem?_getD, List.getElem?_map, hrow', hn, hval]
   rfl
 ·rename_i e
  obtain rfl := hv.inv_nils
  have he' := hT.und e
  rw [show T.und e = .int .u8 from hp] at he'
  exact ⟨_, run_convert_bytes_nil w s e hs he' _ _ t ht, .pure (.str _ _ rfl)⟩
theorem mget_mem {α : Type} {n : Int} {x : α} : ∀ {kvs : List (Int × α)}, mget kvs n = some x → (n, x) ∈ kvs
 | [], h => by cases h
 | p :: r, h => by
  simp only [mget] at h
  split at h
  ·rename_i e; subst e; injection h with h; subst h; exact List.mem_cons_self ..
  ·exact List.mem_cons_of_mem _ (mget_mem h)
theorem mget_of_mem {α : Type} {n : Int} {x : α} : ∀ {kvs : List (Int × α)}, kvs.Pairwise (fun a b => a.1 < b.1) → (n, x) ∈ kvs → mget kvs n = some x
 | p :: r, hs, h => by
  simp only [mget]
  rw [List.pairwise_cons] at hs
  rcases List.mem_cons.1 h with e | h
  ·rw [← e, if_pos rfl]
  ·rw [if_neg (fun e => by have := hs.1 _ h; simp only at this; omega)]
   exact mget_of_mem hs.2 h
theorem mget_none {α : Type} {n : Int} : ∀ {kvs : List (Int × α)}, mget kvs n = none → ∀ x, (n, x) ∉ kvs
 | [], _, x, h => by cases h
 | p :: r, hn, x, h => by
  simp only [mget] at hn
  split at hn
  ·cases hn
  ·rename_i e
   rcases List.mem_cons.1 h with e' | h
   ·exact e (by rw [← e'])
   ·exact mget_none hn x h
theorem find_now (n : Int) : ∀ (es : List MapEntry) (i : Nat), (∀ e, e ∈ es → ∃ k, e.key = .int .i64 k) →
  (∃ j e, es[j]? = some e ∧ e.key = .int .i64 n ∧ Instr.findNow (.int .i64) (.int .i64 n) es i = some (some (i + j, e.val))) ∨
  ((∀ e, e ∈ es → e.key ≠ .int .i64 n) ∧ Instr.findNow (.int .i64) (.int .i64 n) es i = some none)
 | [], i, _ => .inr ⟨fun e h => by simp at h, rfl⟩
 | e :: es, i, h => by
  obtain ⟨k, hk⟩ := h e (by simp)
  by_cases hkn : n = k
  ·subst hkn
   exact .inl ⟨0, e, rfl, hk, by simp [Instr.findNow, Instr.sameNow, hk]⟩
  ·rcases find_now n es (i + 1) (fun e he => h e (by simp [he])) with ⟨j, e', h1, h2, h3⟩ | ⟨h1, h2⟩
   ·refine .inl ⟨j + 1, e', by simpa using h1, h2, ?_⟩
    simp only [Instr.findNow, Instr.sameNow, hk, if_true, show (n == k) = false from by simpa using hkn]
    rw [h3, show i + 1 + j = i + (j + 1) from by omega]
   ·refine .inr ⟨fun e' he => ?_, ?_⟩
    ·rcases List.mem_cons.1 he with rfl | he
     ·rw [hk]; intro hc; injection hc with _ hc; exact hkn hc.symm
     ·exact h1 e' he
    ·simp only [Instr.findNow, Instr.sameNow, hk, if_true, show (n == k) = false from by simpa using hkn]
     exact h2
theorem run_findKey {key : TypeId} (hk : P.underlying key = some (.int .i64)) {es : List MapEntry} {n : Int} {r : Option (Nat × Value)} (h : Instr.findNow (.int .i64) (.int .i64 n) es 0 = some r) :
  (Instr.findKey key (.int .i64 n) es).run P w = .ok r w := by
 unfold Instr.findKey
 simp [run_underlying hk, h]
theorem run_checkKey {key : TypeId} (hk : P.underlying key = some (.int .i64)) (b : Bool) (n : Int) : (Instr.checkKey b 10000 key (.int .i64 n)).run P w = .ok () w := by
 unfold Instr.checkKey
 simp [run_underlying hk]
theorem i64_of (hT : TabOK P T) {k : TypeId} (h : (T.und k).isI64 = true) : P.underlying k = some (.int .i64) := by
 have ht := hT.und k
 unfold KD.isI64 at h
 split at h
 ·rename_i e; rw [e] at ht; exact ht
 ·cases h
theorem MapOK.find {es : Array MapEntry} {clk : Nat} {kvs : List (Int × AV)} {vals : Int → Value} (h : MapOK es clk kvs vals) (n : Int) :
  (∃ j e x, es.toList[j]? = some e ∧ e.key = .int .i64 n ∧ e.val = vals n ∧ mget kvs n = some x ∧ Instr.findNow (.int .i64) (.int .i64 n) es.toList 0 = some (some (j, vals n))) ∨
  (mget kvs n = none ∧ (∀ e, e ∈ es.toList → e.key ≠ .int .i64 n) ∧ Instr.findNow (.int .i64) (.int .i64 n) es.toList 0 = some none) := by
 rcases find_now n es.toList 0 (fun e he => by obtain ⟨k, x, hk, _⟩ := h.key e he; exact ⟨k, hk⟩) with ⟨j, e, h1, h2, h3⟩ | ⟨h1, h2⟩
 ·obtain ⟨k, x, k1, k2, k3⟩ := h.key e (List.mem_of_getElem? h1)
  rw [h2] at k1
  injection k1 with _ k1
  subst k1
  refine .inl ⟨j, e, x, h1, h2, k3, mget_of_mem h.rise k2, ?_⟩
  rw [h3, Nat.zero_add, k3]
 ·refine .inr ⟨?_, h1, h2⟩
  cases e : mget kvs n with
  | none => rfl
  | some x =>
   obtain ⟨e', he, hk⟩ := h.has _ (mget_mem e)
   exact absurd hk (h1 e' he)
theorem zero_rd (hT : TabOK P T) {e : TypeId} (hs : T.siz e ≠ 0) {z : AV} (hz : zeroAV T e = some z) : ∃ v, (∀ w, (zeroValue e).run P w = .ok v w) ∧ ∀ μ S w, Rd μ S w v z := by
 obtain ⟨i, h1, h2, h3, zv, h4, h5, h6, h7⟩ := hT.siz e hs
 refine ⟨zv, fun w => ?_, fun μ S w => ?_⟩
 ·simp [zeroValue, typeInfo, h1, h4]
 ·unfold zeroAV at hz
  rw [h7] at hz
  have hcell : ∀ (j : Nat) x, (T.zer e)[j]? = some x → Rd μ S w (zv.cells.getD j undef) x := fun j x hx => by
   rw [← h5, List.getElem?_map] at hx
   cases e2 : zv.cells.toList[j]? with
   | none => rw [e2] at hx; cases hx
   | some u =>
    rw [e2] at hx
    simp only [Option.map_some, Option.some.injEq] at hx
    subst hx
    have : zv.cells.getD j undef = u := by
     rw [Array.getD_eq_getD_getElem?, ← Array.getElem?_toList, e2]; rfl
    rw [this]; exact rd_ofValue μ S w u
  have hlen : (T.zer e).length = T.siz e := by rw [← h5, List.length_map, Array.length_toList, h6]
  cases zv with
  | agg cs =>
   simp only [Option.some.injEq] at hz
   subst hz
   exact .agg cs _ (by rw [hlen]; exact h6) hcell
  | _ =>
   simp only [Option.some.injEq] at hz
   subst hz
   have hl1 : T.siz e = 1 := by rw [← h6]; rfl
   have hx : (T.zer e)[0]? = some ((T.zer e).getD 0 .any) := by
    rw [List.getD_eq_getElem?_getD, List.getElem?_eq_getElem (by omega)]; rfl
   exact hcell 0 _ hx
theorem map_of (hi : Inv C μ S σ a w) {v : Value} {x : AV} {kvs : List (Int × AV)} (h : mapOf σ x = some kvs) (hv : Rd μ S w v x) :
  (v = .map none ∧ kvs = []) ∨ ∃ g es clk vals, v = .map (some g) ∧ w.heap[g]? = some (.map es clk) ∧ MapOK es clk kvs vals ∧ ∀ p, p ∈ kvs → RdP S w (vals p.1) p.2 := by
 unfold mapOf at h
 split at h
 ·injection h with h; subst h
  obtain ⟨g, es, clk, vals, h1, h2, h3, h4, h5⟩ := hv.inv_rm.inv_rm
  exact .inr ⟨g, es, clk, vals, h1, h3, h4, h5⟩
 ·injection h with h; subst h
  exact .inl ⟨hv.inv_nilm, rfl⟩
 ·split at h
  ·rename_i id kvs' hb
   injection h with h; subst h
   obtain ⟨g, hg, rfl⟩ := hv.inv_mp
   obtain ⟨g', es, clk, vals, k1, k2, k3, k4⟩ := hi.hp _ _ hb
   rw [k1] at hg; injection hg with hg; subst hg
   exact .inr ⟨g', es, clk, vals, rfl, k2, k3, k4⟩
  ·cases h
 ·cases h
theorem sound_look (hT : TabOK P T) (hi : Inv C μ S σ a w) {t : TypeId} {v vi : Value} {x i r : AV} {ok : Bool} {p : Prop} (h : lookAV T σ t x i ok = some (p, r)) (hp : p) (hv : Rd μ S w v x) (hvi : Rd μ S w vi i) :
  ∃ u, (Instr.lookup t v vi ok).run P w = .ok u w ∧ Rd μ S w u r := by
 unfold lookAV at h
 split at h
 ·rename_i k e kvs n hu hm
  split at h
  ·rename_i z hz
   simp only [Option.some.injEq, Prod.mk.injEq] at h
   obtain ⟨rfl, rfl⟩ := h
   obtain ⟨hk, hs⟩ := hp
   have hk := i64_of hT hk
   have ht := hT.und t
   rw [hu] at ht
   simp only [KDOK] at ht
   obtain rfl := hvi.inv_int
   obtain ⟨zv, hz1, hz2⟩ := zero_rd hT hs hz
   have fin : ∀ (u : Value) (y : AV) (b : Bool), Rd μ S w u y → Rd μ S w (if ok then .tuple #[u, .bool b] else u) (bif ok then .tup [y, .bool b] else y) := fun u y b hu => by
    cases ok with
    | false => exact hu
    | true =>
     refine .tup _ _ rfl fun j x hx => ?_
     rcases j with _ | _ | j
     ·simp at hx; subst hx; exact hu
     ·simp at hx; subst hx; exact .pure (.bool b)
     ·simp at hx
   rcases map_of hi hm hv with ⟨rfl, rfl⟩ | ⟨g, es, clk, vals, rfl, h2, h3, h4⟩
   ·refine ⟨if ok then .tuple #[zv, .bool false] else zv, ?_, fin zv z false (hz2 μ S w)⟩
    simp [Instr.lookup, run_underlying ht, run_checkKey hk, run_findKey (w := w) hk (es := []) (n := n) (r := none) rfl, hz1]
   ·rcases h3.find n with ⟨j, en, y, k1, k2, k3, k4, k5⟩ | ⟨k1, k2, k3⟩
    ·refine ⟨if ok then .tuple #[vals n, .bool true] else vals n, ?_, ?_⟩
     ·simp [Instr.lookup, run_underlying ht, run_checkKey hk, run_findKey (w := w) hk k5, run_getObj_map h2]
     ·rw [k4]; exact fin _ _ true (.pure (h4 _ (mget_mem k4)))
    ·refine ⟨if ok then .tuple #[zv, .bool false] else zv, ?_, ?_⟩
     ·simp [Instr.lookup, run_underlying ht, run_checkKey hk, run_findKey (w := w) hk k3, run_getObj_map h2, hz1]
     ·rw [k1]; exact fin _ _ false (hz2 μ S w)
  ·cases h
 ·cases h
theorem sound_pure (hT : TabOK P T) (hi : Inv C μ S σ a w) (o : Oper) {p : Prop} {x : AV} (h : pureOp T σ o.op = some (p, x)) (hp : p) :
  ∃ u, (execOp a.eval o).run P w = .ok (.value u) w ∧ Rd μ S w u x := by
 unfold pureOp at h
 unfold execOp
 split at h
 ·simp only [Option.some.injEq, Prod.mk.injEq] at h
  obtain ⟨rfl, rfl⟩ := h
  rename_i he; rw [he]
  exact ⟨_, rfl, hi.ev _⟩
 ·simp only [Option.some.injEq, Prod.mk.injEq] at h
  obtain ⟨rfl, rfl⟩ := h
  rename_i he; rw [he]
  exact ⟨_, rfl, hi.ev _⟩
 ·rename_i he; rw [he]
  obtain ⟨b, h1, h2⟩ := sound_pick hi h hp
  refine ⟨_, ?_, h2⟩
  simp [h1, asBool]
 ·rename_i t y he; rw [he]
  cases hl : loadOp T σ t (evS σ y).2 with
  | none => rw [hl] at h; cases h
  | some q =>
   simp only [hl, Option.map_some, Option.some.injEq, Prod.mk.injEq] at h
   obtain ⟨rfl, rfl⟩ := h
   obtain ⟨u, h1, h2⟩ := sound_load hT hi (p := q.1) (r := q.2) hl hp.2 (hi.evS y hp.1)
   exact ⟨u, by simp [h1], h2⟩
 ·rename_i y he; rw [he]
  split at h <;> (try cases h)
  ·rename_i id size row off hy
   have hv := hi.evS y hp
   rw [hy] at hv
   obtain ⟨g, hg, hv'⟩ := hv.inv_ptr
   exact ⟨_, by simp [hv'], .ptr id size row off g hg⟩
  ·rename_i cells off hy
   have hv := hi.evS y hp
   rw [hy] at hv
   obtain ⟨g, o', vals, hv', _⟩ := hv.inv_rp.inv_rp
   exact ⟨a.eval y, by simp [hv'], hv⟩
 ·rename_i op t y z ty he; rw [he]
  split at h
  ·rename_i r hb
   simp only [Option.some.injEq, Prod.mk.injEq] at h
   obtain ⟨rfl, rfl⟩ := h
   obtain ⟨q, h1, h2⟩ := sound_bin (P := P) (μ := μ) (S := S) (w := w) (ox := y) (oy := z) hT hb (hi.evS y hp.1) (hi.evS z hp.2)
   exact ⟨q, by simp only [Sem.run_bind] at h1 ⊢; rw [h1]; rfl, h2⟩
  ·cases hl : addStr op (evS σ y).2 (evS σ z).2 with
   | none => rw [hl] at h; cases h
   | some q =>
    simp only [hl, Option.map_some, Option.some.injEq, Prod.mk.injEq] at h
    obtain ⟨rfl, rfl⟩ := h
    obtain ⟨u, h1, h2⟩ := sound_addStr (P := P) (μ := μ) (S := S) (w := w) (t := t) (ox := y) (oy := z) (p := q.1) (r := q.2) hl hp.2.2 (hi.evS y hp.1) (hi.evS z hp.2.1)
    exact ⟨u, by simp only [Sem.run_bind] at h1 ⊢; rw [h1]; rfl, h2⟩
 ·rename_i op t y he; rw [he]
  cases hl : unAV op (evS σ y).2 with
  | none => rw [hl] at h; cases h
  | some q =>
   simp only [hl, Option.map_some, Option.some.injEq, Prod.mk.injEq] at h
   obtain ⟨rfl, rfl⟩ := h
   obtain ⟨u, h1, h2⟩ := sound_un (P := P) (μ := μ) (S := S) (w := w) hl (hi.evS y hp)
   exact ⟨u, by simp [h1], h2⟩
 ·rename_i t y j he; rw [he]
  cases hl : fieldAddrAV T t (evS σ y).2 j with
  | none => rw [hl] at h; cases h
  | some q =>
   simp only [hl, Option.map_some, Option.some.injEq, Prod.mk.injEq] at h
   obtain ⟨rfl, rfl⟩ := h
   obtain ⟨u, h1, h2⟩ := sound_fieldAddr (P := P) (μ := μ) (S := S) (w := w) hT hl (hi.evS y hp)
   exact ⟨u, by simp [h1], h2⟩
 ·rename_i t y j he; rw [he]
  cases hl : fieldAV T t (evS σ y).2 j with
  | none => rw [hl] at h; cases h
  | some q =>
   simp only [hl, Option.map_some, Option.some.injEq, Prod.mk.injEq] at h
   obtain ⟨rfl, rfl⟩ := h
   obtain ⟨u, h1, h2⟩ := sound_field (P := P) (μ := μ) (S := S) (w := w) hT (p := q.1) (r := q.2) hl hp.2 (hi.evS y hp.1)
   exact ⟨u, by simp [h1], h2⟩
 ·rename_i t y j he; rw [he]
  cases hl : indexAddrAV T t (evS σ y).2 (evS σ j).2 with
  | none => rw [hl] at h; cases h
  | some q =>
   simp only [hl, Option.map_some, Option.some.injEq, Prod.mk.injEq] at h
   obtain ⟨rfl, rfl⟩ := h
   obtain ⟨u, h1, h2⟩ := sound_indexAddr (P := P) (μ := μ) (S := S) (w := w) hT (p := q.1) (r := q.2) hl hp.2.2 (hi.evS y hp.1) (hi.evS j hp.2.1)
   exact ⟨u, by simp [h1], h2⟩
 ·rename_i t y j he; rw [he]
  cases hl : indexAV T t (evS σ y).2 (evS σ j).2 with
  | none => rw [hl] at h; cases h
  | some q =>
   simp only [hl, Option.map_some, Option.some.injEq, Prod.mk.injEq] at h
   obtain ⟨rfl, rfl⟩ := h
   obtain ⟨u, h1, h2⟩ := sound_index (P := P) (μ := μ) (S := S) (w := w) hT (p := q.1) (r := q.2) hl hp.2.2 (hi.evS y hp.1) (hi.evS j hp.2.1)
   exact ⟨u, by simp [h1], h2⟩
 ·rename_i t y lo hi' he; rw [he]
  cases hl : sliceAV T t (evS σ y).2 (lo.map fun o => (evS σ o).2) (hi'.map fun o => (evS σ o).2) with
  | none => rw [hl] at h; cases h
  | some q =>
   simp only [hl, Option.map_some, Option.some.injEq, Prod.mk.injEq] at h
   obtain ⟨rfl, rfl⟩ := h
   obtain ⟨u, h1, h2⟩ := sound_slice (P := P) (μ := μ) (S := S) (w := w) hT (p := q.1) (r := q.2) hl hp.2.2.2 (hi.evS y hp.1) (ord_of hi lo hp.2.1) (ord_of hi hi' hp.2.2.1)
   exact ⟨u, by simp [h1], h2⟩
 ·rename_i y j he; rw [he]
  split at h <;> (try cases h)
  rename_i vs hy
  have hv := hi.evS y hp.1
  rw [hy] at hv
  obtain ⟨us, hv', hl, hr⟩ := hv.inv_tup
  have hj : j < us.size := by omega
  refine ⟨us[j], by simp [hv', Instr.extract, hj], ?_⟩
  have := hr j (vs.getD j .any) (by rw [List.getD_eq_getElem?_getD, List.getElem?_eq_getElem hp.2]; rfl)
  rwa [Array.getD_eq_getD_getElem?, Array.getElem?_eq_getElem hj] at this
 ·rename_i f first captured he; rw [he]
  split at h <;> (try cases h)
  rename_i hf
  have hf : first = #[] := by
   cases first with | mk l => cases l <;> simp_all
  subst hf
  refine ⟨.func (.func f) #[] (captured.map a.eval), by simp [Instr.makeFunc], .fn f _ _ (by rw [evSL_len]; simp) (fun j x hx => ?_)⟩
  obtain ⟨o, ho, hr⟩ := hi.evSL _ hp j x hx
  have : (captured.map a.eval).getD j undef = a.eval o := by
   rw [Array.getD_eq_getD_getElem?, Array.getElem?_map]
   have : captured[j]? = some o := by simpa using ho
   rw [this]; rfl
  rw [this]; exact hr
 ·rename_i args ats he; rw [he]
  split at h <;> (try cases h)
  rename_i y t hy ht
  cases hl : lenAV T σ t (evS σ y).2 with
  | none => rw [hl] at h; cases h
  | some q =>
   simp only [hl, Option.map_some, Option.some.injEq, Prod.mk.injEq] at h
   obtain ⟨rfl, rfl⟩ := h
   have e1 : args = #[y] := by cases args; simp_all
   have e2 : ats = #[t] := by cases ats; simp_all
   subst e1 e2
   obtain ⟨u, h1, h2⟩ := sound_len (ty := o.type) (P := P) (μ := μ) (S := S) (w := w) hT hi hl (hi.evS y hp)
   exact ⟨u, by simp [resolve, invoke, builtin, h1], h2⟩
 ·rename_i s t y he; rw [he]
  cases hl : convAV T s t (evS σ y).2 with
  | none => rw [hl] at h; cases h
  | some q =>
   simp only [hl, Option.map_some, Option.some.injEq, Prod.mk.injEq] at h
   obtain ⟨rfl, rfl⟩ := h
   obtain ⟨u, h1, h2⟩ := sound_conv (P := P) (μ := μ) (S := S) (w := w) hT (p := q.1) (r := q.2) hl hp.2 (hi.evS y hp.1)
   exact ⟨u, by simp [h1], h2⟩
 ·rename_i t y i ok he; rw [he]
  cases hl : lookAV T σ t (evS σ y).2 (evS σ i).2 ok with
  | none => rw [hl] at h; cases h
  | some q =>
   simp only [hl, Option.map_some, Option.some.injEq, Prod.mk.injEq] at h
   obtain ⟨rfl, rfl⟩ := h
   obtain ⟨u, h1, h2⟩ := sound_look (P := P) (μ := μ) (S := S) (w := w) hT hi (p := q.1) (r := q.2) hl hp.2.2 (hi.evS y hp.1) (hi.evS i hp.2.1)
   exact ⟨u, by simp [h1], h2⟩
 ·cases h
end sound
end Go.Eng
namespace Go.Eng
section
variable {P : Program} {T : Tab} {C : Ctx} {μ : Nat → Option Nat} {S : Nat → Prop} {σ : St} {a : Act} {w : World}
def upd (μ : Nat → Option Nat) (id : Nat) (g : Option Nat) : Nat → Option Nat := fun i => if i = id then g else μ i
theorem alloc_get (w : World) (o : Obj) (k : Nat) (h : k < w.heap.size) : (w.alloc o).heap[k]? = w.heap[k]? := by
 show (w.heap.push o)[k]? = _
 rw [Array.getElem?_push, if_neg (by omega)]
theorem alloc_new (w : World) (o : Obj) : (w.alloc o).heap[w.heap.size]? = some o := by
 show (w.heap.push o)[w.heap.size]? = _
 simp
def AV.leaf : AV → Bool
 | .any | .agg _ | .tup _ | .cnd .. => false
 | _ => true
theorem Rd.leaf {v : Value} {x : AV} (h : Rd μ S w v x) (hx : x.leaf = true) : v.oneCell' = true := by
 cases h with
 | any => cases hx
 | pure h => cases h <;> first | rfl | cases hx
 | agg => cases hx
 | tup => cases hx
 | fn => rfl
 | ptr => rfl
 | osl => rfl
 | mp => rfl
 | exs => rfl
 | cndT => cases hx
 | cndF => cases hx
theorem Inv.fresh (hi : Inv C μ S σ a w) {id : Nat} (hf : hget σ.hp id = none) : μ id = none := by
 cases e : μ id with
 | none => rfl
 | some g => obtain ⟨⟨b, hb⟩, _⟩ := hi.dom id g e; rw [hf] at hb; cases hb
theorem Inv.new (hi : Inv C μ S σ a w) (id : Nat) (hf : hget σ.hp id = none) (o : Obj) (b : Blk) (hb : BlkOK (upd μ id (some w.heap.size)) S (w.alloc o) id b) :
  Inv C (upd μ id (some w.heap.size)) S ⟨σ.tm, (id, b) :: σ.hp⟩ a (w.alloc o) := by
 have hn := hi.fresh hf
 have hw : SameOn S w (w.alloc o) := fun b hb => alloc_get w o b (hi.sb b hb).1
 have hm : ∀ i g, μ i = some g → upd μ id (some w.heap.size) i = some g := fun i g h => by
  unfold upd
  rw [if_neg (by rintro rfl; rw [hn] at h; cases h)]; exact h
 have hz : ∀ i g, μ i = some g → rowSize (w.alloc o) g = rowSize w g := fun i g h => rowSize_same (alloc_get w o g (hi.dom i g h).2.2.2)
 refine ⟨hi.size, hi.defers, fun t x hx => (hi.tm t x hx).mono hw (fun _ h => h) hm hz, ?_, ?_, ?_, ?_, ?_⟩
 ·intro i c hc
  simp only [hget] at hc
  by_cases e : id = i
  ·subst e
   simp only [if_true, Option.some.injEq] at hc
   subst hc; exact hb
  ·rw [if_neg e] at hc
   have hn' : μ i = none → upd μ id (some w.heap.size) i = none := fun h => by
    unfold upd; rw [if_neg (fun h => e h.symm)]; exact h
   exact (hi.hp i c hc).mono hw (fun _ h => h) hm hz hn' (fun g h => alloc_get w o g (hi.dom i g h).2.2.2)
 ·intro i g hg
  unfold upd at hg
  split at hg
  ·rename_i e
   injection hg with hg
   subst hg e
   exact ⟨⟨b, by simp [hget]⟩, .inr hi.frm.size, fun h => Nat.lt_irrefl _ (hi.sb _ h).1, by simp⟩
  ·rename_i e
   obtain ⟨⟨c, h1⟩, h2, h3, h4⟩ := hi.dom i g hg
   exact ⟨⟨c, by simp only [hget]; rw [if_neg (fun h => e h.symm)]; exact h1⟩, h2, h3, by simp; omega⟩
 ·intro i j g h1 h2
  unfold upd at h1 h2
  split at h1 <;> split at h2
  ·simp_all
  ·injection h1 with h1; subst h1; exact absurd (hi.dom j _ h2).2.2.2 (Nat.lt_irrefl _)
  ·injection h2 with h2; subst h2; exact absurd (hi.dom i _ h1).2.2.2 (Nat.lt_irrefl _)
  ·exact hi.inj i j g h1 h2
 ·exact ⟨hi.frm.os, hi.frm.tape, hi.frm.output, by simp; have := hi.frm.size; omega, fun b hb hA => by
   rw [alloc_get w o b (Nat.lt_of_lt_of_le hb hi.frm.size)]; exact hi.frm.block b hb hA⟩
 ·intro b hb
  exact ⟨by simp; have := (hi.sb b hb).1; omega, (hi.sb b hb).2⟩
theorem Inv.write (hi : Inv C μ S σ a w) (id g : Nat) (hg : μ id = some g) {w' : World} (hos : w'.os = w.os) (htp : w'.tape = w.tape) (hout : w'.output = w.output)
  (hsz : w'.heap.size = w.heap.size) (hne : ∀ b, b ≠ g → w'.heap[b]? = w.heap[b]?) (hrow : rowSize w' g = rowSize w g) (b : Blk) (hb : BlkOK μ S w' id b) :
  Inv C μ S ⟨σ.tm, hset σ.hp id b⟩ a w' := by
 obtain ⟨⟨b0, hb0⟩, hA, hS, hlt⟩ := hi.dom id g hg
 have hw : SameOn S w w' := fun c hc => hne c (by rintro rfl; exact hS hc)
 have hz : ∀ i q, μ i = some q → rowSize w' q = rowSize w q := fun i q h => by
  by_cases e : q = g
  ·subst e; exact hrow
  ·exact rowSize_same (hne q e)
 refine ⟨hi.size, hi.defers, fun t x hx => (hi.tm t x hx).mono hw (fun _ h => h) (fun _ _ h => h) hz, ?_, ?_, hi.inj, ?_, ?_⟩
 ·intro i c hc
  rw [hget_hset] at hc
  split at hc
  ·rename_i e
   injection hc with hc; subst hc e; exact hb
  ·rename_i e
   exact (hi.hp i c hc).mono hw (fun _ h => h) (fun _ _ h => h) hz (fun h => h) (fun q hq => hne q (by rintro rfl; exact e (hi.inj _ _ _ hg hq)))
 ·intro i q hq
  obtain ⟨⟨c, h1⟩, h2, h3, h4⟩ := hi.dom i q hq
  refine ⟨?_, h2, h3, by omega⟩
  rw [hget_hset]
  split
  ·exact ⟨_, rfl⟩
  ·exact ⟨c, h1⟩
 ·refine hi.frm.step (fun b => b = g) ⟨hos, htp, hout, by omega, fun b _ h => hne b h⟩ (fun b h => by rw [h]; exact hA)
 ·intro b hb
  exact ⟨by have := (hi.sb b hb).1; omega, (hi.sb b hb).2⟩
theorem run_storeCells (g o : Nat) (e : TypeId) : ∀ (vs : List Value) (i : Nat) (w : World) (c : Array Value), w.heap[g]? = some (.cells c e (0, 0)) → (∀ v, v ∈ vs → v.oneCell' = true) →
  o + i + vs.length ≤ c.size → ∃ w', (storeCells ⟨g, o, none⟩ vs i).run P w = .ok () w' ∧ w'.os = w.os ∧ w'.tape = w.tape ∧ w'.output = w.output ∧ w'.heap.size = w.heap.size ∧
   (∀ b, b ≠ g → w'.heap[b]? = w.heap[b]?) ∧ ∃ c' : Array Value, w'.heap[g]? = some (.cells c' e (0, 0)) ∧ c'.size = c.size ∧
    ∀ k, c'.getD k undef = if o + i ≤ k ∧ k < o + i + vs.length then vs.getD (k - (o + i)) undef else c.getD k undef
 | [], i, w, c, hc, _, _ => ⟨w, by simp [storeCells], rfl, rfl, rfl, rfl, fun _ _ => rfl, c, hc, rfl, fun k => by rw [if_neg (by simp)]⟩
 | v :: r, i, w, c, hc, h1, hle => by
  simp only [List.length_cons] at hle
  have hcell : w.cell? ⟨g, o + i, none⟩ = some (c[o + i]'(by omega)) := by
   simp [World.cell?, hc, show o + i < c.size by omega]
  have hfz : w.frozen? ⟨g, o + i, none⟩ = false := by simp [World.frozen?, hc]
  have hset : (w.setCell ⟨g, o + i, none⟩ v).heap[g]? = some (.cells (c.setIfInBounds (o + i) v) e (0, 0)) := by
   simp [World.setCell, Array.getElem?_modify, hc]
  obtain ⟨w', h2, h3, h4, h5, h6, h7, c', h8, h9, h10⟩ := run_storeCells g o e r (i + 1) (w.setCell ⟨g, o + i, none⟩ v) (c.setIfInBounds (o + i) v) hset
   (fun u hu => h1 u (List.mem_cons_of_mem _ hu)) (by simp; omega)
  refine ⟨w', ?_, h3, h4, h5, by rw [h6]; simp, fun b hb => ?_, c', h8, by rw [h9]; simp, fun k => ?_⟩
  ·simp only [storeCells, add_plain, Sem.run_bind, run_store P w _ v _ (h1 v (List.mem_cons_self ..)), hcell, hfz, Bool.false_eq_true, if_false, Result.andThen_ok]
   exact h2
  ·rw [h7 b hb]
   simp only [World.setCell, Array.getElem?_modify]
   rw [if_neg (by rintro rfl; exact hb rfl)]
  ·rw [h10 k]
   by_cases e1 : k = o + i
   ·subst e1
    rw [if_neg (by omega), if_pos (by simp)]
    simp [show o + i < c.size by omega]
   ·have : (c.setIfInBounds (o + i) v).getD k undef = c.getD k undef := by
     rw [Array.getD_eq_getD_getElem?, Array.getElem?_setIfInBounds_ne (fun h => e1 h.symm), ← Array.getD_eq_getD_getElem?]
    rw [this]
    by_cases e2 : o + i ≤ k ∧ k < o + i + (r.length + 1)
    ·rw [if_pos (by omega), if_pos (by simpa using e2)]
     rw [show k - (o + i) = (k - (o + (i + 1))) + 1 from by omega]
     simp
    ·rw [if_neg (by omega), if_neg (by simpa using e2)]
def putAt : List AV → Nat → List AV → List AV
 | l, _, [] => l
 | l, o, x :: r => putAt (l.set o x) (o + 1) r
theorem putAt_length : ∀ (xs : List AV) (l : List AV) (o : Nat), (putAt l o xs).length = l.length
 | [], _, _ => rfl
 | x :: r, l, o => by simp [putAt, putAt_length r]
theorem putAt_get : ∀ (xs : List AV) (l : List AV) (o k : Nat), o + xs.length ≤ l.length → (putAt l o xs)[k]? = if o ≤ k ∧ k < o + xs.length then xs[k - o]? else l[k]?
 | [], l, o, k, _ => by rw [if_neg (by simp)]; rfl
 | x :: r, l, o, k, h => by
  simp only [List.length_cons] at h
  simp only [putAt]
  rw [putAt_get r _ _ _ (by simp; omega)]
  by_cases e : k = o
  ·subst e
   rw [if_neg (by omega), if_pos (by simp)]
   simp [show k < l.length by omega]
  ·rw [List.getElem?_set_ne (fun h => e h.symm)]
   by_cases e2 : o ≤ k ∧ k < o + (r.length + 1)
   ·rw [if_pos (by omega), if_pos (by simpa using e2)]
    rw [show k - o = (k - (o + 1)) + 1 from by omega]
    simp
   ·rw [if_neg (by omega), if_neg (by simpa using e2)]
def cellsAt (T : Tab) (t : TypeId) (x : AV) : Option (List AV) :=
 match (T.und t).isA, x with
 | some true, .agg xs => some xs
 | some false, x => some [x]
 | _, _ => none
def storeOp (T : Tab) (σ : St) (t : TypeId) (addr x : AV) : Option (Prop × List (Nat × Blk)) :=
 match addr, cellsAt T t x with
 | .ptr id size row off, some xs =>
  match hget σ.hp id with
  | some (.cells e s rows) =>
   if s = size then some (T.siz t ≠ 0 ∧ xs.length = T.siz t ∧ xs.all AV.leaf = true ∧ row < rows.length ∧ off + T.siz t ≤ s, hset σ.hp id (.cells e s (rows.set row (putAt (rows.getD row []) off xs))))
   else none
  | _ => none
 | _, _ => none
theorem cells_of {t : TypeId} {v : Value} {x : AV} {xs : List AV} (h : cellsAt T t x = some xs) (hl : xs.all AV.leaf = true) (hv : Rd μ S w v x) :
  v.cells.size = xs.length ∧ (∀ u, u ∈ v.cells.toList → u.oneCell' = true) ∧ ∀ (j : Nat) y, xs[j]? = some y → Rd μ S w (v.cells.getD j undef) y := by
 unfold cellsAt at h
 split at h
 ·injection h with h; subst h
  obtain ⟨cs, rfl, h1, h2⟩ := hv.inv_agg
  refine ⟨h1, fun u hu => ?_, h2⟩
  obtain ⟨j, hj, rfl⟩ := List.mem_iff_getElem.1 hu
  simp only [Value.cells, Array.length_toList] at hj
  rename_i ys _
  have hy : ys[j]? = some (ys[j]'(by omega)) := List.getElem?_eq_getElem (by omega)
  have := h2 j _ hy
  rw [Array.getD_eq_getD_getElem?, Array.getElem?_eq_getElem hj] at this
  exact Rd.leaf (by simpa [Value.cells] using this) (List.all_eq_true.1 hl _ (List.mem_of_getElem? hy))
 ·injection h with h; subst h
  have hone := hv.leaf (by simpa using hl)
  have hc : v.cells = #[v] := by cases v <;> first | rfl | cases hone
  rw [hc]
  refine ⟨rfl, fun u hu => by simp at hu; subst hu; exact hone, fun j y hy => ?_⟩
  cases j with
  | zero => simp only [List.getElem?_cons_zero, Option.some.injEq] at hy; subst hy; exact hv
  | succ j => simp at hy
 ·cases h
theorem split_index {i j i' j' s : Nat} (hj : j < s) (hj' : j' < s) (h : i * s + j = i' * s + j') : i = i' ∧ j = j' := by
 have h1 : i = i' := by
  have e1 : (i * s + j) / s = i := by rw [Nat.mul_comm, Nat.mul_add_div (by omega), Nat.div_eq_of_lt hj]; omega
  have e2 : (i' * s + j') / s = i' := by rw [Nat.mul_comm, Nat.mul_add_div (by omega), Nat.div_eq_of_lt hj']; omega
  rw [← e1, ← e2, h]
 subst h1
 exact ⟨rfl, by omega⟩
theorem sound_store (hT : TabOK P T) (hi : Inv C μ S σ a w) {t : TypeId} {va v : Value} {addr x : AV} {p : Prop} {hp' : List (Nat × Blk)} (h : storeOp T σ t addr x = some (p, hp')) (hp : p)
  (hva : Rd μ S w va addr) (hv : Rd μ S w v x) : ∃ w', (Instr.storeAt t va v).run P w = .ok () w' ∧ Inv C μ S ⟨σ.tm, hp'⟩ a w' := by
 unfold storeOp at h
 split at h
 ·rename_i id size row off xs hx
  split at h
  ·rename_i e s rows hb
   split at h
   ·rename_i hs
    subst hs
    simp only [Option.some.injEq, Prod.mk.injEq] at h
    obtain ⟨rfl, rfl⟩ := h
    obtain ⟨hz, hl, hleaf, hrow, hoff⟩ := hp
    obtain ⟨g, hg, rfl⟩ := hva.inv_ptr
    obtain ⟨k1, k2, k3⟩ := cells_of hx hleaf hv
    rcases hi.hp id _ hb with ⟨rfl, h2⟩ | ⟨g', c, h1, h2, h3, h4, h5⟩
    ·rw [h2] at hg; cases hg
    ·rw [h1] at hg; injection hg with hg; subst hg
     have hle : row * s + s ≤ rows.length * s := by
      have := Nat.mul_le_mul_right s (Nat.succ_le_of_lt hrow)
      rwa [Nat.succ_mul] at this
     have hvl : v.cells.toList.length = T.siz t := by rw [Array.length_toList, k1, hl]
     obtain ⟨w', r1, r2, r3, r4, r5, r6, c', r7, r8, r9⟩ := run_storeCells (P := P) g' (row * s + off) e v.cells.toList 0 w c h2 k2 (by omega)
     refine ⟨w', ?_, ?_⟩
     ·simp [Instr.storeAt, Instr.sureAddr, storeVar, sizeOf_of hT hz, k1, hl, r1]
     ·have hrs : rowSize w' g' = rowSize w g' := by simp [rowSize, r7, h2, r8]
      have hS : ¬ S g' := (hi.dom id g' h1).2.2.1
      have hw : SameOn S w w' := fun b hb => r6 b (by rintro rfl; exact hS hb)
      have hz' : ∀ i q, μ i = some q → rowSize w' q = rowSize w q := fun i q _ => by
       by_cases e : q = g'
       ·subst e; exact hrs
       ·exact rowSize_same (r6 q e)
      have hmono : ∀ {v x}, Rd μ S w v x → Rd μ S w' v x := fun h => h.mono hw (fun _ h => h) (fun _ _ h => h) hz'
      have hrow' : rows[row]? = some (rows.getD row []) := by
       rw [List.getD_eq_getElem?_getD, List.getElem?_eq_getElem hrow]; rfl
      have hlen : (rows.getD row []).length = s := h4 _ (List.mem_of_getElem? hrow')
      refine hi.write id g' h1 r2 r3 r4 r5 r6 hrs _ (.inr ⟨g', c', h1, r7, by simp; omega, fun q hq => ?_, fun i q hq j y hy => ?_⟩)
      ·rcases List.mem_or_eq_of_mem_set hq with h | h
       ·exact h4 q h
       ·rw [h, putAt_length, hlen]
      ·rw [r9]
       rw [List.getElem?_set] at hq
       by_cases ei : row = i
       ·subst ei
        simp only [if_true, hrow] at hq
        injection hq with hq; subst hq
        have hj : j < s := by
         by_cases h : j < s
         ·exact h
         ·rw [List.getElem?_eq_none (by rw [putAt_length, hlen]; omega)] at hy; cases hy
        rw [putAt_get _ _ _ _ (by rw [hlen]; omega)] at hy
        by_cases e2 : off ≤ j ∧ j < off + xs.length
        ·rw [if_pos e2] at hy
         rw [if_pos (by omega)]
         have := hmono (k3 _ _ hy)
         rw [show row * s + j - (row * s + off + 0) = j - off from by omega]
         rwa [Array.getD_eq_getD_getElem?, ← Array.getElem?_toList, ← List.getD_eq_getElem?_getD] at this
        ·rw [if_neg e2] at hy
         rw [if_neg (by omega)]
         exact hmono (h5 row _ hrow' j y hy)
       ·rw [if_neg ei] at hq
        have hj : j < s := by
         by_cases h : j < s
         ·exact h
         ·rw [List.getElem?_eq_none (by rw [h4 _ (List.mem_of_getElem? hq)]; omega)] at hy; cases hy
        rw [if_neg (fun hh => ei (split_index (i := row) (j := i * s + j - row * s) (i' := i) (j' := j) (s := s) (by omega) hj (by omega)).1)]
        exact hmono (h5 i q hq j y hy)
   ·cases h
  ·cases h
 ·cases h
end
end Go.Eng
namespace Go.Eng
section
variable {P : Program} {T : Tab} {C : Ctx} {μ : Nat → Option Nat} {S : Nat → Prop} {σ : St} {a : Act} {w : World}
def RdL (μ : Nat → Option Nat) (S : Nat → Prop) (w : World) (cs : Array Value) (xs : List AV) : Prop :=
 cs.size = xs.length ∧ ∀ (j : Nat) x, xs[j]? = some x → Rd μ S w (cs.getD j undef) x
theorem foldl_put (off : Nat) : ∀ (l : List Value) (k : Nat) (cells : Array Value), off + k + l.length ≤ cells.size →
  ((l.zipIdx k).foldl (fun cs (x : Value × Nat) => cs.setIfInBounds (off + x.2) x.1) cells).size = cells.size ∧
  ∀ m, ((l.zipIdx k).foldl (fun cs (x : Value × Nat) => cs.setIfInBounds (off + x.2) x.1) cells).getD m undef =
   if off + k ≤ m ∧ m < off + k + l.length then l.getD (m - (off + k)) undef else cells.getD m undef
 | [], k, cells, _ => ⟨rfl, fun m => by rw [if_neg (by simp)]; rfl⟩
 | v :: r, k, cells, h => by
  simp only [List.length_cons] at h
  simp only [List.zipIdx_cons, List.foldl_cons]
  obtain ⟨h1, h2⟩ := foldl_put off r (k + 1) (cells.setIfInBounds (off + k) v) (by simp; omega)
  refine ⟨by rw [h1]; simp, fun m => ?_⟩
  rw [h2 m]
  by_cases e : m = off + k
  ·subst e
   rw [if_neg (by omega), if_pos (by simp)]
   simp [show off + k < cells.size by omega]
  ·have : (cells.setIfInBounds (off + k) v).getD m undef = cells.getD m undef := by
    rw [Array.getD_eq_getD_getElem?, Array.getElem?_setIfInBounds_ne (fun h => e h.symm), ← Array.getD_eq_getD_getElem?]
   rw [this]
   by_cases e2 : off + k ≤ m ∧ m < off + k + (r.length + 1)
   ·rw [if_pos (by omega), if_pos (by simpa using e2)]
    rw [show m - (off + k) = (m - (off + (k + 1))) + 1 from by omega]
    simp
   ·rw [if_neg (by omega), if_neg (by simpa using e2)]
def fillAV : List AV → List (Nat × Nat × List AV) → List AV
 | l, [] => l
 | l, (off, _, xs) :: r => fillAV (putAt l off xs) r
theorem RdL.putAt {cs cs' : Array Value} {l xs : List AV} {off : Nat} {vs : Array Value} (h : RdL μ S w cs l) (hx : RdL μ S w vs xs) (hoff : off + xs.length ≤ l.length) (hsz : cs'.size = cs.size)
  (hg : ∀ m, cs'.getD m undef = if off ≤ m ∧ m < off + vs.size then vs.getD (m - off) undef else cs.getD m undef) : RdL μ S w cs' (Eng.putAt l off xs) := by
 refine ⟨by rw [hsz, h.1, putAt_length], fun j x hj => ?_⟩
 rw [putAt_get _ _ _ _ hoff] at hj
 rw [hg j]
 by_cases e : off ≤ j ∧ j < off + xs.length
 ·rw [if_pos e] at hj
  rw [if_pos (by rw [hx.1]; exact e)]
  exact hx.2 _ _ hj
 ·rw [if_neg e] at hj
  rw [if_neg (by rw [hx.1]; exact e)]
  exact h.2 _ _ hj
theorem fill_sound (place : Nat → Option (Nat × Nat)) : ∀ (parts : List (Nat × Value)) (aps : List (Nat × Nat × List AV)) (cells : Array Value) (l : List AV), RdL μ S w cells l →
  parts.length = aps.length → (∀ (i : Nat) q r, parts[i]? = some q → aps[i]? = some r → place q.1 = some (r.1, r.2.1) ∧ RdL μ S w q.2.cells r.2.2 ∧ r.2.2.length = r.2.1 ∧ r.1 + r.2.1 ≤ l.length) →
  ∃ cells', Instr.fill place cells parts = some cells' ∧ RdL μ S w cells' (fillAV l aps)
 | [], aps, cells, l, h, hl, _ => by
  cases aps with
  | nil => exact ⟨cells, rfl, h⟩
  | cons => simp at hl
 | (i, v) :: parts, aps, cells, l, h, hl, hp => by
  cases aps with
  | nil => simp at hl
  | cons q aps =>
   obtain ⟨off, size, xs⟩ := q
   obtain ⟨h1, h2, h3, h4⟩ := hp 0 (i, v) (off, size, xs) rfl rfl
   simp only at h1 h2 h3 h4
   have hvs : v.cells.size = size := by rw [h2.1, h3]
   have hcs := h.1
   obtain ⟨k1, k2⟩ := foldl_put off v.cells.toList 0 cells (by rw [Array.length_toList]; omega)
   have hput : RdL μ S w ((v.cells.toList.zipIdx 0).foldl (fun cs (x : Value × Nat) => cs.setIfInBounds (off + x.2) x.1) cells) (putAt l off xs) :=
    h.putAt h2 (by rw [h3]; exact h4) k1 (fun m => by
     rw [k2 m]
     simp only [Array.length_toList, Nat.add_zero]
     split
     ·rw [List.getD_eq_getElem?_getD, Array.getElem?_toList, ← Array.getD_eq_getD_getElem?]
     ·rfl)
   obtain ⟨cells', j1, j2⟩ := fill_sound place parts aps _ (putAt l off xs) hput (by simpa using hl) (fun m q r hq hr => by
    have := hp (m + 1) q r (by simpa using hq) (by simpa using hr)
    rwa [putAt_length])
   refine ⟨cells', ?_, j2⟩
   unfold Instr.fill
   rw [h1]
   simp only [hvs, ne_eq, not_true_eq_false, decide_false, Bool.false_or, decide_eq_true_eq]
   rw [if_neg (by omega), ← Array.foldl_toList, Array.toList_zipIdx]
   exact j1
theorem zero_rdl (hT : TabOK P T) {t : TypeId} (h : T.siz t ≠ 0) : ∃ z, (∀ w, (zeroValue t).run P w = .ok z w) ∧ z.cells.size = T.siz t ∧ (∀ μ S w, RdL μ S w z.cells (T.zer t)) ∧
  ((T.und t).isA = some (match z with | .agg _ => true | _ => false)) := by
 obtain ⟨i, hi, _, _, z, h1, h2, h3, h4⟩ := hT.siz t h
 refine ⟨z, fun w => by simp [zeroValue, typeInfo, hi, h1], h3, fun μ S w => ⟨by rw [← h2]; simp, fun j x hx => ?_⟩, h4⟩
 rw [← h2, List.getElem?_map, Array.getElem?_toList] at hx
 cases e : z.cells[j]? with
 | none => rw [e] at hx; cases hx
 | some v =>
  rw [e] at hx
  simp only [Option.map_some, Option.some.injEq] at hx
  subst hx
  rw [Array.getD_eq_getD_getElem?, e]
  exact rd_ofValue μ S w v
def partsS (T : Tab) (σ : St) (t : TypeId) : List (Nat × Operand) → Option (Prop × List (Nat × Nat × List AV))
 | [] => some (True, [])
 | (j, o) :: r =>
  match T.fld t j, partsS T σ t r with
  | some (ft, off), some (p, l) =>
   match cellsAt T ft (evS σ o).2 with
   | some xs => some ((evS σ o).1 ∧ xs.length = T.siz ft ∧ xs.all AV.leaf = true ∧ off + T.siz ft ≤ (T.zer t).length ∧ p, (off, T.siz ft, xs) :: l)
   | none => none
  | _, _ => none
def partsE (T : Tab) (σ : St) (e : TypeId) (n : Nat) : List (Nat × Operand) → Option (Prop × List (Nat × List AV))
 | [] => some (True, [])
 | (j, o) :: r =>
  match partsE T σ e n r, cellsAt T e (evS σ o).2 with
  | some (p, l), some xs => some ((evS σ o).1 ∧ xs.length = T.siz e ∧ xs.all AV.leaf = true ∧ j < n ∧ p, (j, xs) :: l)
  | _, _ => none
def buildAV (T : Tab) (σ : St) (t : TypeId) (parts : List (Nat × Operand)) : Option (Prop × AV) :=
 match T.und t, partsS T σ t parts with
 | .struct, some (p, l) => some (T.siz t ≠ 0 ∧ p, .agg (fillAV (T.zer t) l))
 | _, _ => none
theorem fields_mapM (F : Array Field) (h : ∀ f, f ∈ F → (P.info? f.type).isSome = true) :
  ((F.mapM fun f => do pure (f.offset, ← sizeOf f.type) : Sem (Array (Nat × Nat)))).run P w = .ok (F.map fun f => (f.offset, P.cellsOf f.type)) w := by
 rw [Array.mapM_eq_mapM_toList]
 have : ∀ (l : List Field), (∀ f, f ∈ l → (P.info? f.type).isSome = true) → ((l.mapM fun f => do pure (f.offset, ← sizeOf f.type) : Sem (List (Nat × Nat)))).run P w = .ok (l.map fun f => (f.offset, P.cellsOf f.type)) w := by
  intro l
  induction l with
  | nil => intro _; simp
  | cons f r ih =>
   intro h
   obtain ⟨i, hi⟩ := Option.isSome_iff_exists.1 (h f (List.mem_cons_self ..))
   have hs : (sizeOf f.type).run P w = .ok (P.cellsOf f.type) w := by simp [sizeOf, typeInfo, hi, Program.cellsOf]
   simp only [List.mapM_cons, Sem.run_bind, hs, Result.andThen_ok, Sem.run_pure, ih (fun g hg => h g (List.mem_cons_of_mem _ hg)), List.map_cons]
 rw [Sem.run_map, this F.toList (fun f hf => h f (by simpa using hf))]
 apply congrArg (fun q => Result.ok q w)
 apply Array.ext'
 simp
theorem partsS_sound (hT : TabOK P T) (hi : Inv C μ S σ a w) {t : TypeId} {F : Array Field} (hF : P.underlying t = some (.struct F)) : ∀ (parts : List (Nat × Operand)) (p : Prop) (l : List (Nat × Nat × List AV)),
  partsS T σ t parts = some (p, l) → p → parts.length = l.length ∧ ∀ (i : Nat) q r, (parts.map fun q => (q.1, a.eval q.2))[i]? = some q → l[i]? = some r →
   (F.map fun f => (f.offset, P.cellsOf f.type))[q.1]? = some (r.1, r.2.1) ∧ RdL μ S w q.2.cells r.2.2 ∧ r.2.2.length = r.2.1 ∧ r.1 + r.2.1 ≤ (T.zer t).length
 | [], p, l, h, _ => by
  simp only [partsS, Option.some.injEq, Prod.mk.injEq] at h
  obtain ⟨_, rfl⟩ := h
  exact ⟨rfl, fun i q r hq => by simp at hq⟩
 | (j, o) :: parts, p, l, h, hp => by
  unfold partsS at h
  split at h
  ·rename_i ft off p' l' hfld hrest
   split at h
   ·rename_i xs hxs
    simp only [Option.some.injEq, Prod.mk.injEq] at h
    obtain ⟨rfl, rfl⟩ := h
    obtain ⟨h1, h2, h3, h4, h5⟩ := hp
    obtain ⟨k1, k2⟩ := partsS_sound hT hi hF parts p' l' hrest h5
    refine ⟨by simp [k1], fun i q r hq hr => ?_⟩
    cases i with
    | succ i => exact k2 i q r (by simpa using hq) (by simpa using hr)
    | zero =>
     simp only [List.map_cons, List.getElem?_cons_zero, Option.some.injEq] at hq hr
     subst hq hr
     obtain ⟨F', f, e1, e2, e3, e4, e5⟩ := hT.fld _ _ _ _ hfld
     rw [hF] at e1
     injection e1 with e1
     injection e1 with e1
     subst e1
     obtain ⟨c1, c2, c3⟩ := cells_of hxs h3 (hi.evS o h1)
     obtain ⟨inf, e6, e7, _⟩ := hT.siz ft e5
     refine ⟨?_, ⟨c1, c3⟩, h2, h4⟩
     simp [e2, e3, e4, Program.cellsOf, e6, e7]
   ·cases h
  ·cases h
theorem sound_build (hT : TabOK P T) (hi : Inv C μ S σ a w) {t : TypeId} {parts : Array (Nat × Operand)} {p : Prop} {x : AV} (h : buildAV T σ t parts.toList = some (p, x)) (hp : p) :
  ∃ u, (Instr.build t (parts.map fun (i, o) => (i, a.eval o))).run P w = .ok u w ∧ Rd μ S w u x := by
 unfold buildAV at h
 split at h
 ·rename_i p' l hu hps
  simp only [Option.some.injEq, Prod.mk.injEq] at h
  obtain ⟨rfl, rfl⟩ := h
  obtain ⟨h1, h3⟩ := hp
  have ht := hT.und t
  rw [hu] at ht
  obtain ⟨F, hF, hinf⟩ := ht
  obtain ⟨z, z1, z2, z3, z4⟩ := zero_rdl hT h1
  obtain ⟨k1, k2⟩ := partsS_sound hT hi hF parts.toList p' l hps h3
  obtain ⟨cells', f1, f2⟩ := fill_sound (μ := μ) (S := S) (w := w) ((F.map fun f => (f.offset, P.cellsOf f.type))[·]?) (parts.toList.map fun q => (q.1, a.eval q.2)) l z.cells (T.zer t) (z3 μ S w) (by simpa using k1) k2
  refine ⟨.agg cells', ?_, .agg cells' _ f2.1 f2.2⟩
  simp only [Instr.build, Sem.run_bind, z1, Result.andThen_ok, run_underlying hF, fields_mapM F hinf]
  rw [show (parts.map fun (x : Nat × Operand) => (x.1, a.eval x.2)).toList = parts.toList.map fun q => (q.1, a.eval q.2) by simp]
  rw [f1]
  simp
 ·cases h
end
end Go.Eng
