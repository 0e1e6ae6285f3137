/- The abstract machine, part Y: maps that are held. No condition. -/
import Derived.Test.YtldpfleilffanaaEngX
namespace Go.Eng
section
variable {P : Program} {T : Tab} {C : Ctx} {μ : Nat → Option Nat} {S : Nat → Prop} {σ : St} {a : Act} {w : World}

/-! ### Maps that are held -/

def mput {α : Type} : List (Int × α) → Int → α → List (Int × α)
  | [], n, v => [(n, v)]
  | p :: r, n, v => if p.1 = n then (n, v) :: r else if n < p.1 then (n, v) :: p :: r else p :: mput r n v

def mdel {α : Type} (kvs : List (Int × α)) (n : Int) : List (Int × α) := kvs.filter fun p => !(p.1 == n)

theorem mem_mput {α : Type} {n : Int} {v : α} : ∀ {kvs : List (Int × α)}, kvs.Pairwise (fun a b => a.1 < b.1) → ∀ k x, (k, x) ∈ mput kvs n v ↔ (k = n ∧ x = v) ∨ (k ≠ n ∧ (k, x) ∈ kvs)
  | [], _, k, x => by simp [mput]
  | p :: r, hs, k, x => by
    rw [List.pairwise_cons] at hs
    have ih := mem_mput (n := n) (v := v) hs.2 k x
    obtain ⟨q, y⟩ := p
    simp only [mput]
    by_cases h1 : q = n
    · subst h1
      rw [if_pos rfl]
      have : ∀ z, (q, z) ∉ r := fun z hz => by have := hs.1 _ hz; simp only at this; omega
      simp only [List.mem_cons, Prod.mk.injEq]
      constructor
      · rintro (⟨rfl, rfl⟩ | h)
        · exact .inl ⟨rfl, rfl⟩
        · exact .inr ⟨by rintro rfl; exact this _ h, .inr h⟩
      · rintro (⟨rfl, rfl⟩ | ⟨h, (⟨rfl, _⟩ | h2)⟩)
        · exact .inl ⟨rfl, rfl⟩
        · exact absurd rfl h
        · exact .inr h2
    · rw [if_neg h1]
      by_cases h2 : n < q
      · rw [if_pos h2]
        simp only [List.mem_cons, Prod.mk.injEq]
        constructor
        · rintro (⟨rfl, rfl⟩ | ⟨rfl, rfl⟩ | h)
          · exact .inl ⟨rfl, rfl⟩
          · exact .inr ⟨h1, .inl ⟨rfl, rfl⟩⟩
          · refine .inr ⟨by rintro rfl; have := hs.1 _ h; simp only at this; omega, .inr h⟩
        · rintro (⟨rfl, rfl⟩ | ⟨h, (⟨rfl, rfl⟩ | h2)⟩)
          · exact .inl ⟨rfl, rfl⟩
          · exact .inr (.inl ⟨rfl, rfl⟩)
          · exact .inr (.inr h2)
      · rw [if_neg h2]
        simp only [List.mem_cons, Prod.mk.injEq, ih]
        constructor
        · rintro (⟨rfl, rfl⟩ | ⟨rfl, rfl⟩ | ⟨h, h3⟩)
          · exact .inr ⟨h1, .inl ⟨rfl, rfl⟩⟩
          · exact .inl ⟨rfl, rfl⟩
          · exact .inr ⟨h, .inr h3⟩
        · rintro (⟨rfl, rfl⟩ | ⟨h, (⟨rfl, rfl⟩ | h3)⟩)
          · exact .inr (.inl ⟨rfl, rfl⟩)
          · exact .inl ⟨rfl, rfl⟩
          · exact .inr (.inr ⟨h, h3⟩)

theorem mput_rise {α : Type} {n : Int} {v : α} : ∀ {kvs : List (Int × α)}, kvs.Pairwise (fun a b => a.1 < b.1) → (mput kvs n v).Pairwise fun a b => a.1 < b.1
  | [], _ => by simp [mput]
  | p :: r, hs => by
    have hs0 := hs
    rw [List.pairwise_cons] at hs
    simp only [mput]
    by_cases h1 : p.1 = n
    · rw [if_pos h1, List.pairwise_cons]
      exact ⟨fun q hq => by rw [← h1]; exact hs.1 q hq, hs.2⟩
    · rw [if_neg h1]
      by_cases h2 : n < p.1
      · rw [if_pos h2, List.pairwise_cons]
        refine ⟨fun q hq => ?_, hs0⟩
        rcases List.mem_cons.1 hq with rfl | hq
        · exact h2
        · have := hs.1 q hq; simp only; omega
      · rw [if_neg h2, List.pairwise_cons]
        refine ⟨fun q hq => ?_, mput_rise hs.2⟩
        obtain ⟨k, x⟩ := q
        rcases (mem_mput hs.2 k x).1 hq with ⟨rfl, rfl⟩ | ⟨_, h⟩
        · simp only; omega
        · exact hs.1 _ h

theorem mput_length {α : Type} {n : Int} {v : α} : ∀ {kvs : List (Int × α)}, kvs.Pairwise (fun a b => a.1 < b.1) → (mput kvs n v).length = bif (mget kvs n).isSome then kvs.length else kvs.length + 1
  | [], _ => by simp [mput, mget]
  | p :: r, hs => by
    rw [List.pairwise_cons] at hs
    have ih := mput_length (n := n) (v := v) hs.2
    unfold mput mget
    by_cases h1 : p.1 = n
    · simp [h1]
    · by_cases h2 : n < p.1
      · have : mget r n = none := by
          cases e : mget r n with
          | none => rfl
          | some x => have := hs.1 _ (mget_mem e); simp only at this; omega
        simp [this, h1, h2]
      · simp only [h1, h2, if_false, List.length_cons, ih]
        cases (mget r n).isSome <;> rfl

theorem mdel_rise {α : Type} {n : Int} {kvs : List (Int × α)} (h : kvs.Pairwise (fun a b => a.1 < b.1)) : (mdel kvs n).Pairwise fun a b => a.1 < b.1 := h.filter _

theorem mget_mput {α : Type} {n : Int} {v : α} {kvs : List (Int × α)} (h : kvs.Pairwise (fun a b => a.1 < b.1)) (k : Int) : mget (mput kvs n v) k = if k = n then some v else mget kvs k := by
  split
  · rename_i e; subst e
    exact mget_of_mem (mput_rise h) ((mem_mput h k v).2 (.inl ⟨rfl, rfl⟩))
  · rename_i e
    cases e1 : mget kvs k with
    | some x => exact mget_of_mem (mput_rise h) ((mem_mput h k x).2 (.inr ⟨e, mget_mem e1⟩))
    | none =>
      cases e2 : mget (mput kvs n v) k with
      | none => rfl
      | some x =>
        rcases (mem_mput h k x).1 (mget_mem e2) with ⟨h1, _⟩ | ⟨_, h2⟩
        · exact absurd h1 e
        · exact absurd h2 (mget_none e1 x)

/-- a leaf that holds nothing -/
def AV.pureB : AV → Bool
  | .int .. | .bool _ | .str _ | .nilp | .nili | .nils | .nilm | .sl _ | .rp .. | .rm _ => true
  | _ => false

theorem Rd.toP {μ : Nat → Option Nat} {S : Nat → Prop} {w : World} {v : Value} {x : AV} (h : Rd μ S w v x) (hx : x.pureB = true) : RdP S w v x := by
  cases h with
  | pure h => exact h
  | _ => cases hx

/-- a value that holds nothing, that a map may hold -/
def AV.deepB : AV → Bool
  | .agg cells => cells.all AV.pureB
  | x => x.pureB

theorem Rd.deep {v : Value} {x : AV} (h : Rd μ S w v x) (hx : x.deepB = true) : RdP S w v x := by
  cases x with
  | agg cells =>
    obtain ⟨cs, rfl, hl, hr⟩ := h.inv_agg
    exact .agg cs cells hl fun j y hy => (hr j y hy).toP (List.all_eq_true.1 hx y (List.mem_of_getElem? hy))
  | _ => exact h.toP hx

def putOp (T : Tab) (σ : St) (t : TypeId) (x k v : AV) : Option (Prop × List (Nat × Blk)) :=
  match T.und t, x, k with
  | .map kt _, .mp id, .int .i64 n =>
    match hget σ.hp id with
    | some (.map kvs) => some ((T.und kt).isI64 = true ∧ v.deepB = true, hset σ.hp id (.map (mput kvs n v)))
    | _ => none
  | _, _, _ => none

theorem nodup_idx {α : Type} : ∀ {l : List α} {i j : Nat} {x : α}, l.Nodup → l[i]? = some x → l[j]? = some x → i = j
  | [], i, j, x, _, h, _ => by simp at h
  | y :: r, i, j, x, hn, hi, hj => by
    rw [List.nodup_cons] at hn
    cases i with
    | zero =>
      cases j with
      | zero => rfl
      | succ j =>
        simp only [List.getElem?_cons_zero, Option.some.injEq] at hi
        subst hi
        exact absurd (List.mem_of_getElem? (by simpa using hj)) hn.1
    | succ i =>
      cases j with
      | zero =>
        simp only [List.getElem?_cons_zero, Option.some.injEq] at hj
        subst hj
        exact absurd (List.mem_of_getElem? (by simpa using hi)) hn.1
      | succ j => exact congrArg (· + 1) (nodup_idx hn.2 (by simpa using hi) (by simpa using hj))

theorem map_put {es : Array MapEntry} {clk : Nat} {kvs : List (Int × AV)} {vals : Int → Value} (h : MapOK es clk kvs vals) {j : Nat} {e : MapEntry} {n : Int} {x : AV} (hj : es.toList[j]? = some e) (hk : e.key = .int .i64 n) (hx : mget kvs n = some x)
    (v : Value) (V : AV) : MapOK (es.modify j fun e => { e with key := .int .i64 n, val := v }) clk (mput kvs n V) (fun m => if m = n then v else vals m) := by
  have hkeys : ((es.modify j fun e => { e with key := .int .i64 n, val := v }).toList.map (·.key)) = es.toList.map (·.key) := by
    apply List.ext_getElem?
    intro i
    rw [Array.toList_modify, List.getElem?_map, List.getElem?_map, List.getElem?_modify]
    by_cases e1 : j = i
    · subst e1; simp [hj, hk]
    · simp [e1]
  have hborn : ((es.modify j fun e => { e with key := .int .i64 n, val := v }).toList.map (·.born)) = es.toList.map (·.born) := by
    apply List.ext_getElem?
    intro i
    rw [Array.toList_modify, List.getElem?_map, List.getElem?_map, List.getElem?_modify]
    by_cases e1 : j = i
    · subst e1; simp [hj]
    · simp [e1]
  refine ⟨fun e' he => ?_, fun p hp => ?_, by rw [hkeys]; exact h.once, ?_, mput_rise h.rise, fun e' he => ?_, by rw [hborn]; exact h.nodup⟩
  · obtain ⟨i, hi⟩ := List.getElem?_of_mem he
    rw [Array.toList_modify, List.getElem?_modify] at hi
    by_cases e1 : j = i
    · subst e1
      rw [hj] at hi
      have hi : some { e with key := .int .i64 n, val := v } = some e' := by simpa using hi
      injection hi with hi
      subst hi
      exact ⟨n, V, rfl, (mem_mput h.rise n V).2 (.inl ⟨rfl, rfl⟩), by simp⟩
    · simp only [e1, if_false] at hi
      have hi' : es.toList[i]? = some e' := by simpa using hi
      obtain ⟨k, y, h1, h2, h3⟩ := h.key e' (List.mem_of_getElem? hi')
      have hne : k ≠ n := by
        rintro rfl
        exact e1 (nodup_idx h.once (by rw [List.getElem?_map, hj, Option.map_some, hk]) (by rw [List.getElem?_map, hi', Option.map_some, h1]))
      exact ⟨k, y, h1, (mem_mput h.rise k y).2 (.inr ⟨hne, h2⟩), by rw [if_neg hne]; exact h3⟩
  · obtain ⟨k, y⟩ := p
    have hm : Value.int .i64 k ∈ es.toList.map (·.key) := by
      rcases (mem_mput h.rise k y).1 hp with ⟨rfl, _⟩ | ⟨_, h2⟩
      · exact List.mem_map.2 ⟨e, List.mem_of_getElem? hj, hk⟩
      · obtain ⟨e', he, hk'⟩ := h.has _ h2
        exact List.mem_map.2 ⟨e', he, hk'⟩
    rw [← hkeys] at hm
    obtain ⟨e', he, hk'⟩ := List.mem_map.1 hm
    exact ⟨e', he, hk'⟩
  · rw [Array.size_modify, mput_length h.rise, hx, h.len]; rfl
  · have : e'.born ∈ es.toList.map (·.born) := by rw [← hborn]; exact List.mem_map.2 ⟨e', he, rfl⟩
    obtain ⟨e2, he2, hb2⟩ := List.mem_map.1 this
    rw [← hb2]; exact h.born e2 he2

theorem map_new {es : Array MapEntry} {clk : Nat} {kvs : List (Int × AV)} {vals : Int → Value} (h : MapOK es clk kvs vals) {n : Int} (hx : mget kvs n = none) (v : Value) (V : AV) :
    MapOK (es.push { key := .int .i64 n, val := v, born := clk }) (clk + 1) (mput kvs n V) (fun m => if m = n then v else vals m) := by
  have hno : ∀ e, e ∈ es.toList → e.key ≠ .int .i64 n := fun e he hk => by
    obtain ⟨k, y, h1, h2, _⟩ := h.key e he
    rw [hk] at h1; injection h1 with _ h1; subst h1
    exact mget_none hx y h2
  refine ⟨fun e he => ?_, fun p hp => ?_, ?_, ?_, mput_rise h.rise, fun e he => ?_, ?_⟩
  · rw [Array.toList_push, List.mem_append, List.mem_singleton] at he
    rcases he with he | rfl
    · obtain ⟨k, y, h1, h2, h3⟩ := h.key e he
      have hne : k ≠ n := by rintro rfl; exact hno e he h1
      exact ⟨k, y, h1, (mem_mput h.rise k y).2 (.inr ⟨hne, h2⟩), by rw [if_neg hne]; exact h3⟩
    · exact ⟨n, V, rfl, (mem_mput h.rise n V).2 (.inl ⟨rfl, rfl⟩), by simp⟩
  · obtain ⟨k, y⟩ := p
    rcases (mem_mput h.rise k y).1 hp with ⟨rfl, _⟩ | ⟨_, h2⟩
    · exact ⟨_, by rw [Array.toList_push]; exact List.mem_append_right _ (List.mem_singleton.2 rfl), rfl⟩
    · obtain ⟨e', he, hk'⟩ := h.has _ h2
      exact ⟨e', by rw [Array.toList_push]; exact List.mem_append_left _ he, hk'⟩
  · rw [Array.toList_push, List.map_append, List.nodup_append]
    refine ⟨h.once, by simp, fun x hx y hy hxy => ?_⟩
    simp only [List.map_cons, List.map_nil, List.mem_singleton] at hy
    obtain ⟨e, he, hk⟩ := List.mem_map.1 hx
    exact hno e he (by rw [hk, hxy, hy])
  · rw [Array.size_push, mput_length h.rise, hx, h.len]; rfl
  · rw [Array.toList_push, List.mem_append, List.mem_singleton] at he
    rcases he with he | rfl
    · exact Nat.lt_succ_of_lt (h.born e he)
    · exact Nat.lt_succ_self _
  · rw [Array.toList_push, List.map_append, List.nodup_append]
    refine ⟨h.nodup, by simp, fun x hx y hy hxy => ?_⟩
    simp only [List.map_cons, List.map_nil, List.mem_singleton] at hy
    obtain ⟨e, he, hk⟩ := List.mem_map.1 hx
    have := h.born e he
    omega

theorem map_del {es : Array MapEntry} {clk : Nat} {kvs : List (Int × AV)} {vals : Int → Value} (h : MapOK es clk kvs vals) {j : Nat} {e : MapEntry} {n : Int} (hj : es.toList[j]? = some e) (hk : e.key = .int .i64 n) :
    MapOK (es.eraseIdxIfInBounds j) clk (mdel kvs n) vals := by
  have hjl : j < es.size := by
    have := (List.getElem?_eq_some_iff.1 hj).1
    simpa using this
  have hL : (es.eraseIdxIfInBounds j).toList = es.toList.eraseIdx j := by
    unfold Array.eraseIdxIfInBounds
    rw [dif_pos hjl, Array.toList_eraseIdx]
  have hsub : (es.toList.eraseIdx j).Sublist es.toList := List.eraseIdx_sublist _ _
  have hne : ∀ e', e' ∈ es.toList.eraseIdx j → e'.key ≠ .int .i64 n := fun e' he hk' => by
    rw [List.mem_eraseIdx_iff_getElem?] at he
    obtain ⟨i, hi, hi2⟩ := he
    exact hi (nodup_idx h.once (by rw [List.getElem?_map, hi2, Option.map_some, hk']) (by rw [List.getElem?_map, hj, Option.map_some, hk]))
  refine ⟨fun e' he => ?_, fun p hp => ?_, ?_, ?_, mdel_rise h.rise, fun e' he => ?_, ?_⟩
  · rw [hL] at he
    obtain ⟨k, y, h1, h2, h3⟩ := h.key e' (hsub.subset he)
    refine ⟨k, y, h1, List.mem_filter.2 ⟨h2, ?_⟩, h3⟩
    have : k ≠ n := by rintro rfl; exact hne e' he h1
    simpa using this
  · obtain ⟨hp1, hp2⟩ := List.mem_filter.1 hp
    obtain ⟨e', he, hk'⟩ := h.has _ hp1
    refine ⟨e', ?_, hk'⟩
    rw [hL, List.mem_eraseIdx_iff_getElem?]
    obtain ⟨i, hi⟩ := List.getElem?_of_mem he
    refine ⟨i, ?_, hi⟩
    rintro rfl
    rw [hj] at hi; injection hi with hi; subst hi
    rw [hk] at hk'; injection hk' with _ hk'
    simp [hk'] at hp2
  · rw [hL]; exact h.once.sublist (hsub.map _)
  · have hmem : ∃ x, (n, x) ∈ kvs := by
      obtain ⟨k, x, h1, h2, _⟩ := h.key e (List.mem_of_getElem? hj)
      rw [hk] at h1; injection h1 with _ h1; subst h1
      exact ⟨x, h2⟩
    have hlen : ∀ (l : List (Int × AV)), l.Pairwise (fun a b => a.1 < b.1) → (∃ x, (n, x) ∈ l) → (mdel l n).length + 1 = l.length := by
      intro l
      induction l with
      | nil => rintro _ ⟨x, hx⟩; simp at hx
      | cons p r ih =>
        intro hs hx
        rw [List.pairwise_cons] at hs
        by_cases e1 : p.1 = n
        · have : r.filter (fun p => !(p.1 == n)) = r := List.filter_eq_self.2 fun q hq => by
            have := hs.1 q hq
            have : q.1 ≠ n := by omega
            simpa using this
          simp [mdel, e1, this]
        · have h2 : ∃ x, (n, x) ∈ r := by
            obtain ⟨x, hx⟩ := hx
            rcases List.mem_cons.1 hx with h | h
            · exact absurd (by rw [← h]) e1
            · exact ⟨x, h⟩
          have := ih hs.2 h2
          simp only [mdel] at this ⊢
          rw [List.filter_cons, if_pos (by simpa using e1)]
          simp [this]
    have h1 := hlen kvs h.rise hmem
    have h2 : (es.eraseIdxIfInBounds j).size + 1 = es.size := by
      rw [← Array.length_toList, hL, List.length_eraseIdx, if_pos (by simpa using hjl), Array.length_toList]; omega
    have := h.len
    omega
  · rw [hL] at he; exact h.born e' (hsub.subset he)
  · rw [hL]; exact h.nodup.sublist (hsub.map _)

theorem run_setObj {g : Nat} {o b : Obj} (hb : w.heap[g]? = some b) (hc : ∀ c e f, b ≠ .cells c e f) : ∃ w', (setObj g o).run P w = .ok () w' ∧ w'.os = w.os ∧ w'.tape = w.tape ∧ w'.output = w.output ∧ w'.heap.size = w.heap.size ∧ (∀ b, b ≠ g → w'.heap[b]? = w.heap[b]?) ∧ w'.heap[g]? = some o := by
  have h : g < w.heap.size := (Array.getElem?_eq_some_iff.1 hb).1
  refine ⟨{ w with heap := w.heap.setIfInBounds g o }, ?_, rfl, rfl, rfl, by simp, fun b hb => by simp [Ne.symm hb], by simp [h]⟩
  unfold setObj
  rw [Sem.run.eq_def]
  simp only [hb]
  cases b with
  | cells c e f => exact absurd rfl (hc c e f)
  | _ => rfl

theorem key_stays {n m : Int} (h : n = m) : (Instr.keyThatStays (.int .i64 n) (.int .i64 m)).run P w = .ok (.int .i64 m) w := by
  subst h
  unfold Instr.keyThatStays
  rw [show Instr.sameBits 10000 (.int .i64 n) (.int .i64 n) = true from by unfold Instr.sameBits; simp]
  rfl

theorem sound_put (hT : TabOK P T) (hi : Inv C μ S σ a w) {t : TypeId} {vx vk vv : Value} {x k v : AV} {p : Prop} {hp' : List (Nat × Blk)} (h : putOp T σ t x k v = some (p, hp')) (hp : p)
    (hvx : Rd μ S w vx x) (hvk : Rd μ S w vk k) (hvv : Rd μ S w vv v) : ∃ w', (Instr.mapUpdate t vx vk vv).run P w = .ok () w' ∧ Inv C μ S ⟨σ.tm, hp'⟩ a w' := by
  unfold putOp at h
  split at h
  · rename_i kt e id n hu
    split at h
    · rename_i kvs hb
      simp only [Option.some.injEq, Prod.mk.injEq] at h
      obtain ⟨rfl, rfl⟩ := h
      obtain ⟨hk, hd⟩ := hp
      have hk := i64_of hT hk
      have ht := hT.und t
      rw [hu] at ht
      simp only [KDOK] at ht
      obtain rfl := hvk.inv_int
      obtain ⟨g, hg, rfl⟩ := hvx.inv_mp
      obtain ⟨g', es, clk, vals, k1, k2, k3, k4⟩ := hi.hp _ _ hb
      rw [k1] at hg; injection hg with hg; subst hg
      have hgs : g' < w.heap.size := by
        by_cases h : g' < w.heap.size
        · exact h
        · rw [Array.getElem?_eq_none (by omega)] at k2; cases k2
      have hS : ¬ S g' := (hi.dom id g' k1).2.2.1
      have hdeep := hvv.deep hd
      have fin : ∀ (es' : Array MapEntry) (clk' : Nat), MapOK es' clk' (mput kvs n v) (fun m => if m = n then vv else vals m) → (Instr.mapUpdate t (.map (some g')) (.int .i64 n) vv).run P w = (setObj g' (.map es' clk')).run P w →
          ∃ w', (Instr.mapUpdate t (.map (some g')) (.int .i64 n) vv).run P w = .ok () w' ∧ Inv C μ S ⟨σ.tm, hset σ.hp id (.map (mput kvs n v))⟩ a w' := fun es' clk' hm hrun => by
        obtain ⟨w', r1, r2, r3, r4, r5, r6, r7⟩ := run_setObj (P := P) (o := .map es' clk') k2 (fun _ _ _ h => nomatch h)
        have hw : SameOn S w w' := fun b hb => r6 b (by rintro rfl; exact hS hb)
        refine ⟨w', by rw [hrun, r1], hi.write id g' k1 r2 r3 r4 r5 r6 (by simp [rowSize, r7, k2]) _ ⟨g', es', clk', _, k1, r7, hm, fun q hq => ?_⟩⟩
        obtain ⟨m, y⟩ := q
        rcases (mem_mput k3.rise m y).1 hq with ⟨rfl, rfl⟩ | ⟨hne, hin⟩
        · simp only [if_true]; exact hdeep.mono hw (fun _ h => h)
        · simp only [if_neg hne]; exact (k4 _ hin).mono hw (fun _ h => h)
      rcases k3.find n with ⟨j, en, y, q1, q2, q3, q4, q5⟩ | ⟨q1, q2, q3⟩
      · refine fin _ clk (map_put k3 q1 q2 q4 vv v) ?_
        have q1' : es[j]? = some en := by rw [← Array.getElem?_toList]; exact q1
        simp [Instr.mapUpdate, run_underlying ht, run_checkKey hk, run_findKey (w := w) hk q5, run_getObj_map k2, q1', q2, key_stays]
      · refine fin _ (clk + 1) (map_new k3 q1 vv v) ?_
        simp [Instr.mapUpdate, run_underlying ht, run_checkKey hk, run_findKey (w := w) hk q3, run_getObj_map k2]
    · cases h
  · cases h

def delOp (T : Tab) (σ : St) (t : TypeId) (x k : AV) : Option (Prop × List (Nat × Blk)) :=
  match T.und t, x, k with
  | .map kt _, .mp id, .int .i64 n =>
    match hget σ.hp id with
    | some (.map kvs) => some ((T.und kt).isI64 = true, hset σ.hp id (.map (mdel kvs n)))
    | _ => none
  | _, _, _ => none

theorem sound_del (hT : TabOK P T) (hi : Inv C μ S σ a w) {t u ty : TypeId} {vx vk : Value} {x k : AV} {p : Prop} {hp' : List (Nat × Blk)} (h : delOp T σ t x k = some (p, hp')) (hp : p)
    (hvx : Rd μ S w vx x) (hvk : Rd μ S w vk k) : ∃ w', (Builtin.delete_ #[t, u] ty #[vx, vk]).run P w = .ok (.tuple #[]) w' ∧ Inv C μ S ⟨σ.tm, hp'⟩ a w' := by
  unfold delOp at h
  split at h
  · rename_i kt e id n hu
    split at h
    · rename_i kvs hb
      simp only [Option.some.injEq, Prod.mk.injEq] at h
      obtain ⟨rfl, rfl⟩ := h
      have hk := i64_of hT hp
      have ht := hT.und t
      rw [hu] at ht
      simp only [KDOK] at ht
      obtain rfl := hvk.inv_int
      obtain ⟨g, hg, rfl⟩ := hvx.inv_mp
      obtain ⟨g', es, clk, vals, k1, k2, k3, k4⟩ := hi.hp _ _ hb
      rw [k1] at hg; injection hg with hg; subst hg
      have hgs : g' < w.heap.size := by
        by_cases h : g' < w.heap.size
        · exact h
        · rw [Array.getElem?_eq_none (by omega)] at k2; cases k2
      have hS : ¬ S g' := (hi.dom id g' k1).2.2.1
      have fin : ∀ (es' : Array MapEntry), MapOK es' clk (mdel kvs n) vals → (Builtin.delete_ #[t, u] ty #[.map (some g'), .int .i64 n]).run P w = ((setObj g' (.map es' clk)).run P w).andThen (fun _ w => .ok (.tuple #[]) w) →
          ∃ w', (Builtin.delete_ #[t, u] ty #[.map (some g'), .int .i64 n]).run P w = .ok (.tuple #[]) w' ∧ Inv C μ S ⟨σ.tm, hset σ.hp id (.map (mdel kvs n))⟩ a w' := fun es' hm hrun => by
        obtain ⟨w', r1, r2, r3, r4, r5, r6, r7⟩ := run_setObj (P := P) (o := .map es' clk) k2 (fun _ _ _ h => nomatch h)
        have hw : SameOn S w w' := fun b hb => r6 b (by rintro rfl; exact hS hb)
        exact ⟨w', by rw [hrun, r1]; rfl, hi.write id g' k1 r2 r3 r4 r5 r6 (by simp [rowSize, r7, k2]) _ ⟨g', es', clk, _, k1, r7, hm, fun q hq => (k4 q (List.mem_filter.1 hq).1).mono hw (fun _ h => h)⟩⟩
      rcases k3.find n with ⟨j, en, y, q1, q2, q3, q4, q5⟩ | ⟨q1, q2, q3⟩
      · refine fin _ (map_del k3 q1 q2) ?_
        simp [Builtin.delete_, run_underlying ht, run_checkKey hk, run_findKey (w := w) hk q5, run_getObj_map k2]
      · refine fin es (by
          have : mdel kvs n = kvs := List.filter_eq_self.2 fun q hq => by
            have : q.1 ≠ n := by rintro rfl; exact mget_none q1 q.2 hq
            simpa using this
          rw [this]; exact k3) ?_
        simp [Builtin.delete_, run_underlying ht, run_checkKey hk, run_findKey (w := w) hk q3, run_getObj_map k2]
    · cases h
  · cases h
end
end Go.Eng
