/- Texts of this claim, part 11: EngAJ, EngAK, EngAL, Wd. No condition. -/
import Derived.Test.YtfiiingppbkpkaaGreatXF10
import Derived.Laws.IdiomRangeMap
set_option maxRecDepth 10000
set_option maxHeartbeats 4000000
set_option linter.unusedSimpArgs false
set_option linter.unusedVariables false
namespace Go.Eng
section
variable {P : Program} {T : Tab} {C : Ctx} {σ σ' : St}
theorem sub_app (ids : List Nat) : ∀ (A B : List (Nat × Blk)), sub ids (A ++ B) = sub ids A ++ sub ids B
 | [], _ => rfl
 | p :: r, B => by
  simp only [List.cons_append, sub, sub_app ids r B]
  split <;> rfl
theorem sub_sub (ids : List Nat) : ∀ A : List (Nat × Blk), sub ids (sub ids A) = sub ids A
 | [] => rfl
 | p :: r => by
  simp only [sub]
  split
  ·rename_i h; simp only [sub, h, if_true, sub_sub ids r]
  ·exact sub_sub ids r
theorem sub_del (ids : List Nat) : ∀ A : List (Nat × Blk), sub ids (del ids A) = []
 | [] => rfl
 | p :: r => by
  simp only [del]
  split
  ·exact sub_del ids r
  ·rename_i h; simp only [sub, h, sub_del ids r]; rfl
def front (ids : List Nat) (A : List (Nat × Blk)) (s : St) : St := ⟨s.tm, sub ids A ++ del ids s.hp⟩
theorem front_sub (ids : List Nat) (A : List (Nat × Blk)) (s : St) : sub ids (front ids A s).hp = sub ids A := by
 show sub ids (sub ids A ++ del ids s.hp) = _
 rw [sub_app, sub_sub, sub_del, List.append_nil]
theorem front_get {ids : List Nat} {A : List (Nat × Blk)} {s : St} (h : ∀ i, ids.contains i = true → hget s.hp i = hget A i) (i : Nat) : hget (front ids A s).hp i = hget s.hp i := by
 show hget (sub ids A ++ del ids s.hp) i = _
 rw [hget_append]
 by_cases hi : ids.contains i = true
 ·by_cases he : ∃ b, b ∈ sub ids A ∧ b.1 = i
  ·rw [if_pos he, hget_sub, if_pos hi, h i hi]
  ·rw [if_neg he, hget_del, if_pos hi, h i hi]
   cases e : hget A i with
   | none => rfl
   | some b =>
    have h2 : hget (sub ids A) i = some b := by rw [hget_sub, if_pos hi]; exact e
    exact absurd ⟨_, hget_mem h2, rfl⟩ he
 ·rw [if_neg, hget_del, if_neg hi]
  rintro ⟨b, hb, rfl⟩
  have : ∀ A : List (Nat × Blk), b ∈ sub ids A → ids.contains b.1 = true := fun A => by
   induction A with
   | nil => intro h; cases h
   | cons p r ih =>
    intro h
    simp only [sub] at h
    split at h
    ·rename_i hc
     rcases List.mem_cons.1 h with rfl | h
     ·exact hc
     ·exact ih h
    ·exact ih h
  exact hi (this _ hb)
theorem hget_hsetAll_app {K : List (Nat × Blk)} (hnd : (K.map (·.1)).Nodup) (A : List (Nat × Blk)) (i : Nat) : hget (hsetAll A K) i = hget (K ++ A) i := by
 rw [hget_hsetAll i K _ hnd, hget_append]
 by_cases e : ∃ b, b ∈ K ∧ b.1 = i
 ·rw [if_pos e]
  obtain ⟨b, hb, rfl⟩ := e
  have : ∀ K : List (Nat × Blk), b ∈ K → (hget K b.1).isSome = true := fun K => by
   induction K with
   | nil => intro h; cases h
   | cons q r ih =>
    intro h
    simp only [hget]
    split
    ·rfl
    ·rename_i hne
     rcases List.mem_cons.1 h with rfl | h
     ·exact absurd rfl hne
     ·exact ih h
  rw [if_pos (this K hb)]
 ·rw [if_neg e]
  cases e2 : hget K i with
  | none => rfl
  | some b => exact absurd ⟨_, hget_mem e2, rfl⟩ e
theorem trip_callS {ops : Array Oper} {o : Oper} {c : Operand} {args : Array Operand} {ats : Array TypeId} (ho : o.op = .call { callee := .value c, args, argTypes := ats }) {p : Prop} {f : FuncId} {xs : List AV}
  (h : callArgs σ c args.toList = some (p, f, xs)) (hp : p) (hc : Callable P f) (ids : List Nat) {K : List (Nat × Blk)} {r : AV}
  (hck : ((refsL xs).all ids.contains && (refs r).all ids.contains && ids.all (fun i => decide (i < 5000) && (hget K i).isSome) && K.all (fun q => ids.contains q.1)) = true) (hnd : (K.map (·.1)).Nodup)
  (hpin : (ids.all fun i => match hget (sub ids σ.hp) i with | some b => pinnable b | none => false) = true) (hc1 : ((sub ids σ.hp).all fun q => (refsB q.2).all ids.contains) = true) (hc2 : (K.all fun q => (refsB q.2).all ids.contains) = true)
  (hf : ∀ G Y N : Nat → Nat, FnOK P f xs (sub ids σ.hp ++ pins ids G Y N) fun r' H' => r' = r ∧ ∀ i b, hget (K ++ pins ids G Y N) i = some b → hget H' i = some b)
  {s : St} (ha : ∀ x, x ∈ locsG ops o.guard ++ ((locsO σ c ++ locsL σ args.toList) ++ ids.map Loc.blk) → AgreeAt σ s x) {τ : St} (h1 : τ.tm = (St.put ⟨s.tm, []⟩ o.dst r).tm) (h2 : ∀ i, hget τ.hp i = hget (K ++ s.hp) i) : Trip P C o s τ := by
 have hag : ∀ i, ids.contains i = true → hget s.hp i = hget σ.hp i := fun i hi => ha (.blk i) (List.mem_append_right _ (List.mem_append_right _ (List.mem_map.2 ⟨i, by simpa using hi, rfl⟩)))
 have hca : callArgs s c args.toList = callArgs σ c args.toList := callArgs_agree fun x hx => ha x (List.mem_append_right _ (List.mem_append_left _ hx))
 have hfg := front_get (ids := ids) (A := σ.hp) (s := s) hag
 have hca2 : callArgs (front ids σ.hp s) c args.toList = some (p, f, xs) := by
  rw [← h, ← hca]
  refine callArgs_agree fun x _ => ?_
  cases x with
  | tm t => rfl
  | blk i => exact hfg i
 have hl1 : Le C s (front ids σ.hp s) := rel_same rfl (fun _ => rfl) (fun i => (hfg i).symm)
 intro a w Kp Q hrel hK
 have hs := front_sub ids σ.hp s
 refine trip_callP ho hca2 hp hc ids hs hck hnd hpin hc1 hc2 hf rfl a w Kp Q (hl1 a w hrel) fun a' w' hr' => hK a' w' (rel_same ?_ ?_ ?_ a' w' hr')
 ·rw [h1]; cases o.dst <;> simp [St.put, front]
 ·intro t; rw [h1]; cases o.dst <;> rfl
 ·intro i
  rw [St.put_hp, h2]
  show hget (hsetAll (front ids σ.hp s).hp K) i = hget (K ++ s.hp) i
  rw [hget_hsetAll_app hnd, hget_append, hget_append, hfg]
theorem seg_callP {ops : Array Oper} {Q : Exit → Act → World → Prop} {k n : Nat} {acc : Skel} {o : Oper} {l : List Oper} {c : Operand} {args : Array Operand} {ats : Array TypeId} (ho : o.op = .call { callee := .value c, args, argTypes := ats }) (hg : o.guard = none) {p : Prop} {f : FuncId} {xs : List AV}
  (h : callArgs σ c args.toList = some (p, f, xs)) (hp : p) (hc : Callable P f) (ids : List Nat) {H K : List (Nat × Blk)} {r : AV} (hH : sub ids σ.hp = H)
  (hck : ((refsL xs).all ids.contains && (refs r).all ids.contains && ids.all (fun i => decide (i < 5000) && (hget K i).isSome) && K.all (fun q => ids.contains q.1)) = true) (hnd : (K.map (·.1)).Nodup)
  (hpin : (ids.all fun i => match hget H i with | some b => pinnable b | none => false) = true) (hc1 : (H.all fun q => (refsB q.2).all ids.contains) = true) (hc2 : (K.all fun q => (refsB q.2).all ids.contains) = true)
  (hf : ∀ G Y N : Nat → Nat, FnOK P f xs (H ++ pins ids G Y N) fun r' H' => r' = r ∧ ∀ i b, hget (K ++ pins ids G Y N) i = some b → hget H' i = some b)
  {sk : List Loc × List Loc} (hs : ((match o.dst with | some t => [Loc.tm t] | none => []) ++ K.map (fun b => Loc.blk b.1), locsG ops o.guard ++ ((locsO σ c ++ locsL σ args.toList) ++ ids.map Loc.blk)) = sk)
  (ha : (⟨σ.tm, hsetAll σ.hp K⟩ : St).put o.dst r = σ') (hk : SegFrom P C ops Q k n (acc ++ [sk]) l σ') : SegFrom P C ops Q k n acc (o :: l) σ := by
 subst hs ha hH
 have hKi : ∀ b, b ∈ K → ids.contains b.1 = true := fun b hb => by
  simp only [Bool.and_eq_true] at hck
  exact List.all_eq_true.1 hck.2 b hb
 have hrob : Rob P C ops o ⟨o.dst, r, K, locsG ops o.guard ++ ((locsO σ c ++ locsL σ args.toList) ++ ids.map Loc.blk)⟩ σ := by
  intro s ha _ a w Kp Q ⟨μ, S, hi⟩ hK
  have hgs : guardOf ops s o.guard = some true := by rw [hg]; rfl
  rw [wanted_of hi hgs]
  refine .inl (trip_callS ho h hp hc ids hck hnd hpin hc1 hc2 hf ha ?_ (fun i => ?_) a w Kp Q ⟨μ, S, hi⟩ hK)
  ·unfold Sp.app; cases o.dst <;> rfl
  ·unfold Sp.app; rw [St.put_hp]
 refine seg_robN hrob (fun b hb hno => absurd ?_ hno) rfl rfl (SegFrom.sim ⟨?_, ?_⟩ hk)
 ·exact List.mem_append_right _ (List.mem_append_right _ (List.mem_map.2 ⟨b.1, by simpa using hKi b hb, rfl⟩))
 ·unfold Sp.app; cases o.dst <;> rfl
 ·intro i
  unfold Sp.app
  rw [St.put_hp, St.put_hp]
  exact (hget_hsetAll_app hnd σ.hp i).symm
theorem seg_callK {ops : Array Oper} {Q : Exit → Act → World → Prop} {k n : Nat} {acc : Skel} {o : Oper} {l : List Oper} {c : Operand} {args : Array Operand} {ats : Array TypeId} (ho : o.op = .call { callee := .value c, args, argTypes := ats }) (hg : o.guard = none) {p : Prop} {f : FuncId} {xs : List AV}
  (h : callArgs σ c args.toList = some (p, f, xs)) (hp : p) (hc : Callable P f) (ids : List Nat) {H : List (Nat × Blk)} {r : AV} (hH : sub ids σ.hp = H)
  (hck : ((refsL xs).all ids.contains && (refs r).all ids.contains && ids.all (fun i => decide (i < 5000) && (hget H i).isSome) && H.all (fun q => ids.contains q.1)) = true) (hnd : (H.map (·.1)).Nodup)
  (hpin : (ids.all fun i => match hget H i with | some b => pinnable b | none => false) = true) (hc1 : (H.all fun q => (refsB q.2).all ids.contains) = true)
  (hf : ∀ G Y N : Nat → Nat, FnOK P f xs (H ++ pins ids G Y N) fun r' H' => r' = r ∧ ∀ i b, hget (H ++ pins ids G Y N) i = some b → hget H' i = some b)
  {sk : List Loc × List Loc} (hs : ((match o.dst with | some t => [Loc.tm t] | none => []), locsG ops o.guard ++ ((locsO σ c ++ locsL σ args.toList) ++ ids.map Loc.blk)) = sk)
  (ha : σ.put o.dst r = σ') (hk : SegFrom P C ops Q k n (acc ++ [sk]) l σ') : SegFrom P C ops Q k n acc (o :: l) σ := by
 subst hs ha hH
 have hrob : Rob P C ops o ⟨o.dst, r, [], locsG ops o.guard ++ ((locsO σ c ++ locsL σ args.toList) ++ ids.map Loc.blk)⟩ σ := by
  intro s ha _ a w Kp Q ⟨μ, S, hi⟩ hK
  have hgs : guardOf ops s o.guard = some true := by rw [hg]; rfl
  rw [wanted_of hi hgs]
  refine .inl (trip_callS ho h hp hc ids hck hnd hpin hc1 hc1 hf ha ?_ (fun i => ?_) a w Kp Q ⟨μ, S, hi⟩ hK)
  ·unfold Sp.app; cases o.dst <;> rfl
  ·unfold Sp.app
   rw [St.put_hp]
   show hget s.hp i = _
   rw [hget_append]
   split
   ·rename_i he
    obtain ⟨b, hb, rfl⟩ := he
    have hib : ids.contains b.1 = true := by
     simp only [Bool.and_eq_true] at hck
     exact List.all_eq_true.1 hck.2 b hb
    rw [hget_sub, if_pos hib]
    exact ha (.blk b.1) (List.mem_append_right _ (List.mem_append_right _ (List.mem_map.2 ⟨b.1, by simpa using hib, rfl⟩)))
   ·rfl
 refine seg_rob hrob rfl ?_ ?_ hk
 ·unfold Sp.wr; cases o.dst <;> simp
 ·unfold Sp.app; cases o.dst <;> rfl
end
end Go.Eng
namespace Go.Eng
section
variable {P : Program} {T : Tab} {C : Ctx} {σ : St} {Ret : St → Prop}
theorem leAny_kill (id : Nat) : ∀ l : List AV, leAny l (l.map (kill id))
 | [] => trivial
 | x :: l => by
  refine ⟨?_, leAny_kill id l⟩
  unfold kill
  split
  ·exact .inl rfl
  ·exact .inr rfl
theorem hset_hset_get (h : List (Nat × Blk)) (id : Nat) (b c : Blk) (i : Nat) : hget (hset (hset h id b) id c) i = hget (hset h id c) i := by
 simp only [hget_hset]
 split <;> rfl
theorem Inv.pad {μ : Nat → Option Nat} {S : Nat → Prop} {a : Act} {w : World} (hi : Inv C μ S σ a w) {id e s m n : Nat} {R : List (List AV)} (hb : hget σ.hp id = some (.cells e s R)) {g : Nat} (hg : μ id = some g) {c : Array Value} (hc : w.heap[g]? = some (.cells c e (0, 0)))
  (hm : m ≤ R.length) (hn : (m + n) * s ≤ c.size) : Inv C μ S ⟨σ.tm, hset σ.hp id (.cells e s (R.take m ++ List.replicate n (List.replicate s .any)))⟩ a w := by
 refine ⟨hi.size, hi.defers, hi.tm, fun i b hb' => ?_, fun i q hq => ?_, hi.inj, hi.frm, hi.sb⟩
 ·rw [hget_hset] at hb'
  split at hb'
  ·rename_i e'
   injection hb' with hb'
   subst hb' e'
   rcases hi.hp id _ hb with ⟨_, k⟩ | ⟨g', c', k1, k2, k3, k4, k5⟩
   ·rw [k] at hg; cases hg
   ·rw [k1] at hg; injection hg with hg; subst hg
    rw [k2] at hc
    simp only [Option.some.injEq, Obj.cells.injEq] at hc
    obtain ⟨rfl, _⟩ := hc
    refine .inr ⟨g', c', k1, k2, ?_, fun row hr => ?_, fun i row hi' j x hx => ?_⟩
    ·simp only [List.length_append, List.length_take, List.length_replicate, Nat.min_eq_left hm]; exact hn
    ·rcases List.mem_append.1 hr with h | h
     ·exact k4 row (List.mem_of_mem_take h)
     ·rw [(List.mem_replicate.1 h).2]; simp
    ·by_cases h : i < (R.take m).length
     ·rw [List.getElem?_append_left h, List.getElem?_take] at hi'
      split at hi'
      ·exact k5 i row hi' j x hx
      ·cases hi'
     ·rw [List.getElem?_append_right (by omega)] at hi'
      have h1 := (List.mem_replicate.1 (List.mem_of_getElem? hi')).2
      subst h1
      have h2 := (List.mem_replicate.1 (List.mem_of_getElem? hx)).2
      subst h2
      exact .any _
  ·exact hi.hp i b hb'
 ·obtain ⟨⟨b, k1⟩, k2⟩ := hi.dom i q hq
  refine ⟨?_, k2⟩
  rw [hget_hset]; split
  ·exact ⟨_, rfl⟩
  ·exact ⟨b, k1⟩
theorem cw_appendO (hT : TabOK P T) {k : List It} {all : Array Oper} {o : Oper} {l : List Oper} {x y : Operand} {t e : TypeId} (ho : o.op = .call { callee := .builtin .append, args := #[x, y], argTypes := #[t, t] }) (hgd : o.guard = none) (ht : T.und t = .sl e)
  {id s off len : Nat} {R rows : List (List AV)} {yv : AV} (hx : evS σ x = (True, .osl id s off len)) (hy : evS σ y = (True, yv)) (hsrc : srcRows σ yv = some rows) (hyl : ∀ id s off len, yv = .osl id s off len → rows.length = len) (hb : hget σ.hp id = some (.cells e s R))
  (hlen : 0 < len) (hR : off + len ≤ R.length) (hs : T.siz e = s) (hs0 : s ≠ 0) (hb0 : T.byt e ≠ 0) (hrl : rowsOf s rows) (hleaf : rowsLeaf rows = true) (hsz : (2 * (len + rows.length) + 768) * T.byt e ≤ 281474976710656) (hfree : HpFree id σ.hp)
  (hbf : BlkFree id (.cells e s (R ++ rows)))
  (h : ∀ off' : Nat, off' = off ∨ off' = 0 → Cw P C Ret (.ops all l :: k) (St.put ⟨σ.tm.map (kill id), hset σ.hp id (.cells e s ((R.drop (off - off')).take (off' + len) ++ rows))⟩ o.dst (.osl id s off' (len + rows.length)))) :
  Cw P C Ret (.ops all (o :: l) :: k) σ := by
 subst hs
 intro a w hrel
 show wpList P all _ (o :: l) a w
 unfold wpList
 obtain ⟨μ, S, hi⟩ := hrel
 rw [wanted_of hi (c := true) (by rw [hgd]; rfl)]
 refine .inl ?_
 have hty : P.underlying t = some (.slice e) := by have := hT.und t; rw [ht] at this; exact this
 have hvx := hi.evS x (by rw [hx]; trivial)
 have hvy := hi.evS y (by rw [hy]; trivial)
 rw [hx] at hvx; rw [hy] at hvy
 obtain ⟨vs, hvs⟩ := src_of hi hsrc hvy hrl hyl
 have hRt : ((R.drop off).take len).length = len := by simp; omega
 rcases hi.hp id _ hb with ⟨rfl, _⟩ | ⟨g', c, k1, k2, k3, k4, k5⟩
 ·simp at hR; omega
 have hRl : rowsOf (T.siz e) ((R.drop off).take len) := fun row hr => k4 row (List.mem_of_mem_drop (List.mem_of_mem_take hr))
 obtain ⟨olds, hol⟩ := src_of hi (x := .osl id (T.siz e) off len) (rows := (R.drop off).take len) (size := T.siz e) (by simp [srcRows, hb]) hvx hRl (fun _ _ _ _ h => by injection h with _ _ _ h; rw [hRt, h])
 have hvx0 := hvx
 obtain ⟨A, cap, hav, hc, hor⟩ := hvx.inv_osl
 rcases hor with ⟨h1, _⟩ | ⟨g, e2, n, h1, hA, h3, h4⟩
 ·omega
 rw [k1] at h1; injection h1 with h1; subst h1
 rw [rowSize, k2] at h3
 simp only [Option.some.injEq, Prod.mk.injEq] at h3
 obtain ⟨rfl, rfl⟩ := h3
 have hax : a.eval x = .slice (some ⟨g', off * T.siz e, none⟩) len cap := by rw [← hA]; exact hav
 have hno := rowsFree hbf
 have hv0 : ∀ u, u ∈ vs → u.oneCell' = true := vals_leaf hvs hleaf
 by_cases hroom : len + rows.length ≤ cap
 ·-- in place
  have hr := run_append_in (ty := o.type) (A := some ⟨g', off * T.siz e, none⟩) (len := len) (cap := cap) hT hty hs0 hvs hroom
  have hcap : (off + len + rows.length) * T.siz e ≤ c.size := by
   rw [← h4]; exact Nat.mul_le_mul_right _ (by omega)
  have hi1 := hi.pad hb k1 k2 hR hcap
  have hl1 : (R.take (off + len)).length = off + len := by simp; omega
  obtain ⟨w', r1, r2⟩ := write_rows (P := P) hi1 (off := off + len) (new := rows) (vs := vs) (by rw [hget_hset, if_pos rfl]) k1 (by simp [hl1]) hvs.len hrl hv0 (fun i row hi j x hx => hvs.rd i row hi j x hx)
  have hov : overRows (R.take (off + len) ++ List.replicate rows.length (List.replicate (T.siz e) .any)) (off + len) rows = R.take (off + len) ++ rows := by
   unfold overRows
   rw [List.take_append_of_le_length (by omega), List.take_of_length_le (by omega), List.drop_eq_nil_of_le (by simp [hl1]), List.append_nil]
  rw [hov] at r2
  have hfr : (execOp a.eval o).run P w = .ok (.value (.slice (some ⟨g', off * T.siz e, none⟩) (len + rows.length) cap)) w' := by
   have e1 : off * T.siz e + len * T.siz e = (off + len) * T.siz e := by rw [Nat.add_mul]
   simp only [add_plain, e1, r1, Result.andThen_ok] at hr
   simp [execOp, ho, hax, resolve, invoke, builtin, hr]
  have r3 := r2.hpEq (H := hset σ.hp id (.cells e (T.siz e) (R.take (off + len) ++ rows))) (fun i => (hset_hset_get _ _ _ _ i).symm)
  have he : evS ⟨σ.tm, hset σ.hp id (.cells e (T.siz e) (R.take (off + len) ++ rows))⟩ x = evS σ x := by cases x <;> rfl
  have hv2 := r3.evS x (by rw [he, hx]; trivial)
  rw [he, hx, hax] at hv2
  obtain ⟨A2, cap2, hv3, _, hor2⟩ := hv2.inv_osl
  obtain ⟨μ3, S3, r4⟩ := le_any (C := C) (leAny_kill id σ.tm) a w' ⟨μ, S, r3⟩
  unfold Oper.wp
  rw [hfr]
  have hv4 := r4
  refine h off (.inl rfl) (a.put o.dst _) _ ⟨μ, S, Inv.put ?_ o.dst ?_⟩
  rw [Nat.sub_self, List.drop_zero]
  ·exact ⟨by rw [r3.size]; simp, r3.defers, fun t x hx => by
    rw [List.getElem?_map] at hx
    cases e5 : σ.tm[t]? with
    | none => rw [e5] at hx; cases hx
    | some y =>
     rw [e5] at hx
     simp only [Option.map_some, Option.some.injEq] at hx
     subst hx
     have := r3.tm t y e5
     unfold kill
     split
     ·exact .any _
     ·exact this, r3.hp, r3.dom, r3.inj, r3.frm, r3.sb⟩
  ·rcases hor2 with ⟨h5, _⟩ | ⟨g2, e3, n2, q1, q2, q3, q4⟩
   ·omega
   ·rw [k1] at q1; injection q1 with q1; subst q1
    injection hv3 with j1 j2 j3
    subst j3
    exact .osl id _ off _ cap _ hroom (.inr ⟨g', e3, n2, k1, rfl, q3, q4⟩)
 ·-- a new block
  obtain ⟨nc, z, h1, h2, hgr⟩ := run_append_grow' (ty := o.type) hT hty hs0 hb0 (by rw [← hax]; exact hol) hvs hRt hroom hsz
  have hi1 := (hi.drop id hfree).drew
  have hfr : hget (σ.drop id).hp id = none := by simp only [St.drop, hget_hdel, if_true]
  have hnod : upd μ id none id = none := hi1.fresh hfr
  have hm : ∀ {v x}, Rd μ S w v x → id ∉ refs x → Rd (upd μ id none) S w.drew v x := fun h hn =>
   (h.other hn none).mono (fun _ _ => rfl) (fun _ h => h) (fun _ _ h => h) (fun _ _ _ => rfl)
  have hrun : (execOp a.eval o).run P w = .ok (.value (.slice (some ⟨w.heap.size, 0, none⟩) (len + rows.length) nc)) (w.drew.alloc (.cells (olds.toArray ++ vs.toArray ++ z) e)) := by
   simp [execOp, ho, hax, resolve, invoke, builtin, hgr]
  unfold Oper.wp
  rw [hrun]
  have hnew := hi1.new id hfr (.cells (olds.toArray ++ vs.toArray ++ z) e) (.cells e (T.siz e) ((R.drop off).take len ++ rows)) (.inr ⟨w.heap.size, _, by simp [upd], alloc_drew_new w _, by simp [hol.len, hvs.len, hRt, Nat.add_mul], fun row hrow => by
    rcases List.mem_append.1 hrow with h | h
    ·exact hRl row h
    ·exact hrl row h, ?_⟩)
  ·have hnew' := hnew.hpEq (H := hset σ.hp id (.cells e (T.siz e) ((R.drop off).take len ++ rows))) (fun i => by
    simp only [St.drop, hget_hset, hget, hget_hdel]
    split <;> rfl)
   refine h 0 (.inr rfl) (a.put o.dst _) _ ⟨_, _, Inv.put (by rw [Nat.sub_zero, Nat.zero_add]; exact hnew') o.dst ?_⟩
   refine .osl id _ 0 _ nc _ h1 (.inr ⟨w.heap.size, e, _, if_pos rfl, by simp, ?_, rfl⟩)
   unfold rowSize
   rw [alloc_drew_new]
   simp only [Option.some.injEq, Prod.mk.injEq, true_and]
   simp only [Array.size_append, List.size_toArray, hol.len, hvs.len, hRt, h2, Nat.zero_add, ← Nat.add_mul]
   congr 1
   omega
  ·have hup : ∀ {v x}, Rd (upd μ id none) S w.drew v x →
     Rd (upd (upd μ id none) id (some w.heap.size)) S (World.alloc w.drew (.cells (olds.toArray ++ vs.toArray ++ z) e)) v x := fun h =>
    h.mono (fun b hb => alloc_get _ _ b (hi1.sb b hb).1) (fun _ h => h) (fun i' g hg => by
     show (if i' = id then some w.heap.size else upd μ id none i') = some g
     rw [if_neg (by rintro rfl; rw [hnod] at hg; cases hg)]; exact hg) (fun i' g hg => rowSize_same (alloc_get _ _ g (hi1.dom i' g hg).2.2.2))
   have key := joined_rd (μ := upd μ id none) (S := S) (w := w.drew) (R := (R.drop off).take len) (rows := rows) (cs := olds.toArray ++ vs.toArray ++ z) (s := T.siz e) hol.len hRl hrl
    (fun i row hi' j x hx => hm (hol.rd i row hi' j x hx) (hno row (List.mem_append_left _ (List.mem_of_mem_drop (List.mem_of_mem_take (List.mem_of_getElem? hi')))) x (List.mem_of_getElem? hx)))
    (fun i row hi' j x hx => hm (hvs.rd i row hi' j x hx) (hno row (List.mem_append_right _ (List.mem_of_getElem? hi')) x (List.mem_of_getElem? hx))) hvs.len (fun k hk => by
     rw [Array.getD_eq_getD_getElem?, List.getD_eq_getElem?_getD, Array.getElem?_append_left (by simpa using hk)]
     simp [List.append_toArray])
   exact fun i row hi' j x hx => hup (key i row hi' j x hx)
end
end Go.Eng
namespace Go.Eng
section
variable {P : Program} {T : Tab} {C : Ctx} {σ : St} {Ret : St → Prop} {w : World}
mutual
def frzM (id : Nat) (kvs : List (Int × AV)) : AV → AV
 | .mp i => if i = id then .rm kvs else .mp i
 | .ptr i size row off => if i = id then .any else .ptr i size row off
 | .osl i size off len => if i = id then .any else .osl i size off len
 | .exs i size off len cap => if i = id then .any else .exs i size off len cap
 | .agg cells => .agg (frzML id kvs cells)
 | .tup cells => .tup (frzML id kvs cells)
 | .fn f caps => .fn f (frzML id kvs caps)
 | .cnd c v => .cnd c (frzM id kvs v)
 | x => x
def frzML (id : Nat) (kvs : List (Int × AV)) : List AV → List AV
 | [] => []
 | x :: r => frzM id kvs x :: frzML id kvs r
end
theorem frzML_map (id : Nat) (kvs : List (Int × AV)) : ∀ l, frzML id kvs l = l.map (frzM id kvs)
 | [] => rfl
 | x :: r => by simp [frzML, frzML_map id kvs r]
def frzMB (id : Nat) (kvs : List (Int × AV)) : Blk → Blk
 | .cells e z R => .cells e z (R.map (frzML id kvs))
 | .map m => .map m
 | .iter m seen => .iter m seen
 | .cap j z N => if j = id then .cells 0 0 [] else .cap j z N
 | .pin j g z N => if j = id then .cells 0 0 [] else .pin j g z N
def frzMH (id : Nat) (kvs : List (Int × AV)) : List (Nat × Blk) → List (Nat × Blk)
 | [] => []
 | p :: r => if p.1 = id then frzMH id kvs r else (p.1, frzMB id kvs p.2) :: frzMH id kvs r
theorem hget_frzMH (id : Nat) (kvs : List (Int × AV)) (i : Nat) : ∀ H, hget (frzMH id kvs H) i = if i = id then none else (hget H i).map (frzMB id kvs)
 | [] => by simp [frzMH, hget]
 | (j, b) :: r => by
  have ih := hget_frzMH id kvs i r
  unfold frzMH
  by_cases h : j = id
  ·subst h
   rw [if_pos rfl, ih]
   by_cases h2 : i = j
   ·rw [if_pos h2, if_pos h2]
   ·rw [if_neg h2, if_neg h2]; simp only [hget]; rw [if_neg (fun h => h2 h.symm)]
  ·rw [if_neg h]
   simp only [hget]
   by_cases h2 : j = i
   ·subst h2; rw [if_pos rfl, if_neg h, if_pos rfl]; rfl
   ·rw [if_neg h2, if_neg h2]; exact ih
theorem RdP.frzM_eq {S : Nat → Prop} {v : Value} {x : AV} (h : RdP S w v x) (id : Nat) (kvs : List (Int × AV)) : frzM id kvs x = x := by
 have key : ∀ (l : List AV), (∀ (j : Nat) x, l[j]? = some x → frzM id kvs x = x) → frzML id kvs l = l := by
  intro l
  induction l with
  | nil => intro _; rfl
  | cons y r ih =>
   intro h
   simp only [frzML]
   rw [h 0 y rfl, ih (fun j x hj => h (j + 1) x (by simpa using hj))]
 induction h with
 | fn f vals caps hl hr ih => simp only [frzM]; rw [key caps ih]
 | agg cs cells hl hr ih => simp only [frzM]; rw [key cells ih]
 | _ => rfl
theorem frzM_list {id : Nat} {kvs : List (Int × AV)} {R' : Value → AV → Prop} {vals : Nat → Value} {cells : List AV} (h : ∀ j x, cells[j]? = some x → R' (vals j) (frzM id kvs x)) :
  ∀ j x, (frzML id kvs cells)[j]? = some x → R' (vals j) x := by
 intro j x hx
 rw [frzML_map, List.getElem?_map] at hx
 cases e : cells[j]? with
 | none => rw [e] at hx; cases hx
 | some y =>
  rw [e] at hx; simp only [Option.map_some, Option.some.injEq] at hx; subst hx
  exact h j y e
theorem inv_freezeM {l : List AV} {H : List (Nat × Blk)} {id : Nat} {kvs : List (Int × AV)} (hb : hget H id = some (.map kvs)) {μ : Nat → Option Nat} {S : Nat → Prop} {a : Act} (hi : Inv C μ S ⟨l, H⟩ a w) :
  Inv C (upd μ id none) (fun b => S b ∨ μ id = some b) ⟨l.map (frzM id kvs), frzMH id kvs H⟩ a w := by
 obtain ⟨g0, es0, clk0, vals0, b1, b2, b3, b4⟩ := hi.hp id _ hb
 let S2 : Nat → Prop := fun b => S b ∨ μ id = some b
 let μ2 : Nat → Option Nat := upd μ id none
 have hS : ∀ b, S b → S2 b := fun b h => .inl h
 have rd : ∀ {v : Value} {x : AV}, Rd μ S w v x → Rd μ2 S2 w v (frzM id kvs x) := by
  intro v x h
  induction h with
  | any v => exact .any v
  | pure h => rw [h.frzM_eq]; exact .pure (h.mono (SameOn.refl _ _) hS)
  | agg cs cells hl hr ih => simp only [frzM]; exact .agg cs _ (by rw [frzML_map, List.length_map]; exact hl) (frzM_list (R' := fun v x => Rd μ2 S2 w v x) (vals := fun j => cs.getD j undef) ih)
  | tup cs cells hl hr ih => simp only [frzM]; exact .tup cs _ (by rw [frzML_map, List.length_map]; exact hl) (frzM_list (R' := fun v x => Rd μ2 S2 w v x) (vals := fun j => cs.getD j undef) ih)
  | fn f vals cells hl hr ih => simp only [frzM]; exact .fn f vals _ (by rw [frzML_map, List.length_map]; exact hl) (frzM_list (R' := fun v x => Rd μ2 S2 w v x) (vals := fun j => vals.getD j undef) ih)
  | ptr i size row o g hg =>
   simp only [frzM]
   split
   ·exact .any _
   ·rename_i he
    exact .ptr i size row o g (by simp only [μ2, upd]; rw [if_neg he]; exact hg)
  | osl i size o len cap A hc h =>
   simp only [frzM]
   split
   ·exact .any _
   ·rename_i he
    refine .osl i size o len cap A hc ?_
    rcases h with h | ⟨g, e', n, h1, h2, h3, h4⟩
    ·exact .inl h
    ·exact .inr ⟨g, e', n, by simp only [μ2, upd]; rw [if_neg he]; exact h1, h2, h3, h4⟩
  | mp i g hg =>
   simp only [frzM]
   split
   ·rename_i he
    subst he
    rw [b1] at hg; injection hg with hg; subst hg
    exact .pure (.rm g0 es0 clk0 kvs vals0 (.inr b1) b2 b3 (fun p hp => (b4 p hp).mono (SameOn.refl _ _) hS))
   ·rename_i he
    exact .mp i g (by simp only [μ2, upd]; rw [if_neg he]; exact hg)
  | exs i size o len cap g e n hc hg hr hn =>
   simp only [frzM]
   split
   ·exact .any _
   ·rename_i he
    exact .exs i size o len cap g e n hc (by simp only [μ2, upd]; rw [if_neg he]; exact hg) hr hn
  | cndT v x h ih => exact .cndT v _ ih
  | cndF x => exact .cndF _
 have m2 : ∀ {i g}, μ2 i = some g → i ≠ id ∧ μ i = some g := fun {i g} hg => by
  simp only [μ2, upd] at hg
  split at hg
  ·cases hg
  ·exact ⟨by assumption, hg⟩
 refine ⟨by simp [hi.size], hi.defers, fun t x hx => ?_, fun i b hb' => ?_, fun i g hg => ?_, fun i j g h1 h2 => hi.inj i j g (m2 h1).2 (m2 h2).2, hi.frm, fun b hb' => ?_⟩
 ·simp only [List.getElem?_map] at hx
  cases e : l[t]? with
  | none => rw [e] at hx; cases hx
  | some y =>
   rw [e] at hx
   simp only [Option.map_some, Option.some.injEq] at hx
   subst hx
   exact rd (hi.tm t y e)
 ·simp only at hb'
  rw [hget_frzMH] at hb'
  split at hb'
  ·cases hb'
  ·rename_i he
   cases e1 : hget H i with
   | none => rw [e1] at hb'; cases hb'
   | some b0 =>
    rw [e1] at hb'
    simp only [Option.map_some, Option.some.injEq] at hb'
    subst hb'
    have hμ : μ2 i = μ i := by simp only [μ2, upd]; rw [if_neg he]
    have := hi.hp i b0 e1
    cases b0 with
    | cells e' z R =>
     rcases this with ⟨rfl, h2⟩ | ⟨g, c, h1, h2, h3, h4, h5⟩
     ·exact .inl ⟨rfl, hμ.trans h2⟩
     ·refine .inr ⟨g, c, hμ.trans h1, h2, by simpa using h3, fun row hrow => ?_, fun i' row hi' j x hx => ?_⟩
      ·obtain ⟨r, hr, rfl⟩ := List.mem_map.1 hrow
       rw [frzML_map, List.length_map]; exact h4 r hr
      ·rw [List.getElem?_map] at hi'
       cases e2 : R[i']? with
       | none => rw [e2] at hi'; cases hi'
       | some r =>
        rw [e2] at hi'; simp only [Option.map_some, Option.some.injEq] at hi'; subst hi'
        exact frzM_list (R' := fun v x => Rd μ2 S2 w v x) (vals := fun j => c.getD (i' * z + j) undef) (fun j x hx => rd (h5 i' r e2 j x hx)) j x hx
    | map kvs =>
     obtain ⟨g, es, clk, vals, h1, h2, h3, h4⟩ := this
     exact ⟨g, es, clk, vals, hμ.trans h1, h2, h3, fun p hp' => (h4 p hp').mono (SameOn.refl _ _) hS⟩
    | iter kvs seen =>
     obtain ⟨g, es, clk, vals, had, h1, h2, h4⟩ := this
     obtain ⟨m, k1, k2, k3⟩ := h2.lies
     exact ⟨g, es, clk, vals, had, hμ.trans h1, ⟨⟨m, k1, hS _ k2, k3⟩, h2.map, h2.last, h2.had⟩, fun p hp' => (h4 p hp').mono (SameOn.refl _ _) hS⟩
    | cap k z N =>
     obtain ⟨h1, g, e, h2, h3⟩ := this
     simp only [frzMB]
     split
     ·exact .inl ⟨rfl, hμ.trans h1⟩
     ·rename_i hk
      refine ⟨hμ.trans h1, g, e, ?_, h3⟩
      simp only [upd]
      rw [if_neg hk]; exact h2
    | pin k g z N =>
     obtain ⟨h1, h2, h3⟩ := this
     simp only [frzMB]
     split
     ·exact .inl ⟨rfl, hμ.trans h1⟩
     ·rename_i hk
      refine ⟨hμ.trans h1, ?_, h3⟩
      simp only [upd]
      rw [if_neg hk]; exact h2
 ·obtain ⟨k1, k2⟩ := m2 hg
  obtain ⟨⟨b, h1⟩, h2, h3, h4⟩ := hi.dom i g k2
  refine ⟨⟨frzMB id kvs b, ?_⟩, h2, ?_, h4⟩
  ·simp only at h1 ⊢
   rw [hget_frzMH, if_neg k1, h1]; rfl
  ·rintro (h | h)
   ·exact h3 h
   ·exact k1 (hi.inj _ _ _ k2 h)
 ·rcases hb' with h | h
  ·exact hi.sb b h
  ·obtain ⟨_, h2, _, h4⟩ := hi.dom id b h
   exact ⟨h4, .inr h2⟩
theorem cw_freezeM {k : List It} {l : List AV} {H : List (Nat × Blk)} (id : Nat) {kvs : List (Int × AV)} (hb : hget H id = some (.map kvs)) (h : Cw P C Ret k ⟨l.map (frzM id kvs), frzMH id kvs H⟩) : Cw P C Ret k ⟨l, H⟩ :=
 cw_le (fun _ _ ⟨_, _, hi⟩ => ⟨_, _, inv_freezeM hb hi⟩) h
attribute [go_sem] frzM frzML frzMB frzMH
theorem cw_range (hT : TabOK P T) {k : List It} {all : Array Oper} {o : Oper} {l : List Oper} {t : TypeId} {x : Operand} {d : Nat} (ho : o.op = .range t x) (hd : o.dst = some d) (hg : o.guard = none) {kt et : TypeId} (ht : T.und t = .map kt et) {kvs : List (Int × AV)}
  (hx : evS σ x = (True, .rm kvs)) (hf : hget σ.hp d = none) (h : Cw P C Ret (.ops all l :: k) ⟨σ.tm.set d (.ptr d 1 0 0), (d, .iter kvs []) :: σ.hp⟩) : Cw P C Ret (.ops all (o :: l) :: k) σ := by
 refine cw_step (by rw [hg]; rfl) (fun a w K Q ⟨μ, S, hi⟩ hK => ?_) h
 have hv := hi.evS x (by rw [hx]; trivial)
 rw [hx] at hv
 obtain ⟨g, es, clk, vals, hv', h1, h2, h3, h4⟩ := (Rd.inv_rm hv).inv_rm
 have hty : P.underlying t = some (.map kt et) := by have := hT.und t; rw [ht] at this; exact this
 have hax : a.eval x = .map (some g) := hv'
 have hrun : (execOp a.eval o).run P w = .ok (.value (.pointer (some ⟨w.heap.size, 0, none⟩))) (w.alloc (.mapIter (some g) clk #[] clk)) := by
  simp [execOp, ho, hax, run_range_map w t kt et g es clk hty h2]
 unfold Oper.wp
 rw [hrun]
 have hlt := (hi.sb g h1).1
 have hnew := hi.new d hf (.mapIter (some g) clk #[] clk) (.iter kvs []) ⟨w.heap.size, es, clk, vals, #[], by simp [upd], ⟨⟨g, alloc_new w _, h1, by rw [alloc_get w _ g hlt]; exact h2⟩, h3, fun k r h => (by cases h), fun e he k hk => by simp⟩,
  fun p hp => (h4 p hp).mono (fun b hb => alloc_get w _ b (hi.sb b hb).1) (fun _ h => h)⟩
 have hput := hnew.put o.dst (u := .pointer (some ⟨w.heap.size, 0, none⟩)) (x := .ptr d 1 0 0) (by
  have := Rd.ptr (μ := upd μ d (some w.heap.size)) (S := S) (w := w.alloc (.mapIter (some g) clk #[] clk)) d 1 0 0 w.heap.size (by simp [upd])
  simpa using this)
 rw [hd] at hput
 refine hK _ _ ⟨upd μ d (some w.heap.size), S, ?_⟩
 rw [hd]
 exact hput
theorem run_next_at {g bm since c0 : Nat} {seen : Array Nat} {es : Array MapEntry} {clock : Nat} (ty : TypeId) (hg : w.heap[g]? = some (.mapIter (some bm) since seen c0)) (hb : w.heap[bm]? = some (.map es clock)) (hold : ∀ x ∈ es.toList, x.born < since) (hsc : since ≤ c0) :
  ((leftOf es seen).size = 0 ∧ (Instr.next (.pointer (some ⟨g, 0, none⟩)) false ty).run P w = .ok (.tuple #[.bool false]) w) ∨
  ∃ e ∈ (leftOf es seen).toList, ∃ w1 : World, (w1 = w ∨ w1 = w.drew) ∧ (Instr.next (.pointer (some ⟨g, 0, none⟩)) false ty).run P w =
   ((setObj g (.mapIter (some bm) since (seen.push e.born) clock)).run P w1).andThen (fun _ w' => .ok (.tuple #[.bool true, e.key, e.val]) w') := by
 simp only [Instr.next, getObj, Sem.run_bind, Sem.run, hg, hb, Result.andThen, next_test_false seen es since c0 hold hsc, Bool.false_eq_true, if_false]
 unfold leftOf
 have hmem : ∀ x ∈ (Array.filter (fun e => !seen.contains e.born) es).toList, x.born < since := fun x hx => hold x (by simp at hx ⊢; exact hx.1)
 generalize Array.filter (fun e => !seen.contains e.born) es = L at hmem ⊢
 have e1 : L.filter (fun x => decide (x.born < since)) = L := Array.filter_eq_self.2 (fun x hx => by simpa using hmem x (by simpa using hx))
 have e2 : L.filter (fun x => decide (x.born ≥ since)) = #[] := by
  rw [Array.filter_eq_empty_iff]
  intro x hx
  have := hmem x (by simpa using hx)
  simp
  omega
 simp only [e1, e2, Array.append_empty]
 by_cases h0 : L.size = 0
 ·left
  have : L = #[] := Array.eq_empty_of_size_eq_zero h0
  subst this
  refine ⟨rfl, ?_⟩
  simp [choose, Sem.run, Question.forced]
 ·right
  have hne : L.isEmpty = false := by simp [Array.isEmpty, h0]
  simp only [hne, Bool.false_eq_true, if_false, Array.empty_append, Array.size_map]
  have hch : ∃ (j : Nat) (w1 : World), j < L.size ∧ (w1 = w ∨ w1 = w.drew) ∧ (choose (Question.mapNext L.size)).run P w = .ok j w1 := by
   by_cases hf : L.size ≤ 1
   ·exact ⟨0, w, by omega, .inl rfl, by simp [choose, Sem.run, Question.forced, hf]⟩
   ·exact ⟨_, w.drew, Nat.mod_lt _ (by omega), .inr rfl, by
     simp only [choose, Sem.run, Question.forced, decide_eq_true_eq, hf, if_false, Question.cut]
     rfl⟩
  obtain ⟨j, w1, hj, hw1, hrun⟩ := hch
  refine ⟨L[j], by simp, w1, hw1, ?_⟩
  simp only [hrun, Array.getElem?_map, Array.getElem?_eq_getElem hj, Option.map_some, Sem.run_bind, Result.andThen]
  rfl
theorem cw_next {k : List It} {all : Array Oper} {o : Oper} {l : List Oper} {x : Operand} {d : Nat} (ho : o.op = .next x false) (hg : o.guard = none) {kvs : List (Int × AV)} {seen : List Int}
  (hx : evS σ x = (True, .ptr d 1 0 0)) (hb : hget σ.hp d = some (.iter kvs seen)) (h1 : (∀ p, p ∈ kvs → p.1 ∈ seen) → Cw P C Ret (.ops all l :: k) (σ.put o.dst (.tup [.bool false])))
  (h2 : ∀ n v, (n, v) ∈ kvs → n ∉ seen → Cw P C Ret (.ops all l :: k) (St.put ⟨σ.tm, hset σ.hp d (.iter kvs (n :: seen))⟩ o.dst (.tup [.bool true, .int .i64 n, v]))) : Cw P C Ret (.ops all (o :: l) :: k) σ := by
 intro a w hrel
 show wpList P all _ (o :: l) a w
 unfold wpList
 obtain ⟨μ, S, hi⟩ := hrel
 rw [wanted_of hi (c := true) (by rw [hg]; rfl)]
 refine .inl ?_
 have hv := hi.evS x (by rw [hx]; trivial)
 rw [hx] at hv
 obtain ⟨g, hμ, hax⟩ := hv.inv_ptr
 obtain ⟨g', es, clk, vals, had, q1, q2, q3⟩ := hi.hp d _ hb
 rw [hμ] at q1; injection q1 with q1; subst q1
 obtain ⟨m, k1, k2, k3⟩ := q2.lies
 have hax' : a.eval x = .pointer (some ⟨g, 0, none⟩) := by simpa using hax
 have hcase := run_next_at (P := P) o.type k1 k3 (fun e he => q2.map.born e he) (Nat.le_refl _)
 unfold Oper.wp
 rcases hcase with ⟨c1, c2⟩ | ⟨e, c1, w1, c2, c3⟩
 ·have hrun : (execOp a.eval o).run P w = .ok (.value (.tuple #[.bool false])) w := by
   simp [execOp, ho, hax', c2]
  rw [hrun]
  refine h1 (fun p hp => ?_) _ _ ⟨μ, S, hi.put o.dst (.tup _ _ rfl fun j y hy => ?_)⟩
  ·obtain ⟨e, he, hk⟩ := q2.map.has p hp
   refine (q2.had e he p.1 hk).1 ?_
   cases hc : had.contains e.born with
   | true => rfl
   | false =>
    have : e ∈ (leftOf es had).toList := by unfold leftOf; simp at he hc ⊢; exact ⟨he, by simpa using hc⟩
    rw [Array.eq_empty_of_size_eq_zero c1] at this
    simp at this
  ·match j, hy with
   | 0, hy => injection hy with hy; subst hy; exact .pure (.bool false)
   | j + 1, hy => simp at hy
 ·have he : e ∈ es.toList ∧ had.contains e.born = false := by unfold leftOf at c1; simpa using c1
  obtain ⟨n, v, e1, e2, e3⟩ := q2.map.key e he.1
  have hn : n ∉ seen := fun hm => by rw [(q2.had e he.1 n e1).2 hm] at he; cases he.2
  have hi1 : Inv C μ S σ a w1 := by
   rcases c2 with rfl | rfl
   ·exact hi
   ·exact hi.drew
  have hh1 : w1.heap = w.heap := by rcases c2 with rfl | rfl <;> rfl
  have hw1 : w1.heap[g]? = some (.mapIter (some m) clk had clk) := by rw [hh1]; exact k1
  obtain ⟨w', r1, r2, r3, r4, r5, r6, r7⟩ := run_setObj (P := P) (o := .mapIter (some m) clk (had.push e.born) clk) hw1 (fun _ _ _ h => nomatch h)
  have hrun : (execOp a.eval o).run P w = .ok (.value (.tuple #[.bool true, e.key, e.val])) w' := by
   rw [r1] at c3
   simp [execOp, ho, hax', c3]
  rw [hrun]
  have hS : ¬ S g := (hi.dom d g hμ).2.2.1
  have hw : SameOn S w w' := fun b hb => by rw [r6 b (by rintro rfl; exact hS hb), hh1]
  have hmg : m ≠ g := by rintro rfl; exact hS k2
  have hnd : (es.toList.map (·.key)).Nodup := q2.map.once
  have hblk : BlkOK μ S w' d (.iter kvs (n :: seen)) := by
   refine ⟨g, es, clk, vals, had.push e.born, hμ, ⟨⟨m, r7, k2, by rw [r6 m hmg, hh1]; exact k3⟩, q2.map, fun k' r' hkr => ?_, fun e' he' k' hk' => ?_⟩, fun p hp => (q3 p hp).mono hw (fun _ h => h)⟩
   ·injection hkr with h1 h2
    subst h1
    exact ⟨e, he.1, e1, by simp⟩
   ·rw [List.mem_cons]
    have h0 := q2.had e' he' k' hk'
    have hc : (had.push e.born).contains e'.born = (had.contains e'.born || e'.born == e.born) := by
     rw [Bool.eq_iff_iff]; simp
    rw [hc, Bool.or_eq_true, h0, beq_iff_eq]
    constructor
    ·rintro (h | h)
     ·exact .inr h
     ·left
      -- one stamp, one entry
      have : e' = e := by
       have hb := q2.map.nodup
       obtain ⟨i, hi⟩ := List.getElem?_of_mem he'
       obtain ⟨j, hj⟩ := List.getElem?_of_mem he.1
       have h1 : (es.toList.map (·.born))[i]? = some e.born := by rw [List.getElem?_map, hi, ← h]; rfl
       have h2 : (es.toList.map (·.born))[j]? = some e.born := by rw [List.getElem?_map, hj]; rfl
       have := nodup_idx hb h1 h2
       subst this
       rw [hi] at hj; injection hj
      subst this
      rw [e1] at hk'
      injection hk' with _ hk'
      exact hk'.symm
    ·rintro (h | h)
     ·right
      subst h
      have : e' = e := by
       obtain ⟨i, hi⟩ := List.getElem?_of_mem he'
       obtain ⟨j, hj⟩ := List.getElem?_of_mem he.1
       have h1 : (es.toList.map (·.key))[i]? = some (.int .i64 k') := by rw [List.getElem?_map, hi, ← hk']; rfl
       have h2 : (es.toList.map (·.key))[j]? = some (.int .i64 k') := by rw [List.getElem?_map, hj, ← e1]; rfl
       have := nodup_idx hnd h1 h2
       subst this
       rw [hi] at hj; injection hj
      rw [this]
     ·exact .inl h
  have hi2 := hi1.write d g hμ r2 r3 r4 r5 r6 (by simp [rowSize, r7, hw1]) _ hblk
  refine h2 n v e2 hn _ _ ⟨μ, S, Inv.put hi2 o.dst (.tup _ _ rfl fun j y hy => ?_)⟩
  match j, hy with
  | 0, hy => injection hy with hy; subst hy; exact .pure (.bool true)
  | 1, hy =>
   injection hy with hy; subst hy
   show Rd μ S w' e.key (.int .i64 n)
   rw [e1]; exact .pure (.int .i64 n)
  | 2, hy =>
   injection hy with hy; subst hy
   show Rd μ S w' e.val v
   rw [e3]; exact .pure ((q3 (n, v) e2).mono hw (fun _ h => h))
  | j + 3, hy => simp at hy
theorem cw_entry {k : List It} {all : Array Oper} {o : Oper} {l : List Oper} {x : Operand} {d : Nat} (ho : o.op = .entry x) (hg : o.guard = none) {kvs : List (Int × AV)} {n : Int} {seen : List Int} {v : AV}
  (hx : evS σ x = (True, .ptr d 1 0 0)) (hb : hget σ.hp d = some (.iter kvs (n :: seen))) (hv : (n, v) ∈ kvs) (h : Cw P C Ret (.ops all l :: k) (σ.put o.dst (.tup [.int .i64 n, v]))) : Cw P C Ret (.ops all (o :: l) :: k) σ := by
 refine cw_step (by rw [hg]; rfl) (fun a w K Q ⟨μ, S, hi⟩ hK => ?_) h
 have hvx := hi.evS x (by rw [hx]; trivial)
 rw [hx] at hvx
 obtain ⟨g, hμ, hax⟩ := hvx.inv_ptr
 obtain ⟨g', es, clk, vals, had, q1, q2, q3⟩ := hi.hp d _ hb
 rw [hμ] at q1; injection q1 with q1; subst q1
 obtain ⟨m, k1, k2, k3⟩ := q2.lies
 have hax' : a.eval x = .pointer (some ⟨g, 0, none⟩) := by simpa using hax
 obtain ⟨e, he, hk, hl⟩ := q2.last n seen rfl
 have hf : es.find? (·.born == e.born) = some e := by rw [← Array.find?_toList]; exact find_born e es.toList q2.map.nodup he
 have hrun : (execOp a.eval o).run P w = .ok (.value (.tuple #[e.key, e.val])) w := by
  have h0 : (Instr.entry (.pointer (some ⟨g, 0, none⟩))).run P w = .ok (.tuple #[e.key, e.val]) w := by
   simp only [Instr.entry, getObj, Sem.run_bind, Sem.run, k1, k3, Result.andThen, hl, bne_self_eq_false, Bool.false_eq_true, if_false, hf]
   rfl
  simp [execOp, ho, hax', h0]
 unfold Oper.wp
 rw [hrun]
 obtain ⟨n', v', e1, e2, e3⟩ := q2.map.key e he
 rw [hk] at e1; injection e1 with _ e1; subst e1
 have hvv : v' = v := by
  have h1 := mget_of_mem q2.map.rise e2
  have h2 := mget_of_mem q2.map.rise hv
  rw [h1] at h2; injection h2
 subst hvv
 refine hK _ _ ⟨μ, S, hi.put o.dst (.tup _ _ rfl fun j y hy => ?_)⟩
 match j, hy with
 | 0, hy =>
  injection hy with hy; subst hy
  show Rd μ S w e.key (.int .i64 n)
  rw [hk]; exact .pure (.int .i64 n)
 | 1, hy =>
  injection hy with hy; subst hy
  show Rd μ S w e.val v'
  rw [e3]; exact .pure (q3 (n, v') e2)
 | j + 2, hy => simp at hy
end
end Go.Eng
namespace Go.Eng
section
variable {P : Program} {T : Tab} {C : Ctx} {σ σ' : St} {Ret : St → Prop}
section
variable {k k' : List It} {p : Prop}
theorem wG (hT : TabOK P T) (hk : Cw P C Ret k' σ') (h : go T 99 k σ = some (p, k', σ') := by simp only [go_sem]; try exact rfl) (hp : p := by simp [go_sem]) : Cw P C Ret k σ := cw_go hT 99 h hp hk
theorem wGq (hT : TabOK P T) (hp : p) (hk : Cw P C Ret k' σ') (h : go T 99 k σ = some (p, k', σ') := by simp only [go_sem]; try exact rfl) : Cw P C Ret k σ := cw_go hT 99 h hp hk
theorem wR (hk : Cw P C Ret k' σ) (h : goR 99 k = some k' := by simp only [go_sem]; try exact rfl) : Cw P C Ret k σ := cw_goR 99 h hk
variable {c : Operand} {x y : Code} {b : Bool}
theorem wD (ht : b = true → Cw P C Ret (.code x :: k) σ) (hf : b = false → Cw P C Ret (.code y :: k) σ) (h : evS σ c = (p, .bool b) := by simp only [go_sem]; try exact rfl) (hp : p := by trivial) : Cw P C Ret (.code (.cond c x y) :: k) σ := cw_cond h hp ht hf
theorem wDT (h : evS σ c = (p, .bool b) := by simp only [go_sem]; try exact rfl) (hp : p := by trivial) (hb : b = true) (hk : Cw P C Ret (.code x :: k) σ) : Cw P C Ret (.code (.cond c x y) :: k) σ := cw_condT h hp hb hk
theorem wDF (h : evS σ c = (p, .bool b) := by simp only [go_sem]; try exact rfl) (hp : p := by trivial) (hb : b = false) (hk : Cw P C Ret (.code y :: k) σ) : Cw P C Ret (.code (.cond c x y) :: k) σ := cw_condF h hp hb hk
theorem wN (hT : TabOK P T) (n : Nat) {all : Array Oper} {l l1 l2 : List Oper} (hk : Cw P C Ret (.ops all l2 :: k) σ') (h1 : l.take n = l1 := by simp only [go_sem]; exact rfl) (h2 : l.drop n = l2 := by simp only [go_sem]; exact rfl)
  (h : runL T all l1 σ = some (p, [], σ') := by simp only [go_sem]; try exact rfl) (hp : p := by simp [go_sem]) : Cw P C Ret (.ops all l :: k) σ := cw_runN hT n h1 h2 h hp hk
theorem wNq (hT : TabOK P T) (n : Nat) {all : Array Oper} {l l1 l2 : List Oper} (hp : p) (hk : Cw P C Ret (.ops all l2 :: k) σ') (h1 : l.take n = l1 := by simp only [go_sem]; exact rfl) (h2 : l.drop n = l2 := by simp only [go_sem]; exact rfl)
  (h : runL T all l1 σ = some (p, [], σ') := by simp only [go_sem]; try exact rfl) : Cw P C Ret (.ops all l :: k) σ := cw_runN hT n h1 h2 h hp hk
variable {all : Array Oper} {o : Oper} {l : List Oper} {args : Array Operand} {ats : Array TypeId} {f : FuncId} {fn : Func} {xs : List AV} {r : AV}
theorem wC (F : P.funcs[f]? = some fn) (ho : o.op = .call { callee := .value c, args, argTypes := ats } := by rfl) (hg : o.guard = none := by rfl) (h : callArgs σ c args.toList = some (p, f, xs) := by simp only [go_sem]; try exact rfl) (hp : p := by simp [go_sem]) (c1 : (fn.name == "runtime.NumGoroutine") = false := by kernel_rfl) (c2 : fn.body.isSome = true := by rfl) (hx : refsL xs = [] := by simp [go_sem]) (hf : FnOK P f xs [] fun r' _ => r' = r) (hr : refs r = [] := by simp [go_sem]) (ha : σ.put o.dst r = σ' := by simp only [go_sem]; exact rfl) (hk : Cw P C Ret (.ops all l :: k) σ') : Cw P C Ret (.ops all (o :: l) :: k) σ := cw_call ho hg h hp ⟨fn, F, c1, c2⟩ hx hf hr ha hk
theorem wCC {b : Bool} (F : P.funcs[f]? = some fn) (ho : o.op = .call { callee := .value c, args, argTypes := ats } := by rfl) (hg : guardOf all σ o.guard = some b := by simp only [go_sem]; try exact rfl) (h : callArgs σ c args.toList = some (p, f, xs) := by simp only [go_sem]; try exact rfl) (hp : b = true → p := by simp [go_sem]) (c1 : (fn.name == "runtime.NumGoroutine") = false := by kernel_rfl) (c2 : fn.body.isSome = true := by rfl) (hx : refsL xs = [] := by simp [go_sem]) (hf : b = true → FnOK P f xs [] fun r' _ => r' = r) (hr : refs r = [] := by simp [go_sem]) (ha : σ.put o.dst (.cnd b r) = σ' := by simp only [go_sem]; exact rfl) (hk : Cw P C Ret (.ops all l :: k) σ') : Cw P C Ret (.ops all (o :: l) :: k) σ := cw_callC ho hg h hp ⟨fn, F, c1, c2⟩ hx hf hr ha hk
theorem wV {q : Prop} {ys : List AV} (F : P.funcs[f]? = some fn) (ho : o.op = .call { callee := .value c, args, argTypes := ats } := by rfl) (hg : o.guard = none := by rfl) (h : callArgs σ c args.toList = some (p, f, xs) := by simp only [go_sem]; try exact rfl) (hp : p := by simp [go_sem]) (hv : viewL σ.hp xs = some (q, ys) := by simp only [go_sem]; try exact rfl) (hq : q := by simp [go_sem]) (c1 : (fn.name == "runtime.NumGoroutine") = false := by kernel_rfl) (c2 : fn.body.isSome = true := by rfl) (hf : FnOK P f ys [] fun r' _ => r' = r) (hr : r.scalar = true := by simp [go_sem]) (ha : σ.put o.dst r = σ' := by simp only [go_sem]; exact rfl) (hk : Cw P C Ret (.ops all l :: k) σ') : Cw P C Ret (.ops all (o :: l) :: k) σ := cw_view ho hg h hp hv hq ⟨fn, F, c1, c2⟩ hf hr ha hk
theorem wCG (ids : List Nat) (off : Nat) {H K : List (Nat × Blk)} (F : P.funcs[f]? = some fn) (ho : o.op = .call { callee := .value c, args, argTypes := ats } := by rfl) (hg : o.guard = none := by rfl) (h : callArgs σ c args.toList = some (p, f, xs) := by simp only [go_sem]; try exact rfl) (hp : p := by simp [go_sem]) (c1 : (fn.name == "runtime.NumGoroutine") = false := by kernel_rfl) (c2 : fn.body.isSome = true := by rfl) (hH : sub ids σ.hp = H := by simp only [go_sem, Bool.false_or, Bool.or_true, Bool.true_or, if_true]; try exact rfl) (hf : FnOK P f xs H fun r' H' => r' = r ∧ ∀ id b, hget K id = some b → hget H' id = some b) (hck : (refsL xs).all ids.contains = true := by simp [go_sem]) (hc1 : (H.all fun p => (refsB p.2).all ids.contains) = true := by simp [go_sem]) (hc2 : ((del ids σ.hp).all fun p => (refsB p.2).all fun i => !ids.contains i) = true := by simp [go_sem]) (hc3 : closed K (refs r) = true := by simp only [go_sem]) (hc4 : (K.all fun p => (hget σ.hp (p.1 + off)).isNone) = true := by simp [go_sem]) (hτ : (⟨σ.tm.map (killL ids), renH off K ++ del ids σ.hp⟩ : St).put o.dst (ren off r) = σ' := by simp only [go_sem, Bool.false_or, Bool.or_true, Bool.true_or, Bool.or_false, ↓reduceIte]; exact rfl) (hk : Cw P C Ret (.ops all l :: k) σ') : Cw P C Ret (.ops all (o :: l) :: k) σ :=
 cw_callG ids off ho hg h hp ⟨fn, F, c1, c2⟩ hH hf hck hc1 hc2 hc3 hc4 hτ hk
theorem wTP (ids : List Nat) {H K : List (Nat × Blk)} (F : P.funcs[f]? = some fn) (ho : o.op = .call { callee := .value c, args, argTypes := ats } := by rfl) (h : callArgs σ c args.toList = some (p, f, xs) := by simp only [go_sem]; try exact rfl) (hp : p := by simp [go_sem]) (c1 : (fn.name == "runtime.NumGoroutine") = false := by kernel_rfl) (c2 : fn.body.isSome = true := by rfl) (hH : sub ids σ.hp = H := by simp only [go_sem, Bool.false_or, Bool.or_true, Bool.true_or, Bool.or_false, ↓reduceIte]; try exact rfl) (hck : ((refsL xs).all ids.contains && (refs r).all ids.contains && ids.all (fun i => decide (i < 5000) && (hget K i).isSome) && K.all (fun q => ids.contains q.1)) = true := by simp [go_sem]) (hnd : (K.map (·.1)).Nodup := by simp) (hpin : (ids.all fun i => match hget H i with | some b => pinnable b | none => false) = true := by simp [go_sem]) (hc1 : (H.all fun q => (refsB q.2).all ids.contains) = true := by simp [go_sem]) (hc2 : (K.all fun q => (refsB q.2).all ids.contains) = true := by simp [go_sem]) (hf : ∀ G Y N : Nat → Nat, FnOK P f xs (H ++ pins ids G Y N) fun r' H' => r' = r ∧ ∀ i b, hget (K ++ pins ids G Y N) i = some b → hget H' i = some b) (hτ : (⟨σ.tm, hsetAll σ.hp K⟩ : St).put o.dst r = σ' := by simp only [go_sem, Bool.false_or, Bool.or_true, Bool.true_or, Bool.or_false, ↓reduceIte]; exact rfl) : Trip P C o σ σ' := trip_callP ho h hp ⟨fn, F, c1, c2⟩ ids hH hck hnd hpin hc1 hc2 hf hτ
theorem wP (ids : List Nat) {H K : List (Nat × Blk)} (F : P.funcs[f]? = some fn) (hg : guardOf all σ o.guard = some true := by rfl) (ho : o.op = .call { callee := .value c, args, argTypes := ats } := by rfl) (h : callArgs σ c args.toList = some (p, f, xs) := by simp only [go_sem]; try exact rfl) (hp : p := by simp [go_sem]) (c1 : (fn.name == "runtime.NumGoroutine") = false := by kernel_rfl) (c2 : fn.body.isSome = true := by rfl) (hH : sub ids σ.hp = H := by simp only [go_sem, Bool.false_or, Bool.or_true, Bool.true_or, Bool.or_false, ↓reduceIte]; try exact rfl) (hck : ((refsL xs).all ids.contains && (refs r).all ids.contains && ids.all (fun i => decide (i < 5000) && (hget K i).isSome) && K.all (fun q => ids.contains q.1)) = true := by simp [go_sem]) (hnd : (K.map (·.1)).Nodup := by simp) (hpin : (ids.all fun i => match hget H i with | some b => pinnable b | none => false) = true := by simp [go_sem]) (hc1 : (H.all fun q => (refsB q.2).all ids.contains) = true := by simp [go_sem]) (hc2 : (K.all fun q => (refsB q.2).all ids.contains) = true := by simp [go_sem]) (hf : ∀ G Y N : Nat → Nat, FnOK P f xs (H ++ pins ids G Y N) fun r' H' => r' = r ∧ ∀ i b, hget (K ++ pins ids G Y N) i = some b → hget H' i = some b) (hτ : (⟨σ.tm, hsetAll σ.hp K⟩ : St).put o.dst r = σ' := by simp only [go_sem, Bool.false_or, Bool.or_true, Bool.true_or, Bool.or_false, ↓reduceIte]; exact rfl) (hk : Cw P C Ret (.ops all l :: k) σ') : Cw P C Ret (.ops all (o :: l) :: k) σ := cw_step hg (trip_callP ho h hp ⟨fn, F, c1, c2⟩ ids hH hck hnd hpin hc1 hc2 hf hτ) hk
end
section
variable {ops : Array Oper} {Q : Exit → Go.Act → World → Prop} {k n : Nat} {acc : Skel} {o : Oper} {l l' : List Oper} {p : Prop} {ps : List Sp} {sk : Skel} {s1 : List Loc × List Loc}
theorem sN (hT : TabOK P T) (m : Nat) {l1 l2 : List Oper} (hk : SegFrom P C ops Q k n (acc ++ sk) l2 σ') (h1 : l.take m = l1 := by simp only [go_sem]; exact rfl) (h2 : l.drop m = l2 := by simp only [go_sem]; exact rfl)
  (h : runD T ops l1 σ = some (p, ps, [], σ') := by simp only [go_sem]; try exact rfl) (hp : p := by simp [go_sem]) (hs : skel ps = sk := by simp only [go_sem]; exact rfl) : SegFrom P C ops Q k n acc l σ := seg_runN hT m h1 h2 h hp hs hk
theorem sNq (hT : TabOK P T) (m : Nat) {l1 l2 : List Oper} (hp : p) (hk : SegFrom P C ops Q k n (acc ++ sk) l2 σ') (h1 : l.take m = l1 := by simp only [go_sem]; exact rfl) (h2 : l.drop m = l2 := by simp only [go_sem]; exact rfl)
  (h : runD T ops l1 σ = some (p, ps, [], σ') := by simp only [go_sem]; try exact rfl) (hs : skel ps = sk := by simp only [go_sem]; exact rfl) : SegFrom P C ops Q k n acc l σ := seg_runN hT m h1 h2 h hp hs hk
theorem sG (hT : TabOK P T) (hk : SegFrom P C ops Q k n (acc ++ sk) l' σ') (h : runD T ops l σ = some (p, ps, l', σ') := by simp only [go_sem]; try exact rfl) (hp : p := by simp [go_sem]) (hs : skel ps = sk := by simp only [go_sem]; exact rfl) : SegFrom P C ops Q k n acc l σ := seg_run hT h hp hs hk
theorem sE {j : Nat} (h : DrawOK P C ops Q j σ) (hc : (segOK ops k acc && dstOK n acc) = true := by kernel_rfl) (hj : k + acc.length = j := by simp only [go_sem]; exact rfl) : SegFrom P C ops Q k n acc l σ := seg_end hc hj h
theorem sS (hk : SegFrom P C ops Q k n (acc ++ [s1]) l σ') (hg : guardOf ops σ o.guard = some false := by simp only [go_sem]; try exact rfl) (hs : ((⟨o.dst, .cnd false .any, [], locsG ops o.guard ++ []⟩ : Sp).wr, locsG ops o.guard) = s1 := by simp only [go_sem]; exact rfl)
  (ha : σ.put o.dst (.cnd false .any) = σ' := by simp only [go_sem]; exact rfl) : SegFrom P C ops Q k n acc (o :: l) σ := seg_skip .any hg hs ha hk
theorem sSB (hk : SegFrom P C ops Q k n (acc ++ [s1]) l σ') (hg : guardOf ops σ o.guard = some false := by simp only [go_sem]; try exact rfl) (hs : ((⟨o.dst, .cnd false (.bool false), [], locsG ops o.guard ++ []⟩ : Sp).wr, locsG ops o.guard) = s1 := by simp only [go_sem]; exact rfl)
  (ha : σ.put o.dst (.cnd false (.bool false)) = σ' := by simp only [go_sem]; exact rfl) : SegFrom P C ops Q k n acc (o :: l) σ := seg_skip (.bool false) hg hs ha hk
variable {c : Operand} {args : Array Operand} {ats : Array TypeId} {f : FuncId} {fn : Func} {xs : List AV} {r : AV}
theorem sC (F : P.funcs[f]? = some fn) (ho : o.op = .call { callee := .value c, args, argTypes := ats } := by rfl) (hg : o.guard = none := by rfl) (h : callArgs σ c args.toList = some (p, f, xs) := by simp only [go_sem]; try exact rfl) (hp : p := by simp [go_sem]) (c1 : (fn.name == "runtime.NumGoroutine") = false := by kernel_rfl) (c2 : fn.body.isSome = true := by rfl) (hx : refsL xs = [] := by simp [go_sem]) (hf : FnOK P f xs [] fun r' _ => r' = r) (hr : refs r = [] := by simp [go_sem]) (hs : ((spCall ops σ o c args.toList r).wr, (spCall ops σ o c args.toList r).rd) = s1 := by simp only [go_sem]; exact rfl) (ha : σ.put o.dst r = σ' := by simp only [go_sem]; exact rfl) (hk : SegFrom P C ops Q k n (acc ++ [s1]) l σ') : SegFrom P C ops Q k n acc (o :: l) σ := seg_call ho hg h hp ⟨fn, F, c1, c2⟩ hx hf hr hs ha hk
theorem sCC {b : Bool} (F : P.funcs[f]? = some fn) (ho : o.op = .call { callee := .value c, args, argTypes := ats } := by rfl) (hg : guardOf ops σ o.guard = some b := by simp only [go_sem]; try exact rfl) (h : callArgs σ c args.toList = some (p, f, xs) := by simp only [go_sem]; try exact rfl) (hp : b = true → p := by simp [go_sem]) (c1 : (fn.name == "runtime.NumGoroutine") = false := by kernel_rfl) (c2 : fn.body.isSome = true := by rfl) (hx : refsL xs = [] := by simp [go_sem]) (hf : b = true → FnOK P f xs [] fun r' _ => r' = r) (hr : refs r = [] := by simp [go_sem]) (hs : ((spCall ops σ o c args.toList (.cnd b r)).wr, (spCall ops σ o c args.toList (.cnd b r)).rd) = s1 := by simp only [go_sem]; exact rfl) (ha : σ.put o.dst (.cnd b r) = σ' := by simp only [go_sem]; exact rfl) (hk : SegFrom P C ops Q k n (acc ++ [s1]) l σ') : SegFrom P C ops Q k n acc (o :: l) σ := seg_callC ho hg h hp ⟨fn, F, c1, c2⟩ hx hf hr hs ha hk
theorem sW (hT : TabOK P T) {d : Nat} {b : Blk} {x : AV} (hk : SegFrom P C ops Q k n (acc ++ [s1]) l σ') (hd : o.dst = some d := by rfl) (hg : guardOf ops σ o.guard = some true := by simp only [go_sem]; try exact rfl) (h : newOp T σ d o.op = some (p, b, x) := by simp only [go_sem]; try exact rfl) (hp : p := by simp [go_sem])
  (hf : hget σ.hp d = none := by simp only [go_sem]; try exact rfl) (hs : ([Loc.tm d, Loc.blk d], locsG ops o.guard ++ locsL σ o.op.operands.toList) = s1 := by simp only [go_sem]; exact rfl) (ha : St.put ⟨σ.tm, (d, b) :: σ.hp⟩ (some d) x = σ' := by simp only [go_sem]; exact rfl) :
  SegFrom P C ops Q k n acc (o :: l) σ := seg_new hT hd hg h hp hf hs ha hk
theorem sB (hT : TabOK P T) {t : TypeId} {parts : Array (Nat × Operand)} {b : Bool} {x y : AV} (hk : SegFrom P C ops Q k n (acc ++ [s1]) l σ') (ho : o.op = .build t parts := by rfl) (hg : guardOf ops σ o.guard = some b := by simp only [go_sem]; try exact rfl) (h : buildAV T σ t parts.toList = some (p, x) := by simp only [go_sem]; try exact rfl)
  (hp : b = true → p := by simp [go_sem]) (hy : (bif b then x else .cnd false x) = y := by simp only [go_sem, cond_true, cond_false]; exact rfl) (hs : ((Sp.mk o.dst y [] (locsG ops o.guard ++ locsL σ (parts.toList.map (·.2)))).wr, locsG ops o.guard ++ locsL σ (parts.toList.map (·.2))) = s1 := by simp only [go_sem]; exact rfl)
  (ha : σ.put o.dst y = σ' := by simp only [go_sem]; exact rfl) : SegFrom P C ops Q k n acc (o :: l) σ := seg_build hT ho hg h hp hy hs ha hk
theorem sT (hT : TabOK P T) {t : TypeId} {x y : Operand} {id size row off : Nat} {q : Prop} {v : AV} {H : List (Nat × Blk)} {b : Blk} (hk : SegFrom P C ops Q k n (acc ++ [s1]) l σ') (ho : o.op = .store t x y := by rfl) (hd : o.dst = none := by rfl) (hg : guardOf ops σ o.guard = some true := by simp only [go_sem]; try exact rfl)
  (hx : evS σ x = (True, .ptr id size row off) := by simp only [go_sem]; try exact rfl) (hy : evS σ y = (q, v) := by simp only [go_sem]; try exact rfl) (hq : q := by first | trivial | simp [go_sem]) (h : storeOp T σ t (.ptr id size row off) v = some (p, H) := by simp only [go_sem]; exact rfl) (hp : p := by simp [go_sem])
  (hH : hget H id = some b := by simp only [go_sem]; exact rfl) (hs : ([Loc.blk id], locsG ops o.guard ++ (locsL σ [x, y] ++ [Loc.blk id])) = s1 := by simp only [go_sem]; exact rfl) (ha : (⟨σ.tm, hset σ.hp id b⟩ : St) = σ' := by simp only [go_sem]; exact rfl) : SegFrom P C ops Q k n acc (o :: l) σ :=
 seg_store hT ho hd hg hx hy hq h hp hH hs ha hk
theorem dS (hT : TabOK P T) {j : Nat} (hk : DrawOK P C ops Q j σ') (ho : ops[k]? = some o := by rfl) (hc : Region.ready .any ops (doneTo ops.size k) = [k] := by kernel_rfl) (hg : o.guard = none := by rfl) (h : stepOp T σ o.dst o.op = some (p, σ') := by simp only [go_sem]; try exact rfl) (hp : p := by simp [go_sem]) (hj : k + 1 = j := by rfl) :
  DrawOK P C ops Q k σ := draw_step hT ho hc hg h hp hj hk
theorem dSq (hT : TabOK P T) {j : Nat} (hp : p) (hk : DrawOK P C ops Q j σ') (ho : ops[k]? = some o := by rfl) (hc : Region.ready .any ops (doneTo ops.size k) = [k] := by kernel_rfl) (hg : o.guard = none := by rfl) (h : stepOp T σ o.dst o.op = some (p, σ') := by simp only [go_sem]; try exact rfl) (hj : k + 1 = j := by rfl) :
  DrawOK P C ops Q k σ := draw_step hT ho hc hg h hp hj hk
end
end
section
variable {P : Program} {C : Ctx} {σ : St}
theorem wT {k : List It} {p : Prop} {r : AV} {res : St → Option (Prop × AV)} {post : AV → St → Prop} (hk : post r σ) (h : res σ = some (p, r) := by simp only [go_sem]; try exact rfl) (hp : p := by simp [go_sem]) : Cw P C (fun s => ∃ p r, res s = some (p, r) ∧ p ∧ ∃ r', wk r r' ∧ post r' s) (.code .ret :: k) σ := cw_ret ⟨p, r, h, hp, r, .inr (.inl rfl), hk⟩
theorem wU {k : List It} {p : Prop} {r : AV} {res : St → Option (Prop × AV)} {A B : AV → St → Prop} (ha : A r σ) (hb : B r σ) (h : res σ = some (p, r) := by simp only [go_sem]; try exact rfl) (hp : p := by simp [go_sem]) : Cw P C (fun s => ∃ p r, res s = some (p, r) ∧ p ∧ ∃ r', wk r r' ∧ (A r' s ∧ B r' s)) (.code .ret :: k) σ := cw_ret ⟨p, r, h, hp, r, .inr (.inl rfl), ha, hb⟩
theorem wKd {Ret : St → Prop} {k : List It} {ops : Array Oper} {n : Nat} (h : Cw P C Ret k σ) (hn : n = ops.size := by kernel_rfl) : DrawOK P C ops (aft (RetOf C Ret) (sem P C (RetOf C Ret) k)) n σ := draw_close hn h
end
theorem gD (n : Nat) : n - 0 = n := rfl
theorem gE {α : Type _} (l : List α) : l.drop 0 = l := rfl
theorem gF {α β : Type _} (l : List α) (f : α → β) : (l.map f).length = l.length := List.length_map f
theorem gG (n : Nat) : 0 + n = n := Nat.zero_add n
theorem wi1 {i : Nat} (h : i ≤ 2000000000000) : IntKind.i64.wrap ((i : Int) + 1) = ((i + 1 : Nat) : Int) := by rw [Eng.wrap_small (by omega) (by omega)]; rfl
theorem gA {α : Type _} {xs : List α} {i : Nat} (h : i < xs.toArray.size) : xs.toArray[i] = xs[i]'(by simpa using h) := List.getElem_toArray h
theorem gB {α : Type _} (a : α) (l : List α) (i : Nat) (h : i + 1 < (a :: l).length) : (a :: l)[i + 1] = l[i]'(Nat.lt_of_succ_lt_succ h) := rfl
theorem gC {α : Type _} (a : α) (l : List α) (h : 0 < (a :: l).length) : (a :: l)[0] = a := rfl
end Go.Eng
