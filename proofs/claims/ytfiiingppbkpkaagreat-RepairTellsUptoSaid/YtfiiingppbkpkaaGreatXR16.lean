/- Texts of this claim, part 16: EngAR, RDo, Add, Add2, RAdd, RAdd2. No condition. -/
import Derived.Test.YtfiiingppbkpkaaGreatXR15
import Derived.Test.YtfiiingppbkpkaaGreatXR13
import Derived.Test.YtfiiingppbkpkaaGreatXR14
import Derived.Test.YtfiiingppbkpkaaGreatXR11
import Derived.Test.YtfiiingppbkpkaaGreatXR7
import Derived.Test.YtfiiingppbkpkaaGreatXR10
set_option maxRecDepth 10000
set_option maxHeartbeats 4000000
set_option linter.unusedSimpArgs false
set_option linter.unusedVariables false
namespace Go.Eng
section
variable {P : Program} {T : Tab} {C : Ctx} {σ σ' : St}
def Safe (Z : List (Nat × List Nat)) (s : St) : Prop := ∀ z,z ∈ Z → (∀ t,t ∉ z.2 → z.1 ∉ refs (s.tm.getD t .any)) ∧ ∀ b B,Yk s.hp b = some B → b ≠ z.1 → BlkFree z.1 B
def safeSp (Z : List (Nat × List Nat)) (p : Sp) : Prop := ∀ z,z ∈ Z → ((∃ t,p.dst = some t ∧ t ∈ z.2) ∨ z.1 ∉ refs p.val) ∧ ∀ b,b ∈ p.new → b.1 = z.1 ∨ BlkFree z.1 b.2
def RobZ (P : Program) (C : Ctx) (ops : Array Oper) (Z : List (Nat × List Nat)) (o : Oper) (e : Ef) (U : St) : Prop :=
 ∀ s,s.tm.length = U.tm.length → (∀ x,(x ∈ e.rd ∨ x ∈ e.wr) → AgreeAt U s x) → Safe Z s → TripG P C ops o s (e.app s)
def SegZ (P : Program) (C : Ctx) (ops : Array Oper) (Q : Exit → Go.Act → World → Prop) (k : Nat) (Z : List (Nat × List Nat)) (acc : Skel) (l : List Oper) (σ : St) : Prop :=
 Safe Z σ → ∃ l1 l2 es,l = l1 ++ l2 ∧ l1.length = es.length ∧ (∀ e,e ∈ es → EfOK e) ∧ (∀ m o e,l1[m]? = some o → es[m]? = some e → RobZ P C ops Z o e (efU es m σ)) ∧ (∀ i,i ≤ es.length → Safe Z (efU es i σ)) ∧
  segOK ops k (acc ++ skE es) = true ∧ DrawOK P C ops Q (k + acc.length + es.length) (efU es es.length σ)
theorem efU_cons (e : Ef) (es : List Ef) (i : Nat) (σ : St) : efU (e :: es) (i + 1) σ = efU es i (e.app σ) := by simp [efU]
theorem segz_add {ops : Array Oper} {Q : Exit → Go.Act → World → Prop} {k : Nat} {Z : List (Nat × List Nat)} {acc : Skel} {o : Oper} {l : List Oper} {e : Ef} (he : EfOK e) (hr : RobZ P C ops Z o e σ) (hs : Safe Z σ → Safe Z (e.app σ))
  (hk : SegZ P C ops Q k Z (acc ++ [(e.wr,e.rd)]) l (e.app σ)) : SegZ P C ops Q k Z acc (o :: l) σ := by
 intro h0
 obtain ⟨l1,l2,es,h1,h2,h3,h4,h5,h6,h7⟩ := hk (hs h0)
 refine ⟨o :: l1,l2,e :: es,by rw [h1]; rfl,by simp [h2],fun x hx => ?_,fun m o' e' ho' he' => ?_,fun i hi => ?_,?_,?_⟩
 ·rcases List.mem_cons.1 hx with rfl | hx
  ·exact he
  ·exact h3 x hx
 ·cases m with
  | zero =>
   simp only [List.getElem?_cons_zero,Option.some.injEq] at ho' he'
   subst ho' he'
   rw [efU_zero]; exact hr
  | succ m =>
   rw [efU_cons]
   exact h4 m o' e' (by simpa using ho') (by simpa using he')
 ·cases i with
  | zero => rw [efU_zero]; exact h0
  | succ i => rw [efU_cons]; exact h5 i (by simpa using hi)
 ·have : acc ++ skE (e :: es) = acc ++ [(e.wr,e.rd)] ++ skE es := by simp [skE]
  rw [this]; exact h6
 ·have : k + acc.length + (e :: es).length = k + (acc ++ [(e.wr,e.rd)]).length + es.length := by simp; omega
  rw [this,show (e :: es).length = es.length + 1 from rfl,efU_cons]
  exact h7
theorem segz_end {ops : Array Oper} {Q : Exit → Go.Act → World → Prop} {k : Nat} {Z : List (Nat × List Nat)} {acc : Skel} {l : List Oper} (hc : segOK ops k acc = true) {j : Nat} (hj : k + acc.length = j) (h : DrawOK P C ops Q j σ) : SegZ P C ops Q k Z acc l σ := by
 subst hj
 intro h0
 refine ⟨[],l,[],rfl,rfl,fun e he => (by cases he),fun m o e ho he => (by simp at ho),fun i hi => ?_,by simpa [skE] using hc,by simpa [efU] using h⟩
 rw [show i = 0 by simpa using hi,efU_zero]; exact h0
theorem segz_start {ops : Array Oper} {Q : Exit → Go.Act → World → Prop} {k : Nat} (Z : List (Nat × List Nat)) {l : List Oper} (hl : ops.toList.drop k = l) (hs : Safe Z σ) (h : SegZ P C ops Q k Z [] l σ) : DrawOK P C ops Q k σ := by
 subst hl
 obtain ⟨l1,l2,es,h1,h2,h3,h4,h5,h6,h7⟩ := h hs
 refine draw_ef (l := l1) (es := es) (by simpa using h6) h2 (fun i hi => ?_) h3 (fun m o e ho he s hlen hag hall => ?_) (by simpa using h7)
 ·rw [← Array.getElem?_toList,← List.getElem?_drop,h1,List.getElem?_append_left (by omega)]
 ·have hm : m < es.length := (List.getElem?_eq_some_iff.1 he).1
  refine h4 m o e ho he s (by rw [hlen,efU_len h3 σ m (by omega)]) hag fun z hz => ⟨fun t ht => ?_,fun b B hb hne => ?_⟩
  ·obtain ⟨i,hi,ha⟩ := hall (.tm t)
   have ha : s.tm.getD t .any = (efU es i σ).tm.getD t .any := ha
   rw [ha]; exact (h5 i hi z hz).1 t ht
  ·obtain ⟨i,hi,ha⟩ := hall (.blk b)
   have ha : Yk s.hp b = Yk (efU es i σ).hp b := ha
   rw [ha] at hb; exact (h5 i hi z hz).2 b B hb hne
def efS (p : Sp) : Ef := ⟨p.wr,p.rd,p.app⟩
theorem getD_set_tm (l : List AV) (t u : Nat) (v : AV) : (l.set t v).getD u .any = if t = u then (if t < l.length then v else .any) else l.getD u .any := by
 rw [List.getD_eq_getElem?_getD,List.getElem?_set]
 by_cases h : t = u
 ·subst h
  rw [if_pos rfl,if_pos rfl]
  split <;> rfl
 ·rw [if_neg h,if_neg h,List.getD_eq_getElem?_getD]
theorem efS_ok (p : Sp) : EfOK (efS p) := by
 have htm : ∀ s : St,(p.app s).tm = match p.dst with | some t => s.tm.set t p.val | none => s.tm := fun s => by unfold Sp.app St.put; cases p.dst <;> rfl
 have hhp : ∀ s : St,(p.app s).hp = p.new ++ s.hp := fun s => by unfold Sp.app; rw [St.put_hp]
 refine ⟨fun s => ?_,fun s x hx => ?_,fun s s' hl x hx => ?_⟩
 ·show (p.app s).tm.length = _
  rw [htm]; cases p.dst <;> simp
 ·cases x with
  | tm t =>
   show (p.app s).tm.getD t .any = s.tm.getD t .any
   rw [htm]
   cases e : p.dst with
   | none => rfl
   | some u =>
    show (s.tm.set u p.val).getD t .any = _
    rw [getD_set_tm,if_neg]
    rintro rfl
    exact hx (wr_tm e)
  | blk id =>
   show Yk (p.app s).hp id = Yk s.hp id
   rw [hhp,Za,if_neg]
   exact fun h => hx (wr_blk h)
 ·cases x with
  | tm t =>
   show (p.app s').tm.getD t .any = (p.app s).tm.getD t .any
   have hd : p.dst = some t := by
    have hx : Loc.tm t ∈ p.wr := hx
    unfold Sp.wr at hx
    rcases List.mem_append.1 hx with h | h
    ·cases e : p.dst with
     | none => rw [e] at h; cases h
     | some u => rw [e] at h; rw [List.mem_singleton] at h; injection h with h; rw [h]
    ·obtain ⟨b,_,hb⟩ := List.mem_map.1 h
     cases hb
   rw [htm,htm,hd]
   show (s'.tm.set t p.val).getD t .any = (s.tm.set t p.val).getD t .any
   rw [getD_set_tm,getD_set_tm,if_pos rfl,if_pos rfl,hl]
  | blk id =>
   show Yk (p.app s').hp id = Yk (p.app s).hp id
   have hb : ∃ b,b ∈ p.new ∧ b.1 = id := by
    have hx : Loc.blk id ∈ p.wr := hx
    unfold Sp.wr at hx
    rcases List.mem_append.1 hx with h | h
    ·cases e : p.dst with
     | none => rw [e] at h; cases h
     | some u => rw [e] at h; rw [List.mem_singleton] at h; cases h
    ·obtain ⟨b,hb,he⟩ := List.mem_map.1 h
     injection he with he
     exact ⟨b,hb,he⟩
   rw [hhp,hhp,Za,Za,if_pos hb,if_pos hb]
theorem safe_app {Z : List (Nat × List Nat)} {p : Sp} (hp : safeSp Z p) {s : St} (hs : Safe Z s) : Safe Z (p.app s) := fun z hz => by
 have htm : (p.app s).tm = match p.dst with | some t => s.tm.set t p.val | none => s.tm := by unfold Sp.app St.put; cases p.dst <;> rfl
 have hhp : (p.app s).hp = p.new ++ s.hp := by unfold Sp.app; rw [St.put_hp]
 obtain ⟨h1,h2⟩ := hp z hz
 refine ⟨fun t ht => ?_,fun b B hb hne => ?_⟩
 ·rw [htm]
  cases e : p.dst with
  | none => exact (hs z hz).1 t ht
  | some u =>
   show z.1 ∉ refs ((s.tm.set u p.val).getD t .any)
   rw [getD_set_tm]
   split
   ·rename_i hu
    subst hu
    split
    ·rcases h1 with ⟨v,hv,hv2⟩ | h1
     ·rw [e] at hv; injection hv with hv; subst hv; exact absurd hv2 ht
     ·exact h1
    ·simp [refs]
   ·exact (hs z hz).1 t ht
 ·rw [hhp,Za] at hb
  split at hb
  ·have := h2 (b,B) (hget_mem hb)
   rcases this with h | h
   ·exact absurd h hne
   ·exact h
  ·exact (hs z hz).2 b B hb hne
theorem robz_of {ops : Array Oper} {Z : List (Nat × List Nat)} {o : Oper} {p : Sp} (h : Rob P C ops o p σ) (hf : ∀ b,b ∈ p.new → Loc.blk b.1 ∉ p.rd → Yk σ.hp b.1 = none) : RobZ P C ops Z o (efS p) σ := fun s _ hag _ =>
 h s (fun x hx => hag x (.inl hx)) fun b hb hn => Eq.trans (show Yk s.hp b.1 = Yk σ.hp b.1 from hag (.blk b.1) (.inr (wr_blk ⟨b,hb,rfl⟩))) (hf b hb hn)
theorem segz_rob {ops : Array Oper} {Q : Exit → Go.Act → World → Prop} {k : Nat} {Z : List (Nat × List Nat)} {acc : Skel} {o : Oper} {l : List Oper} {p : Sp} (h : Rob P C ops o p σ) (hf : ∀ b,b ∈ p.new → Loc.blk b.1 ∉ p.rd → Yk σ.hp b.1 = none) (hz : safeSp Z p)
  {s1 : List Loc × List Loc} (hs : (p.wr,p.rd) = s1) (ha : p.app σ = σ') (hk : SegZ P C ops Q k Z (acc ++ [s1]) l σ') : SegZ P C ops Q k Z acc (o :: l) σ := by
 subst hs ha
 exact segz_add (e := efS p) (efS_ok p) (robz_of h hf) (safe_app hz) hk
theorem segz_chain {ops : Array Oper} {Q : Exit → Go.Act → World → Prop} {k : Nat} {Z : List (Nat × List Nat)} : ∀ {l1 : List Oper} {ps : List Sp} {acc : Skel} {l : List Oper} {σ : St},RobChain P C ops l1 ps σ → (∀ p,p ∈ ps → p.new = []) → (∀ p,p ∈ ps → safeSp Z p) →
  SegZ P C ops Q k Z (acc ++ skel ps) l (appAll ps σ) → SegZ P C ops Q k Z acc (l1 ++ l) σ
 | [],[],acc,l,σ,_,_,_,hk => by simpa [skel,appAll] using hk
 | o :: l1,p :: ps,acc,l,σ,hc,hn,hz,hk => by
  refine segz_rob hc.1 (fun b hb _ => by rw [hn p List.mem_cons_self] at hb; cases hb) (hz p List.mem_cons_self) rfl rfl ?_
  refine segz_chain hc.2 (fun q hq => hn q (List.mem_cons_of_mem _ hq)) (fun q hq => hz q (List.mem_cons_of_mem _ hq)) ?_
  have e : acc ++ [(p.wr,p.rd)] ++ skel ps = acc ++ skel (p :: ps) := by simp [skel]
  rw [e]; exact hk
 | [],_ :: _,_,_,_,h,_,_,_ => h.elim
 | _ :: _,[],_,_,_,h,_,_,_ => h.elim
theorem zN (hT : TabOK P T) (m : Nat) {ops : Array Oper} {Q : Exit → Go.Act → World → Prop} {k : Nat} {Z : List (Nat × List Nat)} {acc : Skel} {l l1 l2 : List Oper} {p : Prop} {ps : List Sp} {sk : Skel}
  (h1 : l.take m = l1 := by simp only [go_sem]; exact rfl) (h2 : l.drop m = l2 := by simp only [go_sem]; exact rfl) (h : runD T ops l1 σ = some (p,ps,[],σ') := by simp only [go_sem]; try exact rfl) (hp : p := by simp [go_sem]) (hs : skel ps = sk := by simp only [go_sem]; exact rfl)
  (hz : ∀ q,q ∈ ps → safeSp Z q := by simp [go_sem,safeSp]) (hk : SegZ P C ops Q k Z (acc ++ sk) l2 σ') : SegZ P C ops Q k Z acc l σ := by
 subst hs h1 h2
 obtain ⟨g1,g2,g3⟩ := runD_len h
 obtain ⟨q1,k1,k2⟩ := runD_sound (P := P) (C := C) hT ops (l.take m) σ h hp (l2 := []) (ps2 := []) trivial (by simp)
 simp only [List.append_nil] at k1 k2
 subst k1
 have := segz_chain (Z := Z) (Q := Q) (k := k) (acc := acc) (l := l.drop m) k2 (fun q hq => by
  obtain ⟨i,hi⟩ := List.getElem?_of_mem hq
  exact g3 i q hi) hz (by rw [g2]; exact hk)
 rwa [List.take_append_drop] at this
theorem zC {ops : Array Oper} {Q : Exit → Go.Act → World → Prop} {k : Nat} {Z : List (Nat × List Nat)} {acc : Skel} {o : Oper} {l : List Oper} {c : Operand} {args : Array Operand} {ats : Array TypeId} {f : FuncId} {fn : Func} {xs : List AV} {r : AV} {p : Prop} {s1 : List Loc × List Loc}
  (F : P.funcs[f]? = some fn) (ho : o.op = .call { callee := .value c,args,argTypes := ats } := by rfl) (hg : o.guard = none := by rfl) (h : Yc σ c args.toList = some (p,f,xs) := by simp only [go_sem]; try exact rfl) (hp : p := by simp [go_sem])
  (c1 : (fn.name == "runtime.NumGoroutine") = false := by kernel_rfl) (c2 : fn.body.isSome = true := by rfl) (hx : refsL xs = [] := by simp [go_sem]) (hf : FnOK P f xs [] fun r' _ => r' = r) (hr : refs r = [] := by simp [go_sem])
  (hs : ((spCall ops σ o c args.toList r).wr,(spCall ops σ o c args.toList r).rd) = s1 := by simp only [go_sem]; exact rfl) (ha : σ.put o.dst r = σ' := by simp only [go_sem]; exact rfl) (hk : SegZ P C ops Q k Z (acc ++ [s1]) l σ') : SegZ P C ops Q k Z acc (o :: l) σ :=
 segz_rob (rob_call ho hg h hp ⟨fn,F,c1,c2⟩ hx hr hf) (fun b hb _ => by cases hb) (fun z _ => ⟨.inr (by show z.1 ∉ refs r; rw [hr]; simp),fun b hb => by cases hb⟩) hs (by rw [spCall_app]; exact ha) hk
theorem zW (hT : TabOK P T) {ops : Array Oper} {Q : Exit → Go.Act → World → Prop} {k : Nat} {Z : List (Nat × List Nat)} {acc : Skel} {o : Oper} {l : List Oper} {d : Nat} {p : Prop} {b : Blk} {x : AV} {s1 : List Loc × List Loc}
  (hd : o.dst = some d := by rfl) (hg : Yo ops σ o.guard = some true := by simp only [go_sem]; try exact rfl) (h : newOp T σ d o.op = some (p,b,x) := by simp only [go_sem]; try exact rfl) (hp : p := by simp [go_sem]) (hf : Yk σ.hp d = none := by simp only [go_sem]; try exact rfl)
  (hs : ([Loc.tm d,Loc.blk d],locsG ops o.guard ++ locsL σ o.op.operands.toList) = s1 := by simp only [go_sem]; exact rfl) (hz : safeSp Z ⟨some d,x,[(d,b)],[]⟩ := by simp [go_sem,safeSp,BlkFree]) (ha : St.put ⟨σ.tm,(d,b) :: σ.hp⟩ (some d) x = σ' := by simp only [go_sem]; exact rfl)
  (hk : SegZ P C ops Q k Z (acc ++ [s1]) l σ') : SegZ P C ops Q k Z acc (o :: l) σ := by
 refine segz_rob (p := ⟨some d,x,[(d,b)],locsG ops o.guard ++ locsL σ o.op.operands.toList⟩) ?_ (fun c hc _ => by rw [List.mem_singleton.1 hc]; exact hf) hz (by rw [← hs]; rfl) (by rw [← ha]; rfl) hk
 intro s hagree hfree a w K Q' hr hK
 have hg' : Yo ops s o.guard = some true := by rw [guard_agree (fun x hx => hagree x (List.mem_append_left _ hx))]; exact hg
 obtain ⟨μ,S,hi⟩ := hr
 rw [Zw hi hg']
 refine .inl ?_
 have hn : newOp T s d o.op = some (p,b,x) := by rw [newOp_agree (fun x hx => hagree x (List.mem_append_right _ hx))]; exact h
 have hfd : Yk s.hp d = none := by
  by_cases h : Loc.blk d ∈ locsG ops o.guard ++ locsL σ o.op.operands.toList
  ·exact Eq.trans (show Yk s.hp d = Yk σ.hp d from hagree _ h) hf
  ·exact hfree (d,b) (by simp) h
 exact newOp_sound hT hd hn hp hfd a w K Q' ⟨μ,S,hi⟩ hK
theorem zB (hT : TabOK P T) {ops : Array Oper} {Q : Exit → Go.Act → World → Prop} {k : Nat} {Z : List (Nat × List Nat)} {acc : Skel} {o : Oper} {l : List Oper} {t : TypeId} {parts : Array (Nat × Operand)} {p : Prop} {x : AV} {s1 : List Loc × List Loc}
  (ho : o.op = .build t parts := by rfl) (hg : Yo ops σ o.guard = some true := by simp only [go_sem]; try exact rfl) (h : buildAV T σ t parts.toList = some (p,x) := by simp only [go_sem]; try exact rfl) (hp : p := by simp [go_sem])
  (hs : ((Sp.mk o.dst x [] (locsG ops o.guard ++ locsL σ (parts.toList.map (·.2)))).wr,locsG ops o.guard ++ locsL σ (parts.toList.map (·.2))) = s1 := by simp only [go_sem]; exact rfl) (hz : safeSp Z ⟨o.dst,x,[],[]⟩ := by simp [go_sem,safeSp])
  (ha : σ.put o.dst x = σ' := by simp only [go_sem]; exact rfl) (hk : SegZ P C ops Q k Z (acc ++ [s1]) l σ') : SegZ P C ops Q k Z acc (o :: l) σ := by
 refine segz_rob (rob_trip (x := x) (rd := locsL σ (parts.toList.map (·.2))) hg (.inl rfl) (fun _ s hag => ?_)) (fun b hb _ => by cases hb) hz (by rw [← hs]) (by rw [← ha]; simp [Sp.app]) hk
 have hb2 : buildAV T s t parts.toList = some (p,x) := by
  rw [← h]
  unfold buildAV
  rw [partsS_agree (fun q hq => evS_agree fun z hz => hag z (locsL_mem (List.mem_map.2 ⟨q,hq,rfl⟩) z hz))]
 refine step_sound hT o (p := p) ?_ hp
 rw [ho]
 simp only [stepOp,hb2,Option.map_some]
theorem safe0 {Z : List (Nat × List Nat)} (h : ∀ z,z ∈ Z → z.1 ∉ refsL σ.tm ∧ ∀ q,q ∈ σ.hp → BlkFree z.1 q.2) : Safe Z σ := fun z hz => by
 obtain ⟨h1,h2⟩ := h z hz
 refine ⟨fun t _ hi => ?_,fun b B hb _ => h2 (b,B) (hget_mem hb)⟩
 rw [List.getD_eq_getElem?_getD] at hi
 cases e : σ.tm[t]? with
 | none => rw [e] at hi; simp [refs] at hi
 | some x => rw [e] at hi; exact h1 (Zr e hi)
def dedupH : List (Nat × Blk) → List (Nat × Blk)
 | [] => []
 | (i,b) :: r => (i,b) :: (dedupH r).filter fun q => !(q.1 == i)
theorem hget_filter (i id : Nat) : ∀ h : List (Nat × Blk),i ≠ id → Yk (h.filter fun q => !(q.1 == i)) id = Yk h id
 | [],_ => rfl
 | (j,b) :: r,hne => by
  rw [List.filter_cons]
  by_cases e : j = i
  ·subst e
   rw [if_neg (by simp),hget_filter j id r hne]
   simp only [Yk]
   rw [if_neg hne]
  ·rw [if_pos (by simpa using e)]
   simp only [Yk]
   rw [hget_filter i id r hne]
theorem hget_dedup (id : Nat) : ∀ h : List (Nat × Blk),Yk (dedupH h) id = Yk h id
 | [] => rfl
 | (i,b) :: r => by
  simp only [dedupH,Yk]
  by_cases e : i = id
  ·rw [if_pos e,if_pos e]
  ·rw [if_neg e,if_neg e,hget_filter i id _ e,hget_dedup id r]
theorem dedup_mem : ∀ (h : List (Nat × Blk)) (q : Nat × Blk),q ∈ dedupH h → Yk h q.1 = some q.2
 | [],q,hq => by cases hq
 | (i,b) :: r,q,hq => by
  simp only [dedupH] at hq
  simp only [Yk]
  rcases List.mem_cons.1 hq with rfl | hq
  ·rw [if_pos rfl]
  ·obtain ⟨h1,h2⟩ := List.mem_filter.1 hq
   have : q.1 ≠ i := by simpa using h2
   rw [if_neg (fun e => this e.symm)]
   exact dedup_mem r q h1
theorem hpFree_of {id : Nat} : ∀ {h : List (Nat × Blk)},(∀ q,q ∈ h → q.1 ≠ id → BlkFree id q.2) → HpFree id h
 | [],_ => trivial
 | (i,b) :: _,h => ⟨fun hne => h (i,b) List.mem_cons_self hne,hpFree_of fun q hq => h q (List.mem_cons_of_mem _ hq)⟩
def efA (d src id e S len : Nat) (rows : List (List AV)) (rd : List Loc) : Ef :=
 ⟨[.tm d,.tm src,.blk d,.blk id],rd,fun s => ⟨(s.tm.set src .any).set d (.osl d S 0 len),(d,.cells e S rows) :: Zh s.hp id (.cells e S [])⟩⟩
theorem efA_ok (d src id e S len : Nat) (rows : List (List AV)) (rd : List Loc) : EfOK (efA d src id e S len rows rd) := by
 refine ⟨fun s => by simp [efA],fun s x hx => ?_,fun s s' hl x hx => ?_⟩
 ·cases x with
  | tm t =>
   show ((s.tm.set src .any).set d _).getD t .any = s.tm.getD t .any
   rw [getD_set_tm,getD_set_tm,if_neg,if_neg]
   ·rintro rfl; exact hx (by simp [efA])
   ·rintro rfl; exact hx (by simp [efA])
  | blk b =>
   show Yk ((d,_) :: Zh s.hp id _) b = Yk s.hp b
   simp only [Yk]
   rw [if_neg,Yi,if_neg]
   ·rintro rfl; exact hx (by simp [efA])
   ·rintro rfl; exact hx (by simp [efA])
 ·cases x with
  | tm t =>
   show ((s'.tm.set src .any).set d _).getD t .any = ((s.tm.set src .any).set d _).getD t .any
   rw [getD_set_tm,getD_set_tm,getD_set_tm,getD_set_tm,List.length_set,List.length_set,hl]
   have hx : t = d ∨ t = src := by simpa [efA] using hx
   rcases hx with rfl | rfl
   ·rw [if_pos rfl,if_pos rfl]
   ·split
    ·rfl
    ·rw [if_pos rfl,if_pos rfl]
  | blk b =>
   show Yk ((d,_) :: Zh s'.hp id _) b = Yk ((d,_) :: Zh s.hp id _) b
   have hx : b = d ∨ b = id := by simpa [efA] using hx
   simp only [Yk]
   split
   ·rfl
   ·rename_i hne
    rcases hx with rfl | rfl
    ·exact absurd rfl hne
    ·rw [Yi,Yi,if_pos rfl,if_pos rfl]
theorem zA (hT : TabOK P T) {ops : Array Oper} {Q : Exit → Go.Act → World → Prop} {k : Nat} {Z : List (Nat × List Nat)} {acc : Skel} {o : Oper} {l : List Oper} {src : Nat} {y : Operand} {t e : TypeId} {d id S len : Nat} {R rows : List (List AV)} {q : Prop} {v : AV} {s1 : List Loc × List Loc} {n : Nat} {rows' : List (List AV)}
  (ho : o.op = .call { callee := .builtin .append,args := #[.tmp src,y],argTypes := #[t,t] } := by rfl) (hd : o.dst = some d := by rfl) (hg : o.guard = none := by rfl) (ht : T.und t = .sl e := by rfl)
  (hx : evS σ (.tmp src) = (True,.osl id S 0 len) := by simp only [go_sem]; try exact rfl) (hb : Yk σ.hp id = some (.cells e S R) := by simp only [go_sem]; try exact rfl) (hy : evS σ y = (q,v) := by simp only [go_sem]; try exact rfl) (hq : q := by trivial) (hv : srcRows σ v = some rows := by simp only [go_sem]; try exact rfl)
  (hS : T.siz e = S := by rfl) (h0 : S ≠ 0 := by decide) (h1 : T.byt e ≠ 0 := by decide) (h2 : rowsOf S rows) (h3 : ∀ i s off ln,v = .osl i s off ln → rows.length = ln := by simp [go_sem]) (h4 : rowsLeaf rows = true := by simp [go_sem]) (h5 : (2 * (len + rows.length) + 768) * T.byt e ≤ 281474976710656)
  (h6 : srcId v ≠ some id := by simp [go_sem]) (h7 : len ≤ R.length) (h8 : BlkFree id (.cells e S (R.take len ++ rows))) (h9 : Yk σ.hp d = none := by simp only [go_sem]; try exact rfl) (h10 : d ≠ id := by decide) (h11 : (id,[src]) ∈ Z := by simp)
  (hs : ([Loc.tm d,Loc.tm src,Loc.blk d,Loc.blk id],locsL σ [.tmp src,y] ++ (match srcId v with | some i => [Loc.blk i] | none => [])) = s1 := by simp only [go_sem]; exact rfl)
  (hzz : ∀ z,z ∈ Z → z.1 ≠ d ∧ BlkFree z.1 (.cells e S (R.take len ++ rows)) ∨ (z.1 = d ∧ d ∈ z.2)) (hn : len + rows.length = n) (hr : R.take len ++ rows = rows')
  (ha : (⟨(σ.tm.set src .any).set d (.osl d S 0 n),(d,.cells e S rows') :: Zh σ.hp id (.cells e S [])⟩ : St) = σ' := by simp only [go_sem]; exact rfl)
  (hk : SegZ P C ops Q k Z (acc ++ [s1]) l σ') : SegZ P C ops Q k Z acc (o :: l) σ := by
 subst hs ha hn hr hS
 have hA := efA_ok d src id e (T.siz e) (len + rows.length) (R.take len ++ rows) (locsL σ [.tmp src,y] ++ (match srcId v with | some i => [Loc.blk i] | none => []))
 generalize hrd : (locsL σ [.tmp src,y] ++ (match srcId v with | some i => [Loc.blk i] | none => [])) = rd at hk hA
 refine segz_add (e := efA d src id e (T.siz e) (len + rows.length) (R.take len ++ rows) rd) hA ?_ ?_ hk
 ·intro s hlen hag hsafe a w K Q' hrel hK
  have hrel' : Rel C ⟨s.tm,dedupH s.hp⟩ a w := rel_same (s := s) (s' := ⟨s.tm,dedupH s.hp⟩) rfl (fun _ => rfl) (fun i => (hget_dedup i s.hp).symm) a w hrel
  obtain ⟨μ,S0,hi⟩ := hrel'
  rw [Zw hi (show Yo ops ⟨s.tm,dedupH s.hp⟩ o.guard = some true from by rw [hg]; rfl)]
  refine .inl ?_
  have hx' : evS ⟨s.tm,dedupH s.hp⟩ (.tmp src) = (True,.osl id (T.siz e) 0 len) := by
   rw [← hx]
   refine evS_agree fun z hz => ?_
   have hz' := hag z (.inl (hrd ▸ List.mem_append_left _ (locsL_mem (List.mem_cons_self ..) z hz)))
   cases z with
   | tm t => exact hz'
   | blk b => exact (hget_dedup b s.hp).trans hz'
  have hy' : evS ⟨s.tm,dedupH s.hp⟩ y = (q,v) := by
   rw [← hy]
   refine evS_agree fun z hz => ?_
   have hz' := hag z (.inl (hrd ▸ List.mem_append_left _ (locsL_mem (List.mem_cons_of_mem _ (List.mem_singleton.2 rfl)) z hz)))
   cases z with
   | tm t => exact hz'
   | blk b => exact (hget_dedup b s.hp).trans hz'
  have hbb : Yk (dedupH s.hp) id = some (.cells e (T.siz e) R) := by
   rw [hget_dedup,← hb]
   exact hag (.blk id) (.inr (by simp [efA]))
  have hdn : Yk (dedupH s.hp) d = none := by
   rw [hget_dedup,← h9]
   exact hag (.blk d) (.inr (by simp [efA]))
  have hsr : srcRows ⟨s.tm,dedupH s.hp⟩ v = some rows := by
   rw [← hv]
   cases v with
   | osl i s' off ln =>
    have := hag (.blk i) (.inl (hrd ▸ List.mem_append_right _ (by simp [srcId])))
    simp only [srcRows,hget_dedup]
    rw [show Yk s.hp i = Yk σ.hp i from this]
   | _ => rfl
  have hfree : HpFree id (dedupH s.hp) := hpFree_of fun z hz hne => (hsafe _ h11).2 z.1 z.2 (dedup_mem s.hp z hz) hne
  have hstep : stepOp T ⟨s.tm,dedupH s.hp⟩ o.dst o.op = some (True ∧ q ∧ (T.siz e ≠ 0 ∧ T.byt e ≠ 0 ∧ rowsOf (T.siz e) rows ∧ (∀ i s off ln,v = .osl i s off ln → rows.length = ln) ∧ rowsLeaf rows = true ∧ (2 * (len + rows.length) + 768) * T.byt e ≤ 281474976710656 ∧
     (d = id ∨ Yk (dedupH s.hp) d = none) ∧ srcId v ≠ some id ∧ len ≤ R.length ∧ HpFree id (dedupH s.hp) ∧ BlkFree id (.cells e (T.siz e) (R.take len ++ rows))),
    (⟨s.tm.map (kill id),(d,.cells e (T.siz e) (R.take len ++ rows)) :: hdel (dedupH s.hp) id⟩ : St).put (some d) (.osl d (T.siz e) 0 (len + rows.length))) := by
   rw [ho,hd]
   simp only [stepOp,hx',hy',if_true,appendOp,ht,hsr,hbb,and_self,Option.map_some]
  refine step_sound hT o hstep ⟨trivial,hq,h0,h1,h2,h3,h4,h5,.inr hdn,h6,h7,hfree,h8⟩ a w K Q' ⟨μ,S0,hi⟩ fun a' w' hr' => hK a' w' ?_
  obtain ⟨μ',S',hi'⟩ := hr'
  have hidn : Yk ((⟨s.tm.map (kill id),(d,.cells e (T.siz e) (R.take len ++ rows)) :: hdel (dedupH s.hp) id⟩ : St).put (some d) (.osl d (T.siz e) 0 (len + rows.length))).hp id = none := by
   rw [St.put_hp]
   simp only [Yk]
   rw [if_neg h10,hget_hdel,if_pos rfl]
  refine ⟨μ',S',by rw [hi'.size]; simp [efA,St.put],hi'.defers,fun j z hz => ?_,fun j B hB => ?_,fun j g hj => ?_,hi'.inj,hi'.frm,hi'.sb⟩
  ·replace hz : ((s.tm.set src .any).set d (.osl d (T.siz e) 0 (len + rows.length)))[j]? = some z := hz
   rw [List.getElem?_set] at hz
   by_cases e1 : d = j
   ·subst e1
    rw [if_pos rfl] at hz
    refine hi'.tm d z ?_
    show ((s.tm.map (kill id)).set d _)[d]? = some z
    rw [List.getElem?_set,if_pos rfl]
    simpa using hz
   ·rw [if_neg e1,List.getElem?_set] at hz
    by_cases e2 : src = j
    ·subst e2
     rw [if_pos rfl] at hz
     split at hz
     ·injection hz with hz; subst hz; exact .any _
     ·cases hz
    ·rw [if_neg e2] at hz
     refine hi'.tm j z ?_
     show ((s.tm.map (kill id)).set d _)[j]? = some z
     rw [List.getElem?_set,if_neg e1,List.getElem?_map,hz]
     have hnr := (hsafe _ h11).1 j (by simpa using fun h => e2 h.symm)
     rw [List.getD_eq_getElem?_getD,hz] at hnr
     simp only [Option.map_some,kill]
     rw [if_neg (by simpa using hnr)]
  ·replace hB : Yk ((d,.cells e (T.siz e) (R.take len ++ rows)) :: Zh s.hp id (.cells e (T.siz e) [])) j = some B := hB
   simp only [Yk] at hB
   split at hB
   ·rename_i e1
    refine hi'.hp j B ?_
    rw [St.put_hp]
    simp only [Yk]
    rw [if_pos e1]; exact hB
   ·rename_i e1
    rw [Yi] at hB
    split at hB
    ·rename_i e2
     subst e2
     injection hB with hB
     subst hB
     exact .inl ⟨rfl,hi'.fresh hidn⟩
    ·rename_i e2
     refine hi'.hp j B ?_
     rw [St.put_hp]
     simp only [Yk]
     rw [if_neg e1,hget_hdel,if_neg e2,hget_dedup]; exact hB
  ·obtain ⟨⟨B,hB⟩,h12⟩ := hi'.dom j g hj
   refine ⟨?_,h12⟩
   show ∃ b,Yk ((d,.cells e (T.siz e) (R.take len ++ rows)) :: Zh s.hp id (.cells e (T.siz e) [])) j = some b
   rw [St.put_hp] at hB
   simp only [Yk] at hB ⊢
   split
   ·exact ⟨_,rfl⟩
   ·rename_i e1
    rw [if_neg e1,hget_hdel] at hB
    rw [Yi]
    split
    ·exact ⟨_,rfl⟩
    ·rename_i e2
     rw [if_neg e2,hget_dedup] at hB
     exact ⟨B,hB⟩
 ·intro h0' z hz
  refine ⟨fun j hj => ?_,fun b B hB hne => ?_⟩
  ·show z.1 ∉ refs (((σ.tm.set src .any).set d _).getD j .any)
   rw [getD_set_tm,getD_set_tm]
   split
   ·rename_i e1
    subst e1
    split
    ·rcases hzz z hz with ⟨h12,_⟩ | ⟨h12,h13⟩
     ·simpa [refs] using h12
     ·exact absurd h13 hj
    ·simp [refs]
   ·split
    ·simp [refs]
    ·exact (h0' z hz).1 j hj
  ·replace hB : Yk ((d,.cells e (T.siz e) (R.take len ++ rows)) :: Zh σ.hp id (.cells e (T.siz e) [])) b = some B := hB
   simp only [Yk] at hB
   split at hB
   ·rename_i e1
    injection hB with hB
    subst hB
    rcases hzz z hz with ⟨_,h12⟩ | ⟨h12,_⟩
    ·exact h12
    ·exact absurd (e1.symm.trans h12.symm) hne
   ·rw [Yi] at hB
    split at hB
    ·injection hB with hB
     subst hB
     simp [BlkFree]
    ·exact (h0' z hz).2 b B hB hne
end
end Go.Eng
namespace La
open Go Go.Eng Go.Proofs
theorem rfit_of {l : List Node} (hg : Good l) (hr : Ri l) {a : Act} (ha : ActFit a) : RFit l a where
 ri := hr
 ent := fun n hn => by have := hg.ent n hn; omega
 len := by have := hg.len; omega
 all := by have := allF_small hg.ent; have := hg.len; omega
 name := ha.name
 toName := ha.toName
 data := ha.data
theorem Hist.ri {p : List Past} {t : List Node} (h : Hist p t) : Ri t := ⟨h.good.up,fun n hn => (h.whole.loc n hn).eup⟩
theorem rapply_good {l : List Node} (hg : Good l) (hr : Ri l) {a : Act} (ha : ActFit a) (v : Int) : FnOK Tryz.prog 36 [.rm (mN (mapD l)),.agg (ZA a),.int .i64 v] []
  (fun r _ => r = if Yb l a = 0 then .tup [.rm (mN (mapD (Yj l a v))),.int .i64 0] else .tup [.nilm,.int .i64 (Yb l a)]) := by
 have h := rapply_ok l a v (rfit_of hg hr ha)
 unfold rApplyA at h
 rw [hg.applyE,hg.applyL] at h
 exact h
noncomputable def rdoR (s : Srv) (c : Int) (a : Act) : AV := if doE s a = 0 then .tup [.agg (ZQ (doS s c a)),.int .i64 0] else .tup [.agg [.sl [],.int .i64 0,.sl []],.int .i64 (doE s a)]
theorem rdo_ok {k : Nat} (s : Srv) (h : SrvOK k s) (hk : k ≤ 80000000) (c : Int) (a : Act) (ha : ActFit a) : FnOK Tryz.prog 12 [.agg (ZQ s),.int .i64 c,.agg (ZA a)] [] (fun r _ => r = rdoR s c a) := by
 have hlen := h.len
 have hnx := h.next
 have hg := h.hist.good
 have hda : ActFit (doA s a) := by unfold doA; split; exact ⟨ha.name,ha.toName,ha.data⟩; exact ha
 have hw : IntKind.i64.wrap (s.next + 1) = s.next + 1 := Eng.wrap_small (by omega) (by omega)
 have hwp : IntKind.i64.wrap ((s.past.length : Int) + 1) = ((s.past.length + 1 : Nat) : Int) := by rw [Eng.wrap_small (by omega) (by omega)]; rfl
 have hof := of_rm s.tree (by have := hg.len; omega)
 have hap := rapply_good hg h.hist.ri hda ((s.past.length + 1 : Nat) : Int)
 have hls : Yb s.tree (doA s a) = 0 → FnOK Tryz.prog 37 [.rm (mN (mapD (Yj s.tree (doA s a) ((s.past.length + 1 : Nat) : Int))))] [] (fun r _ => r = .sl ((Yj s.tree (doA s a) ((s.past.length + 1 : Nat) : Int)).map ZN)) := fun he => by
  have hg2 := good_apply hg (doA s a) ((s.past.length + 1 : Nat) : Int) he
  exact list_ok _ hg2.up (by have := hg2.len; omega)
 unfold rdoR doS doE
 unfold ZQ
 refine ZF tK (Tryz.func12) rfl (fun C => ?_)
 simp only [Tryz.ntmps12,Tryz.results12,go_sem]
 refine wGq tK ?_ ?_ (by simp only [go_sem,ZA]; try exact rfl)
 ·simp [ZA]
 refine wD (fun h => ?_) (fun h => ?_)
 ·have hm : Zm a = true := by unfold Zm; revert h; cases (a.kind == 1) <;> simp
  have hdo : doA s a = { a with fid := s.next } := by unfold doA; rw [if_pos hm]
  rw [hdo] at hap hls ⊢
  simp only [hm,if_true]
  generalize Yb s.tree { a with fid := s.next } = e at *
  generalize Yj s.tree { a with fid := s.next } ((s.past.length + 1 : Nat) : Int) = L at *
  refine wG tK ?_
  by_cases he : e = 0
  ·subst he
   have hls := hls rfl
   have hnr2 : ∀ id,BlkFree id (.cells 88 8 (List.take s.past.length (s.past.map ZP) ++ [ZP (⟨c,{ a with fid := s.next }⟩ : Past)])) := fun id => by
    rw [show List.take s.past.length (s.past.map ZP) ++ [ZP (⟨c,{ a with fid := s.next }⟩ : Past)] = (s.past ++ [(⟨c,{ a with fid := s.next }⟩ : Past)]).map ZP by simp]
    exact pastRow_noRef id _
   simp only [if_true] at hap ⊢
   refine ZW ZM ?_
   refine ZS rfl ?_
   refine sN tK 2 ?_
   refine sC Tryz.func20 (hf := (hof)) (hk := ?_)
   refine sN tK 5 ?_ (h := by simp only [go_sem,hwp]; try exact rfl) (hp := by simp [go_sem,hwp])
   refine sC Tryz.func36 (hf := (hap)) (hk := ?_)
   refine sG tK ?_
   refine sE ?_
   refine wKd ?_
   try simp only [go_sem,gA,gB,gC]
   refine wG tK ?_
   refine wDF (hb := by simp) (hk := ?_)
   refine wG tK ?_
   refine ZW ZM ?_
   refine segz_start [(44,[44]),(47,[47])] rfl (safe0 (by simp [go_sem,BlkFree])) ?_
   refine zN tK 1 (hk := ?_)
   refine zC Tryz.func37 (hf := (hls)) (hk := ?_)
   refine zN tK 2 (hk := ?_)
   refine zW tK (hk := ?_)
   refine zN tK 2 (hk := ?_)
   refine zA tK (h2 := ?_) (h4 := ?_) (h5 := ?_) (h7 := ?_) (h8 := ?_) (hzz := ?_) (hn := rfl) (hr := rfl) (hk := ?_)
   ·exact pastRow_rowsOf _
   ·exact pastRow_leaf _
   ·rw [show tab.byt 88 = 96 from rfl]
    simp
    omega
   ·simp
   ·exact pastRow_noRef 44 s.past
   ·intro z hz
    simp only [List.mem_cons,List.not_mem_nil,or_false] at hz
    rcases hz with rfl | rfl
    ·exact .inl ⟨by decide,pastRow_noRef 44 s.past⟩
    ·exact .inr ⟨rfl,by decide⟩
   refine zN tK 2 (hk := ?_)
   refine zB tK (hk := ?_)
   refine zW tK (hk := ?_)
   refine zA tK (h2 := ?_) (h4 := ?_) (h5 := ?_) (h7 := ?_) (h8 := ?_) (hzz := ?_) (hn := rfl) (hr := rfl) (hk := ?_)
   ·intro row h; simp at h; subst h; rfl
   ·rfl
   ·rw [show tab.byt 88 = 96 from rfl]
    simp
    omega
   ·simp
   ·exact hnr2 47
   ·intro z hz
    simp only [List.mem_cons,List.not_mem_nil,or_false] at hz
    rcases hz with rfl | rfl
    ·exact .inl ⟨by decide,hnr2 44⟩
    ·exact .inl ⟨by decide,hnr2 47⟩
   refine zB tK (hk := ?_)
   refine zW tK (hk := ?_)
   refine segz_end (by kernel_rfl) (by simp only [go_sem]; exact rfl) ?_
   refine dS tK ?_
   refine wKd ?_
   try simp only [go_sem,gA,gB,gC]
   refine wG tK ?_
   refine Vt (h) ?_
   refine wG tK ?_ (by simp only [go_sem,hw]; try exact rfl) (by simp [go_sem,hw])
   refine ZZ 52 rfl (by rw [List.all_append,pastRow_pure]; rfl) ?_
   simp only [go_sem]
   refine wT ?_
   rw [List.take_of_length_le (by simp)]
   simp [ZP]
  ·simp only [he,if_false] at hap ⊢
   refine ZW ZM ?_
   refine ZS rfl ?_
   refine sN tK 2 ?_
   refine sC Tryz.func20 (hf := (hof)) (hk := ?_)
   refine sN tK 5 ?_ (h := by simp only [go_sem,hwp]; try exact rfl) (hp := by simp [go_sem,hwp])
   refine sC Tryz.func36 (hf := (hap)) (hk := ?_)
   refine sG tK ?_
   refine sE ?_
   refine wKd ?_
   try simp only [go_sem,gA,gB,gC]
   refine wG tK ?_
   refine wDT (hb := by simp [he]) (hk := ?_)
   refine wG tK ?_
   refine Yl (Zn 6) ?_
   refine wT ?_
   simp [he]
 ·have hm : Zm a = false := by unfold Zm; revert h; cases (a.kind == 1) <;> simp
  have hdo : doA s a = a := by unfold doA; rw [if_neg (by simp [hm])]
  rw [hdo] at hap hls ⊢
  simp only [hm,Bool.false_eq_true,if_false]
  generalize Yb s.tree a = e at *
  generalize Yj s.tree a ((s.past.length + 1 : Nat) : Int) = L at *
  refine wG tK ?_
  by_cases he : e = 0
  ·subst he
   have hls := hls rfl
   have hnr2 : ∀ id,BlkFree id (.cells 88 8 (List.take s.past.length (s.past.map ZP) ++ [ZP (⟨c,a⟩ : Past)])) := fun id => by
    rw [show List.take s.past.length (s.past.map ZP) ++ [ZP (⟨c,a⟩ : Past)] = (s.past ++ [(⟨c,a⟩ : Past)]).map ZP by simp]
    exact pastRow_noRef id _
   simp only [if_true] at hap ⊢
   refine ZW ZM ?_
   refine ZS rfl ?_
   refine sN tK 2 ?_
   refine sC Tryz.func20 (hf := (hof)) (hk := ?_)
   refine sN tK 5 ?_ (h := by simp only [go_sem,hwp]; try exact rfl) (hp := by simp [go_sem,hwp])
   refine sC Tryz.func36 (hf := (hap)) (hk := ?_)
   refine sG tK ?_
   refine sE ?_
   refine wKd ?_
   try simp only [go_sem,gA,gB,gC]
   refine wG tK ?_
   refine wDF (hb := by simp) (hk := ?_)
   refine wG tK ?_
   refine ZW ZM ?_
   refine segz_start [(44,[44]),(47,[47])] rfl (safe0 (by simp [go_sem,BlkFree])) ?_
   refine zN tK 1 (hk := ?_)
   refine zC Tryz.func37 (hf := (hls)) (hk := ?_)
   refine zN tK 2 (hk := ?_)
   refine zW tK (hk := ?_)
   refine zN tK 2 (hk := ?_)
   refine zA tK (h2 := ?_) (h4 := ?_) (h5 := ?_) (h7 := ?_) (h8 := ?_) (hzz := ?_) (hn := rfl) (hr := rfl) (hk := ?_)
   ·exact pastRow_rowsOf _
   ·exact pastRow_leaf _
   ·rw [show tab.byt 88 = 96 from rfl]
    simp
    omega
   ·simp
   ·exact pastRow_noRef 44 s.past
   ·intro z hz
    simp only [List.mem_cons,List.not_mem_nil,or_false] at hz
    rcases hz with rfl | rfl
    ·exact .inl ⟨by decide,pastRow_noRef 44 s.past⟩
    ·exact .inr ⟨rfl,by decide⟩
   refine zN tK 2 (hk := ?_)
   refine zB tK (hk := ?_)
   refine zW tK (hk := ?_)
   refine zA tK (h2 := ?_) (h4 := ?_) (h5 := ?_) (h7 := ?_) (h8 := ?_) (hzz := ?_) (hn := rfl) (hr := rfl) (hk := ?_)
   ·intro row h; simp at h; subst h; rfl
   ·rfl
   ·rw [show tab.byt 88 = 96 from rfl]
    simp
    omega
   ·simp
   ·exact hnr2 47
   ·intro z hz
    simp only [List.mem_cons,List.not_mem_nil,or_false] at hz
    rcases hz with rfl | rfl
    ·exact .inl ⟨by decide,hnr2 44⟩
    ·exact .inl ⟨by decide,hnr2 47⟩
   refine zB tK (hk := ?_)
   refine zW tK (hk := ?_)
   refine segz_end (by kernel_rfl) (by simp only [go_sem]; exact rfl) ?_
   refine dS tK ?_
   refine wKd ?_
   try simp only [go_sem,gA,gB,gC]
   refine wG tK ?_
   refine Vf (h) ?_
   refine wG tK ?_
   refine ZZ 52 rfl (by rw [List.all_append,pastRow_pure]; rfl) ?_
   simp only [go_sem]
   refine wT ?_
   rw [List.take_of_length_le (by simp)]
   simp [ZP]
  ·simp only [he,if_false] at hap ⊢
   refine ZW ZM ?_
   refine ZS rfl ?_
   refine sN tK 2 ?_
   refine sC Tryz.func20 (hf := (hof)) (hk := ?_)
   refine sN tK 5 ?_ (h := by simp only [go_sem,hwp]; try exact rfl) (hp := by simp [go_sem,hwp])
   refine sC Tryz.func36 (hf := (hap)) (hk := ?_)
   refine sG tK ?_
   refine sE ?_
   refine wKd ?_
   try simp only [go_sem,gA,gB,gC]
   refine wG tK ?_
   refine wDT (hb := by simp [he]) (hk := ?_)
   refine wG tK ?_
   refine Yl (Zn 6) ?_
   refine wT ?_
   simp [he]
def addRes : Option (List Rec) → AV
 | some x => .tup [.sl (x.map ZR),.int .i64 0]
 | none => .tup [.nils,.int .i64 5]
@[go_sem,simp] theorem rowsOf_cons (s : Nat) (r : List AV) (l : List (List AV)) : Eng.rowsOf s (r :: l) ↔ r.length = s ∧ Eng.rowsOf s l := by
 unfold Eng.rowsOf
 constructor
 ·exact fun h => ⟨h r (by simp),fun x hx => h x (by simp [hx])⟩
 ·rintro ⟨h1,h2⟩ x hx
  rcases List.mem_cons.1 hx with rfl | hx
  ·exact h1
  ·exact h2 x hx
@[go_sem,simp] theorem rowsOf_nil (s : Nat) : Eng.rowsOf s [] := fun _ h => by simp at h
theorem refFids_ok (a : Act) : FnOK Tryz.prog 21 [.agg (ZA a)] [] (fun r _ => r = .sl ((fids a).map ZI)) := by
 unfold ZA
 refine ZF tK (Tryz.func21) rfl (fun C => ?_)
 simp only [Tryz.ntmps21,Tryz.results21,go_sem]
 refine wG tK ?_
 refine wD (fun h => ?_) (fun h => ?_)
 ·have h1 : a.kind ≠ 3 := by simpa using h
  refine wG tK ?_
  refine wD (fun h => ?_) (fun h => ?_)
  ·have h2 : a.kind = 5 := by simpa using h
   refine wG tK ?_
   refine ZZ 22 rfl (rfl) ?_
   simp only [go_sem]
   refine wT ?_
   simp [go_sem,fids,ZI,h2]
  ·have h2 : a.kind ≠ 5 := by simpa using h
   refine wG tK ?_
   refine ZZ 14 rfl (rfl) ?_
   simp only [go_sem]
   refine wT ?_
   simp [go_sem,fids,ZI,h1,h2]
 ·have h1 : a.kind = 3 := by simpa using h
  refine wG tK ?_
  refine wDF (hb := by rw [h1]; rfl) (hk := ?_)
  refine wG tK ?_
  refine ZZ 6 rfl (rfl) ?_
  simp only [go_sem]
  refine wT ?_
  simp [go_sem,fids,ZI,h1]
theorem rhas_ok (l : List Int) (hlen : l.length ≤ 100000000) (v : Int) : FnOK Tryz.prog 124 [.sl (l.map ZI),.int .i64 v] [] (fun r _ => r = .bool (l.contains v)) := by
 refine ZF tK (Tryz.func124) rfl (fun C => ?_)
 simp only [Tryz.ntmps124,Tryz.results124,go_sem]
 refine wG tK ?_
 refine ZL (fun i : Nat => i ≤ l.length ∧ v ∉ l.take i) (fun i => l.length - i) (fun i => [(9,.int .i64 i),(6,.any),(10,.any),(11,.any),(12,.any),(13,.any),(14,.any),(15,.any),(16,.any)]) (fun _ => []) 0 ⟨by omega,by simp⟩ ?_ fun i hi => ?_
 ·simp only [go_sem]
  exact ZU (by simp [go_sem]) (by simp [go_sem]) (by simp only [go_sem])
 obtain ⟨hi,hno⟩ := hi
 simp only [go_sem]
 refine wG tK ?_
 refine wD (fun h => ?_) (fun h => ?_)
 ·have hlt : i < l.length := by simp at h; omega
  have hg : (l.map ZI).getD i [] = ZI (l.getD i default) := Fam.getD hlt
  have htk := ZT hlt
  have hm := YG hlt
  generalize l.getD i default = n at hg htk hm
  refine wGq tK ?_ ?_ (by simp only [go_sem,hg,ZI]; try exact rfl)
  ·simp [hlt]
  refine wD (fun h => ?_) (fun h => ?_)
  ·refine wG tK ?_
   refine wT ?_
   have e : n = v := eq_of_beq h
   subst e
   rw [List.contains_iff_mem.2 hm]
  ·have hw : IntKind.i64.wrap ((i : Int) + 1) = (i : Int) + 1 := wrap_small (by omega) (by omega)
   have hne : n ≠ v := by simpa using h
   refine wG tK ?_ (by simp only [go_sem,hw]; try exact rfl) (by simp [go_sem,hw])
   refine ZB ⟨i + 1,⟨by omega,?_⟩,by omega,ZU ?_ ?_ ?_⟩
   ·rw [htk]
    intro hx
    rcases List.mem_append.1 hx with hx | hx
    ·exact hno hx
    ·exact hne (List.mem_singleton.1 hx).symm
   ·simp [go_sem]
   ·simp [go_sem]
   ·simp only [go_sem]
 ·have e : i = l.length := by simp at h; omega
  refine wG tK ?_
  refine wT ?_
  rw [e,List.take_length] at hno
  rw [show l.contains v = false from by simpa using hno]
def keeps (r x : Rec) : Bool := !(r.act.kind == 3 && stored r x)
theorem unstored_filter (l : List Rec) (r : Rec) : unstored l r = l.filter (keeps r) := by
 unfold unstored
 split
 ·rename_i h
  congr 1
  funext x
  simp [keeps,h]
 ·rename_i h
  rw [List.filter_eq_self.2]
  intro x _
  simp [keeps,h]
def here (d : Int) (n : List UInt8) (b : Act) : Bool :=
 ((((b.kind == 1 || b.kind == 2) || b.kind == 4) || b.kind == 5) && b.dir == d && b.name == n) || (b.kind == 5 && b.to == d && b.toName == n)
theorem here_touches (d : Int) (n : List UInt8) (b : Act) : here d n b = touches b d n := by
 unfold here touches
 by_cases h1 : b.kind = 1
 ·simp [h1]
 ·by_cases h2 : b.kind = 2
  ·simp [h2]
  ·by_cases h4 : b.kind = 4
   ·simp [h4]
   ·by_cases h5 : b.kind = 5
    ·simp [h5]
    ·simp [h1,h2,h4,h5]
def outOf (l : List Rec) (r : Rec) (i : Nat) : List Rec := (l.take i).filter fun x => !(x.names r.act.fid)
def stOf (l : List Rec) (r : Rec) (i : Nat) : Int := (l.take i).foldl (addStep r) 0
def keptOf (l : List Rec) (r : Rec) (i : Nat) : List Rec := (l.take i).filter (keeps r)
theorem refAdd_ok (l : List Rec) (r : Rec) (hl : SmallL l) (hr : r.act.Small) : FnOK Tryz.prog 107 [.sl (l.map ZR),.agg (ZR r)] [] (fun x _ => x = addRes (addLog l r)) := by
 have hlen := hl.len
 refine ZF tK (Tryz.func107) rfl (fun C => ?_)
 simp only [Tryz.ntmps107,Tryz.results107,go_sem]
 refine wGq tK ?_ ?_ (by simp only [go_sem,ZR]; try exact rfl)
 ·simp [go_sem]
 refine ZZ 3 rfl (rfl) ?_
 refine ZZ 6 rfl (rfl) ?_
 simp only [go_sem]
 refine wD (fun h => ?_) (fun h => ?_)
 ·have hk4 : r.act.kind = 4 := eq_of_beq h
  refine wG tK ?_
  refine ZL (fun i : Nat => i ≤ l.length) (fun i => l.length - i) (fun i => [(24,.int .i64 (i : Nat)),(8,.int .i64 (stOf l r i)),(7,.osl 135 9 0 (outOf l r i).length),(9,.any),(10,.any),(11,.any),(12,.any),(13,.any),(14,.any),(15,.any),(16,.any),(25,.any),(26,.any),(27,.any),(28,.any),(29,.any),(30,.any),(31,.any),(32,.any),(33,.any),(34,.any),(35,.any),(36,.any),(37,.any),(38,.any),(39,.any),(40,.any),(41,.any),(42,.any),(43,.any),(44,.any),(45,.any),(46,.any),(47,.any),(48,.any),(49,.any),(50,.any),(51,.any),(52,.any),(53,.any),(54,.any),(55,.any),(56,.any),(57,.any),(58,.any),(59,.any),(60,.any),(61,.any),(62,.any),(63,.any),(64,.any),(65,.any),(66,.any),(67,.any),(68,.any),(69,.any),(70,.any),(71,.any),(72,.any),(73,.any),(74,.any),(75,.any),(76,.any),(77,.any),(78,.any),(79,.any),(80,.any),(81,.any),(82,.any),(83,.any),(84,.any),(85,.any),(86,.any),(87,.any),(88,.any),(89,.any),(90,.any),(91,.any),(92,.any),(93,.any),(94,.any),(95,.any),(96,.any),(97,.any),(98,.any),(99,.any),(100,.any),(101,.any),(102,.any),(103,.any),(104,.any),(105,.any),(106,.any),(107,.any),(108,.any),(109,.any),(110,.any),(111,.any),(112,.any),(113,.any),(114,.any),(115,.any),(116,.any),(117,.any),(118,.any),(119,.any),(120,.any),(121,.any),(122,.any),(123,.any),(124,.any),(125,.any),(126,.any),(127,.any),(128,.any),(129,.any),(130,.any),(131,.any),(132,.any),(133,.any),(134,.any),(135,.any),(136,.any)]) (fun i => [(135,.cells 56 9 ((outOf l r i).map ZR))]) 0 (by omega) ?_ fun i hi => ?_
  ·simp only [go_sem]
   exact ZU (by simp [go_sem,outOf,stOf]) (by simp [go_sem,outOf]) (by simp [go_sem])
  simp only [go_sem]
  refine wG tK ?_
  refine wD (fun h => ?_) (fun h => ?_)
  ·have hlt : i < l.length := by have := of_decide_eq_true h; omega
   have hg : (l.map ZR).getD i [] = ZR (l.getD i default) := Fam.getD hlt
   have htk := ZT hlt
   generalize l.getD i default = x at hg htk
   refine wR ?_
   refine wNq tK 4 ?_ ?_ (h := by simp only [go_sem,hg,ZR]; try exact rfl)
   ·simp [hlt]
   refine ZZ 10 rfl (rfl) ?_
   simp only [go_sem]
   refine wR ?_
   refine wNq tK 4 ?_ ?_
   ·simp [go_sem]
   refine ZZ 11 rfl (rfl) ?_
   simp only [go_sem]
   have hst : stOf l r (i + 1) = addStep r (stOf l r i) x := by
    unfold stOf
    rw [htk,List.foldl_append]; rfl
   have hout : outOf l r (i + 1) = if x.names r.act.fid then outOf l r i else outOf l r i ++ [x] := by
    unfold outOf
    rw [htk,List.filter_append]
    by_cases hk : x.names r.act.fid = true <;> simp [hk]
   have hol : (outOf l r i).length ≤ l.length := by unfold outOf; have := List.length_filter_le (fun x : Rec => !x.names r.act.fid) (l.take i); simp at this; omega
   have hw := wi1 (i := i) (by omega)
   clear hg htk
   generalize stOf l r i = s at hst
   refine wR ?_
   refine wN tK 3 ?_
   refine Yn 32 (by simp only [go_sem]; exact rfl) (fun c32 h32 => ?_)
   simp only [go_sem]
   refine wN tK 5 ?_
   refine Yn 37 (by simp only [go_sem]; exact rfl) (fun c37 h37 => ?_)
   simp only [go_sem]
   refine wN tK 1 ?_
   refine wR ?_
   refine wN tK 6 ?_
   refine Yn 43 (by simp only [go_sem]; exact rfl) (fun c43 h43 => ?_)
   simp only [go_sem]
   refine wN tK 5 ?_
   refine Yn 48 (by simp only [go_sem]; exact rfl) (fun c48 h48 => ?_)
   simp only [go_sem]
   refine wN tK 1 ?_
   refine wR ?_
   refine wN tK 8 ?_
   refine Yn 56 (by simp only [go_sem]; exact rfl) (fun c56 h56 => ?_)
   simp only [go_sem]
   refine wN tK 7 ?_
   refine Yn 63 (by simp only [go_sem]; exact rfl) (fun c63 h63 => ?_)
   simp only [go_sem]
   refine wNq tK 19 ?_ ?_
   ·simp [go_sem]
    exact ⟨fun a => ⟨a,fun b => ⟨a,b⟩⟩,fun a => ⟨a,fun b c => ⟨a,b,c⟩⟩⟩
   refine Yn 82 (by simp only [go_sem]; exact rfl) (fun c82 h82 => ?_)
   simp only [go_sem]
   refine wN tK 1 ?_
   refine wR ?_
   refine wN tK 2 ?_
   refine Yn 85 (by simp only [go_sem]; exact rfl) (fun c85 h85 => ?_)
   simp only [go_sem]
   refine wN tK 3 ?_
   refine Yn 88 (by simp only [go_sem]; exact rfl) (fun c88 h88 => ?_)
   simp only [go_sem]
   refine wN tK 7 ?_
   refine Yn 95 (by simp only [go_sem]; exact rfl) (fun c95 h95 => ?_)
   simp only [go_sem]
   have hA : c95 = (s == 0 && isMade r.act.fid x) := by
    rw [← h95,← h88,← h85,← h37,← h32]
    simp only [cond_and,cond_or,isMade,Bool.and_assoc]
    cases (s == 0) <;> cases (x.act.fid == r.act.fid) <;> simp
   have hB : c82 = touches x.act r.act.dir r.act.name := by
    rw [← here_touches,← h82,← h63,← h56,← h48,← h43,← h37,← h32]
    simp only [cond_and,cond_or,here]
   clear h82 h63 h56 h48 h43 h88 h85 h95
   refine wG tK ?_
   refine wD (fun h => ?_) (fun h => ?_)
   ·have hs : s = 0 ∧ isMade r.act.fid x = true := by
     have : c95 = true := h
     rw [hA,Bool.and_eq_true] at this
     exact ⟨eq_of_beq this.1,this.2⟩
    refine wR ?_
    refine wN tK 1 ?_
    refine wR ?_
    refine wN tK 5 ?_
    refine Yn 100 (by simp only [go_sem]; exact rfl) (fun c100 h100 => ?_)
    simp only [go_sem]
    refine wN tK 7 ?_
    refine Yn 107 (by simp only [go_sem]; exact rfl) (fun c107 h107 => ?_)
    simp only [go_sem]
    have hC : c107 = (x.act.dir == r.act.dir && x.act.name == r.act.name) := by rw [← h107,← h100,cond_and]
    refine wG tK ?_
    refine wD (fun h => ?_) (fun h => ?_)
    ·have hstv : stOf l r (i + 1) = 1 := by
      have h1 : c107 = true := h
      rw [hC,Bool.and_eq_true] at h1
      rw [hst,hs.1]
      simp [addStep,hs.2,eq_of_beq h1.1,eq_of_beq h1.2]
     refine wG tK ?_
     refine ZW ZM ?_
     refine ZS rfl ?_
     refine sN tK 1 ?_
     refine sC Tryz.func21 (hf := (refFids_ok x.act)) (hk := ?_)
     refine sN tK 2 ?_
     refine sC Tryz.func124 (hf := (rhas_ok (fids x.act) (by have := fids_len x.act; omega) r.act.fid)) (hk := ?_)
     refine sN tK 1 ?_
     refine sE ?_
     refine wKd ?_
     refine wD (fun h => ?_) (fun h => ?_)
     ·have hnm : x.names r.act.fid = false := by simpa [Rec.names] using h
      have hon : outOf l r (i + 1) = outOf l r i ++ [x] := by rw [hout,hnm]; rfl
      refine wGq tK ?_ ?_ (by simp only [go_sem,hw,ZR]; try exact rfl)
      ·simp [go_sem]
       omega
      refine ZB ⟨i + 1,by omega,by omega,ZU ?_ ?_ ?_⟩
      ·simp [go_sem,hstv,hon]
      ·simp [go_sem,hon,ZR]
      ·simp [go_sem]
     ·have hnm : x.names r.act.fid = true := by simpa [Rec.names] using h
      have hon : outOf l r (i + 1) = outOf l r i := by rw [hout,hnm]; rfl
      refine wG tK ?_ (by simp only [go_sem,hw]; try exact rfl) (by simp [go_sem,hw])
      refine ZB ⟨i + 1,by omega,by omega,ZU ?_ ?_ ?_⟩
      ·simp [go_sem,hstv,hon]
      ·simp [go_sem,hon]
      ·simp [go_sem]
    ·have hstv : stOf l r (i + 1) = 2 := by
      have h1 : c107 = false := h
      have h2 : ¬ (x.act.dir = r.act.dir ∧ x.act.name = r.act.name) := by
       rintro ⟨e1,e2⟩
       rw [hC,e1,e2] at h1
       simp at h1
      rw [hst,hs.1]
      simp only [addStep,hs.2,if_true,if_neg h2]
     refine wG tK ?_
     refine ZW ZM ?_
     refine ZS rfl ?_
     refine sN tK 1 ?_
     refine sC Tryz.func21 (hf := (refFids_ok x.act)) (hk := ?_)
     refine sN tK 2 ?_
     refine sC Tryz.func124 (hf := (rhas_ok (fids x.act) (by have := fids_len x.act; omega) r.act.fid)) (hk := ?_)
     refine sN tK 1 ?_
     refine sE ?_
     refine wKd ?_
     refine wD (fun h => ?_) (fun h => ?_)
     ·have hnm : x.names r.act.fid = false := by simpa [Rec.names] using h
      have hon : outOf l r (i + 1) = outOf l r i ++ [x] := by rw [hout,hnm]; rfl
      refine wGq tK ?_ ?_ (by simp only [go_sem,hw,ZR]; try exact rfl)
      ·simp [go_sem]
       omega
      refine ZB ⟨i + 1,by omega,by omega,ZU ?_ ?_ ?_⟩
      ·simp [go_sem,hstv,hon]
      ·simp [go_sem,hon,ZR]
      ·simp [go_sem]
     ·have hnm : x.names r.act.fid = true := by simpa [Rec.names] using h
      have hon : outOf l r (i + 1) = outOf l r i := by rw [hout,hnm]; rfl
      refine wG tK ?_ (by simp only [go_sem,hw]; try exact rfl) (by simp [go_sem,hw])
      refine ZB ⟨i + 1,by omega,by omega,ZU ?_ ?_ ?_⟩
      ·simp [go_sem,hstv,hon]
      ·simp [go_sem,hon]
      ·simp [go_sem]
   ·have hs0 : ¬ (s = 0 ∧ isMade r.act.fid x = true) := by
     rintro ⟨e1,e2⟩
     have h1 : c95 = false := h
     rw [hA,e1,e2] at h1
     cases h1
    refine wG tK ?_
    refine ZW ZM ?_
    refine ZS rfl ?_
    refine sN tK 2 ?_
    refine seg_name 110 (by simp only [go_sem]; exact rfl) (fun c110 h110 => ?_)
    simp only [go_sem]
    refine sN tK 4 ?_
    refine sCC Tryz.func21 (hf := fun hb => (refFids_ok x.act)) (hk := ?_)
    refine sN tK 2 ?_
    refine sCC Tryz.func124 (hf := fun hb => (rhas_ok (fids x.act) (by have := fids_len x.act; omega) r.act.fid)) (hk := ?_)
    refine sNq tK 7 ?_ ?_
    ·simp [go_sem]
     exact ⟨fun a b => ⟨⟨a,b⟩,fun c => ⟨⟨a,b⟩,c⟩⟩,fun a => ⟨a,fun b => ⟨a,b⟩⟩⟩
    refine seg_name 125 (by simp only [go_sem]; exact rfl) (fun c125 h125 => ?_)
    simp only [go_sem]
    refine sN tK 1 ?_
    refine sE ?_
    refine wKd ?_
    have hD : c125 = (s == 1 && bars r.act.fid r.act.dir r.act.name x) := by
     rw [← h125,← h110,hB]
     simp only [cond_and,cond_or,bars,Rec.names]
     cases (s == 1) <;> cases (touches x.act r.act.dir r.act.name) <;> simp [Bool.and_comm]
    refine wD (fun h => ?_) (fun h => ?_)
    ·have hstv : stOf l r (i + 1) = 2 := by
      have h1 : c125 = true := h
      rw [hD,Bool.and_eq_true] at h1
      rw [hst,eq_of_beq h1.1]
      simp [addStep,h1.2]
     refine wG tK ?_
     refine ZW ZM ?_
     refine ZS rfl ?_
     refine sN tK 1 ?_
     refine sC Tryz.func21 (hf := (refFids_ok x.act)) (hk := ?_)
     refine sN tK 2 ?_
     refine sC Tryz.func124 (hf := (rhas_ok (fids x.act) (by have := fids_len x.act; omega) r.act.fid)) (hk := ?_)
     refine sN tK 1 ?_
     refine sE ?_
     refine wKd ?_
     refine wD (fun h => ?_) (fun h => ?_)
     ·have hnm : x.names r.act.fid = false := by simpa [Rec.names] using h
      have hon : outOf l r (i + 1) = outOf l r i ++ [x] := by rw [hout,hnm]; rfl
      refine wGq tK ?_ ?_ (by simp only [go_sem,hw,ZR]; try exact rfl)
      ·simp [go_sem]
       omega
      refine ZB ⟨i + 1,by omega,by omega,ZU ?_ ?_ ?_⟩
      ·simp [go_sem,hstv,hon]
      ·simp [go_sem,hon,ZR]
      ·simp [go_sem]
     ·have hnm : x.names r.act.fid = true := by simpa [Rec.names] using h
      have hon : outOf l r (i + 1) = outOf l r i := by rw [hout,hnm]; rfl
      refine wG tK ?_ (by simp only [go_sem,hw]; try exact rfl) (by simp [go_sem,hw])
      refine ZB ⟨i + 1,by omega,by omega,ZU ?_ ?_ ?_⟩
      ·simp [go_sem,hstv,hon]
      ·simp [go_sem,hon]
      ·simp [go_sem]
    ·have hstv : stOf l r (i + 1) = s := by
      have h1 : c125 = false := h
      rw [hst]
      unfold addStep
      by_cases e0 : s = 0
      ·have hnm : isMade r.act.fid x = false := by
        cases e : isMade r.act.fid x with
        | false => rfl
        | true => exact absurd ⟨e0,e⟩ hs0
       simp [e0,hnm]
      ·by_cases e1 : s = 1
       ·have hnb : bars r.act.fid r.act.dir r.act.name x = false := by
         rw [hD,e1] at h1
         simpa using h1
        simp [e1,hnb]
       ·simp [e0,e1]
     refine wG tK ?_
     refine ZW ZM ?_
     refine ZS rfl ?_
     refine sN tK 1 ?_
     refine sC Tryz.func21 (hf := (refFids_ok x.act)) (hk := ?_)
     refine sN tK 2 ?_
     refine sC Tryz.func124 (hf := (rhas_ok (fids x.act) (by have := fids_len x.act; omega) r.act.fid)) (hk := ?_)
     refine sN tK 1 ?_
     refine sE ?_
     refine wKd ?_
     refine wD (fun h => ?_) (fun h => ?_)
     ·have hnm : x.names r.act.fid = false := by simpa [Rec.names] using h
      have hon : outOf l r (i + 1) = outOf l r i ++ [x] := by rw [hout,hnm]; rfl
      refine wGq tK ?_ ?_ (by simp only [go_sem,hw,ZR]; try exact rfl)
      ·simp [go_sem]
       omega
      refine ZB ⟨i + 1,by omega,by omega,ZU ?_ ?_ ?_⟩
      ·simp [go_sem,hstv,hon]
      ·simp [go_sem,hon,ZR]
      ·simp [go_sem]
     ·have hnm : x.names r.act.fid = true := by simpa [Rec.names] using h
      have hon : outOf l r (i + 1) = outOf l r i := by rw [hout,hnm]; rfl
      refine wG tK ?_ (by simp only [go_sem,hw]; try exact rfl) (by simp [go_sem,hw])
      refine ZB ⟨i + 1,by omega,by omega,ZU ?_ ?_ ?_⟩
      ·simp [go_sem,hstv,hon]
      ·simp [go_sem,hon]
      ·simp [go_sem]
  ·have e : i = l.length := by have := of_decide_eq_false h; omega
   subst e
   have hout : outOf l r l.length = l.filter fun x => !(x.names r.act.fid) := by unfold outOf; rw [List.take_length]
   have hst : (stOf l r l.length == 1) = cancels l r := by
    unfold stOf
    rw [List.take_length,addStep_cancels r hk4]
   refine wG tK ?_
   refine wD (fun h => ?_) (fun h => ?_)
   ·have hc : cancels l r = true := by rw [← hst]; exact h
    refine wG tK ?_
    refine ZZ 135 rfl (recRow_pure _) ?_
    simp only [go_sem]
    refine wT ?_
    simp [addLog,hc,addRes,hout]
   ·have hc : cancels l r = false := by rw [← hst]; exact h
    refine wG tK ?_
    refine ZL (fun i : Nat => i ≤ l.length) (fun i => l.length - i) (fun i => [(142,.int .i64 (i : Nat)),(7,.osl 166 9 0 (keptOf l r i).length),(8,.any),(9,.any),(10,.any),(11,.any),(12,.any),(13,.any),(14,.any),(15,.any),(16,.any),(17,.any),(18,.any),(19,.any),(20,.any),(21,.any),(22,.any),(23,.any),(24,.any),(25,.any),(26,.any),(27,.any),(28,.any),(29,.any),(30,.any),(31,.any),(32,.any),(33,.any),(34,.any),(35,.any),(36,.any),(37,.any),(38,.any),(39,.any),(40,.any),(41,.any),(42,.any),(43,.any),(44,.any),(45,.any),(46,.any),(47,.any),(48,.any),(49,.any),(50,.any),(51,.any),(52,.any),(53,.any),(54,.any),(55,.any),(56,.any),(57,.any),(58,.any),(59,.any),(60,.any),(61,.any),(62,.any),(63,.any),(64,.any),(65,.any),(66,.any),(67,.any),(68,.any),(69,.any),(70,.any),(71,.any),(72,.any),(73,.any),(74,.any),(75,.any),(76,.any),(77,.any),(78,.any),(79,.any),(80,.any),(81,.any),(82,.any),(83,.any),(84,.any),(85,.any),(86,.any),(87,.any),(88,.any),(89,.any),(90,.any),(91,.any),(92,.any),(93,.any),(94,.any),(95,.any),(96,.any),(97,.any),(98,.any),(99,.any),(100,.any),(101,.any),(102,.any),(103,.any),(104,.any),(105,.any),(106,.any),(107,.any),(108,.any),(109,.any),(110,.any),(111,.any),(112,.any),(113,.any),(114,.any),(115,.any),(116,.any),(117,.any),(118,.any),(119,.any),(120,.any),(121,.any),(122,.any),(123,.any),(124,.any),(125,.any),(126,.any),(127,.any),(128,.any),(129,.any),(130,.any),(131,.any),(132,.any),(133,.any),(134,.any),(135,.any),(136,.any),(137,.any),(138,.any),(139,.any),(143,.any),(144,.any),(145,.any),(146,.any),(147,.any),(148,.any),(149,.any),(150,.any),(151,.any),(152,.any),(153,.any),(154,.any),(155,.any),(156,.any),(157,.any),(158,.any),(159,.any),(160,.any),(161,.any),(162,.any),(163,.any),(164,.any),(165,.any),(166,.any),(167,.any)]) (fun i => [(166,.cells 56 9 ((keptOf l r i).map ZR))]) 0 (by omega) ?_ fun i hi => ?_
    ·simp only [go_sem]
     exact ZU (by simp [go_sem,keptOf]) (by simp [go_sem,keptOf]) (by simp [go_sem])
    simp only [go_sem]
    refine wG tK ?_
    refine wD (fun h => ?_) (fun h => ?_)
    ·have hlt : i < l.length := by have := of_decide_eq_true h; omega
     have hg : (l.map ZR).getD i [] = ZR (l.getD i default) := Fam.getD hlt
     have htk := ZT hlt
     generalize l.getD i default = x at hg htk
     have hkl : (keptOf l r i).length ≤ l.length := by unfold keptOf; have := List.length_filter_le (keeps r) (l.take i); simp at this; omega
     have hkn : keptOf l r (i + 1) = if keeps r x then keptOf l r i ++ [x] else keptOf l r i := by
      unfold keptOf
      rw [htk,List.filter_append]
      by_cases hk : keeps r x = true <;> simp [hk]
     have hw := wi1 (i := i) (by omega)
     refine wR ?_
     refine wNq tK 4 ?_ ?_ (h := by simp only [go_sem,hg,ZR]; try exact rfl)
     ·simp [hlt]
     refine ZZ 16 rfl (rfl) ?_
     simp only [go_sem]
     refine wR ?_
     refine wN tK 3 ?_
     refine Yn 148 (by simp only [go_sem]; exact rfl) (fun c148 h148 => ?_)
     simp only [go_sem]
     refine wN tK 6 ?_
     refine Yn 154 (by simp only [go_sem]; exact rfl) (fun c154 h154 => ?_)
     simp only [go_sem]
     refine wN tK 8 ?_
     refine Yn 162 (by simp only [go_sem]; exact rfl) (fun c162 h162 => ?_)
     simp only [go_sem]
     have hK : c162 = keeps r x := by
      rw [← h162,← h154,← h148]
      simp only [cond_or,keeps,stored,bne]
      generalize (r.act.kind == 3) = a1
      generalize (x.act.kind == 3) = a2
      generalize (x.act.fid == r.act.fid) = a3
      cases a1 <;> cases a2 <;> cases a3 <;> rfl
     refine wG tK ?_
     refine wD (fun h => ?_) (fun h => ?_)
     ·have hk2 : keptOf l r (i + 1) = keptOf l r i ++ [x] := by rw [hkn,← hK,show c162 = true from h]; rfl
      refine wGq tK ?_ ?_ (by simp only [go_sem,hw,ZR]; try exact rfl)
      ·simp [go_sem]
       omega
      refine ZB ⟨i + 1,by omega,by omega,ZU ?_ ?_ ?_⟩
      ·simp [go_sem,hk2]
      ·simp [go_sem,hk2,ZR]
      ·simp [go_sem]
     ·have hk2 : keptOf l r (i + 1) = keptOf l r i := by rw [hkn,← hK,show c162 = false from h]; rfl
      refine wG tK ?_ (by simp only [go_sem,hw]; try exact rfl) (by simp [go_sem,hw])
      refine ZB ⟨i + 1,by omega,by omega,ZU ?_ ?_ ?_⟩
      ·simp [go_sem,hk2]
      ·simp [go_sem,hk2]
      ·simp [go_sem]
    have e : i = l.length := by have := of_decide_eq_false h; omega
    subst e
    have hkept : keptOf l r l.length = unstored l r := by unfold keptOf; rw [List.take_length,unstored_filter]
    have hul := (unstored_sub l r).length_le
    rw [hkept]
    have hadd : addLog l r = if (unstored l r).length ≥ 20 then none else some (unstored l r ++ [r]) := by simp only [addLog,hc,Bool.false_eq_true,if_false]
    rw [hadd]
    generalize unstored l r = d at hul
    refine wG tK ?_
    refine wD (fun h => ?_) (fun h => ?_)
    ·have hd : d.length ≥ 20 := by have h2 := of_decide_eq_true h; omega
     refine wG tK ?_
     refine wT ?_
     rw [if_pos hd]; rfl
    ·have hd : ¬ d.length ≥ 20 := by have h2 := of_decide_eq_false h; omega
     refine wGq tK ?_ ?_ (by simp only [go_sem,ZR]; try exact rfl)
     ·simp [go_sem]
      omega
     refine ZZ 174 rfl (by rw [List.all_append,recRow_pure,Bool.true_and]; rfl) ?_
     simp only [go_sem]
     refine wT ?_
     rw [if_neg hd]
     simp only [addRes,List.map_append,List.map_cons,List.map_nil,ZR]
     rw [List.take_of_length_le (by simp)]
 ·have hc : cancels l r = false := by
   unfold cancels
   split
   ·rfl
   ·have : (r.act.kind == 4) = false := h
    rw [this]; rfl
  refine wG tK ?_
  refine ZL (fun i : Nat => i ≤ l.length) (fun i => l.length - i) (fun i => [(142,.int .i64 (i : Nat)),(7,.osl 166 9 0 (keptOf l r i).length),(8,.any),(9,.any),(10,.any),(11,.any),(12,.any),(13,.any),(14,.any),(15,.any),(16,.any),(17,.any),(18,.any),(19,.any),(20,.any),(21,.any),(22,.any),(23,.any),(24,.any),(25,.any),(26,.any),(27,.any),(28,.any),(29,.any),(30,.any),(31,.any),(32,.any),(33,.any),(34,.any),(35,.any),(36,.any),(37,.any),(38,.any),(39,.any),(40,.any),(41,.any),(42,.any),(43,.any),(44,.any),(45,.any),(46,.any),(47,.any),(48,.any),(49,.any),(50,.any),(51,.any),(52,.any),(53,.any),(54,.any),(55,.any),(56,.any),(57,.any),(58,.any),(59,.any),(60,.any),(61,.any),(62,.any),(63,.any),(64,.any),(65,.any),(66,.any),(67,.any),(68,.any),(69,.any),(70,.any),(71,.any),(72,.any),(73,.any),(74,.any),(75,.any),(76,.any),(77,.any),(78,.any),(79,.any),(80,.any),(81,.any),(82,.any),(83,.any),(84,.any),(85,.any),(86,.any),(87,.any),(88,.any),(89,.any),(90,.any),(91,.any),(92,.any),(93,.any),(94,.any),(95,.any),(96,.any),(97,.any),(98,.any),(99,.any),(100,.any),(101,.any),(102,.any),(103,.any),(104,.any),(105,.any),(106,.any),(107,.any),(108,.any),(109,.any),(110,.any),(111,.any),(112,.any),(113,.any),(114,.any),(115,.any),(116,.any),(117,.any),(118,.any),(119,.any),(120,.any),(121,.any),(122,.any),(123,.any),(124,.any),(125,.any),(126,.any),(127,.any),(128,.any),(129,.any),(130,.any),(131,.any),(132,.any),(133,.any),(134,.any),(135,.any),(136,.any),(137,.any),(138,.any),(139,.any),(143,.any),(144,.any),(145,.any),(146,.any),(147,.any),(148,.any),(149,.any),(150,.any),(151,.any),(152,.any),(153,.any),(154,.any),(155,.any),(156,.any),(157,.any),(158,.any),(159,.any),(160,.any),(161,.any),(162,.any),(163,.any),(164,.any),(165,.any),(166,.any),(167,.any)]) (fun i => [(166,.cells 56 9 ((keptOf l r i).map ZR))]) 0 (by omega) ?_ fun i hi => ?_
  ·simp only [go_sem]
   exact ZU (by simp [go_sem,keptOf]) (by simp [go_sem,keptOf]) (by simp [go_sem])
  simp only [go_sem]
  refine wG tK ?_
  refine wD (fun h => ?_) (fun h => ?_)
  ·have hlt : i < l.length := by have := of_decide_eq_true h; omega
   have hg : (l.map ZR).getD i [] = ZR (l.getD i default) := Fam.getD hlt
   have htk := ZT hlt
   generalize l.getD i default = x at hg htk
   have hkl : (keptOf l r i).length ≤ l.length := by unfold keptOf; have := List.length_filter_le (keeps r) (l.take i); simp at this; omega
   have hkn : keptOf l r (i + 1) = if keeps r x then keptOf l r i ++ [x] else keptOf l r i := by
    unfold keptOf
    rw [htk,List.filter_append]
    by_cases hk : keeps r x = true <;> simp [hk]
   have hw := wi1 (i := i) (by omega)
   refine wR ?_
   refine wNq tK 4 ?_ ?_ (h := by simp only [go_sem,hg,ZR]; try exact rfl)
   ·simp [hlt]
   refine ZZ 16 rfl (rfl) ?_
   simp only [go_sem]
   refine wR ?_
   refine wN tK 3 ?_
   refine Yn 148 (by simp only [go_sem]; exact rfl) (fun c148 h148 => ?_)
   simp only [go_sem]
   refine wN tK 6 ?_
   refine Yn 154 (by simp only [go_sem]; exact rfl) (fun c154 h154 => ?_)
   simp only [go_sem]
   refine wN tK 8 ?_
   refine Yn 162 (by simp only [go_sem]; exact rfl) (fun c162 h162 => ?_)
   simp only [go_sem]
   have hK : c162 = keeps r x := by
    rw [← h162,← h154,← h148]
    simp only [cond_or,keeps,stored,bne]
    generalize (r.act.kind == 3) = a1
    generalize (x.act.kind == 3) = a2
    generalize (x.act.fid == r.act.fid) = a3
    cases a1 <;> cases a2 <;> cases a3 <;> rfl
   refine wG tK ?_
   refine wD (fun h => ?_) (fun h => ?_)
   ·have hk2 : keptOf l r (i + 1) = keptOf l r i ++ [x] := by rw [hkn,← hK,show c162 = true from h]; rfl
    refine wGq tK ?_ ?_ (by simp only [go_sem,hw,ZR]; try exact rfl)
    ·simp [go_sem]
     omega
    refine ZB ⟨i + 1,by omega,by omega,ZU ?_ ?_ ?_⟩
    ·simp [go_sem,hk2]
    ·simp [go_sem,hk2,ZR]
    ·simp [go_sem]
   ·have hk2 : keptOf l r (i + 1) = keptOf l r i := by rw [hkn,← hK,show c162 = false from h]; rfl
    refine wG tK ?_ (by simp only [go_sem,hw]; try exact rfl) (by simp [go_sem,hw])
    refine ZB ⟨i + 1,by omega,by omega,ZU ?_ ?_ ?_⟩
    ·simp [go_sem,hk2]
    ·simp [go_sem,hk2]
    ·simp [go_sem]
  have e : i = l.length := by have := of_decide_eq_false h; omega
  subst e
  have hkept : keptOf l r l.length = unstored l r := by unfold keptOf; rw [List.take_length,unstored_filter]
  have hul := (unstored_sub l r).length_le
  rw [hkept]
  have hadd : addLog l r = if (unstored l r).length ≥ 20 then none else some (unstored l r ++ [r]) := by simp only [addLog,hc,Bool.false_eq_true,if_false]
  rw [hadd]
  generalize unstored l r = d at hul
  refine wG tK ?_
  refine wD (fun h => ?_) (fun h => ?_)
  ·have hd : d.length ≥ 20 := by have h2 := of_decide_eq_true h; omega
   refine wG tK ?_
   refine wT ?_
   rw [if_pos hd]; rfl
  ·have hd : ¬ d.length ≥ 20 := by have h2 := of_decide_eq_false h; omega
   refine wGq tK ?_ ?_ (by simp only [go_sem,ZR]; try exact rfl)
   ·simp [go_sem]
    omega
   refine ZZ 174 rfl (by rw [List.all_append,recRow_pure,Bool.true_and]; rfl) ?_
   simp only [go_sem]
   refine wT ?_
   rw [if_neg hd]
   simp only [addRes,List.map_append,List.map_cons,List.map_nil,ZR]
   rw [List.take_of_length_le (by simp)]
end La
