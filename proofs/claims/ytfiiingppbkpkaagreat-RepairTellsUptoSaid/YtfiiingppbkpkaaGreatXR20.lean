/- Texts of this claim, part 20: RTake, EngAU, RBack, RStep, RStepR, RWorld, NewS, RNew, RBuild, Turn, Ren, Same, SameLog, RSame, RLaw7. No condition. -/
import Derived.Test.YtfiiingppbkpkaaGreatXR19
import Derived.Test.YtfiiingppbkpkaaGreatXR10
import Derived.Test.YtfiiingppbkpkaaGreatXR7
import Derived.Test.YtfiiingppbkpkaaGreatXR18
import Derived.Test.YtfiiingppbkpkaaGreatXR15
import Derived.Test.YtfiiingppbkpkaaGreatXR14
import Derived.Test.YtfiiingppbkpkaaGreatXR12
set_option maxRecDepth 10000
set_option maxHeartbeats 4000000
set_option linter.unusedSimpArgs false
set_option linter.unusedVariables false
namespace La
open Go Go.Eng Go.Proofs
theorem rtake_ok {k : Nat} (s : Srv) (h : SrvOK k s) (hk : k ≤ 70000000) (c : Int) (log : List Rec) (hl2 : log.length ≤ 2000000) (hfit : ∀ r,r ∈ log → ActFit r.act) :
  FnOK Tryz.prog 16 [.agg (ZQ s),.int .i64 c,.sl (log.map ZR)] []
   (fun r _ => r = .tup [.agg (ZQ (takeS s c log)),.sl ((judgeJ s.tree s.next ((s.past.length + 1 : Nat) : Int) log).vs.map ZV)]) := by
 have hlen := h.len
 have hnx := h.next
 have hg := h.hist.good
 have hof := of_rm s.tree (by have := hg.len; omega)
 have hj := rjudge_ok s.past s.tree s.next log h.hist (by omega) (by omega) hl2 hfit
 have hji := JInv.judge h.hist c s.next log hfit
 have hinv := hji.len
 have hls := list_ok (judgeJ s.tree s.next ((s.past.length + 1 : Nat) : Int) log).j.l hji.hist.good.up (by have := hji.hist.good.len; omega)
 clear hji
 have hT : takeS s c log = ⟨(judgeJ s.tree s.next ((s.past.length + 1 : Nat) : Int) log).j.l,(judgeJ s.tree s.next ((s.past.length + 1 : Nat) : Int) log).j.next,pastTo s c (judgeJ s.tree s.next ((s.past.length + 1 : Nat) : Int) log).done (judgeJ s.tree s.next ((s.past.length + 1 : Nat) : Int) log).done.length⟩ := by
  unfold takeS pastTo; rw [List.take_length]
 have hwp : IntKind.i64.wrap ((s.past.length : Int) + 1) = ((s.past.length + 1 : Nat) : Int) := by rw [Eng.wrap_small (by omega) (by omega)]; rfl
 rw [hT]
 clear hT
 unfold judgedA at hj
 unfold ZQ
 generalize judgeJ s.tree s.next ((s.past.length + 1 : Nat) : Int) log = g at *
 have hsu := fun i => @pastTo_succ s c g.done i
 have hle := fun i => @pastTo_len s c g.done i
 have hz : pastTo s c g.done 0 = s.past := by simp [pastTo]
 generalize pastTo s c g.done = P at *
 refine ZF tK (Tryz.func16) rfl (fun C => ?_)
 simp only [Tryz.ntmps16,Tryz.results16,go_sem]
 refine wG tK ?_
 refine ZW ZM ?_
 refine ZS rfl ?_
 refine sN tK 2 ?_
 refine sC Tryz.func20 (hf := (hof)) (hk := ?_)
 refine sN tK 7 ?_ (h := by simp only [go_sem,hwp]; try exact rfl) (hp := by simp [go_sem,hwp])
 refine sC Tryz.func40 (hf := (hj)) (hk := ?_)
 refine sW tK ?_
 refine sT tK ?_
 refine sE ?_
 refine wKd ?_
 try simp only [go_sem,gA,gB,gC]
 refine wG tK ?_
 refine ZW ZM ?_
 refine segz_start [(28,[28])] rfl (safe0 (by simp [go_sem,BlkFree])) ?_
 refine zN tK 2 (hk := ?_)
 refine zC Tryz.func37 (hf := (hls)) (hk := ?_)
 refine zN tK 2 (hk := ?_)
 refine zW tK (hk := ?_)
 refine zN tK 2 (hk := ?_)
 refine zA tK (h2 := ?_) (h4 := ?_) (h5 := ?_) (h7 := ?_) (h8 := ?_) (hzz := ?_) (hn := rfl) (hr := rfl) (hk := ?_)
 ·exact pastRow_rowsOf _
 ·exact pastRow_leaf _
 ·rw [show tab.byt 88 = 96 from rfl]
  simp
  omega
 ·simp
 ·exact pastRow_noRef 28 s.past
 ·intro z hz
  simp only [List.mem_cons,List.not_mem_nil,or_false] at hz
  subst hz
  exact .inl ⟨by decide,pastRow_noRef 28 s.past⟩
 refine zB tK (hk := ?_)
 refine zW tK (hk := ?_)
 refine segz_end (by kernel_rfl) (by simp only [go_sem]; exact rfl) ?_
 refine dS tK ?_
 refine wKd ?_
 try simp only [go_sem,gA,gB,gC]
 refine wG tK ?_
 refine Yl (le_mvB 31 46 9 (by simp only [go_sem]; exact rfl) (by simp only [go_sem]; try exact rfl) (by simp only [go_sem]; try exact rfl) (by simp only [go_sem]; exact rfl) (by simp only [go_sem,hdel]; exact rfl) (by simp only [go_sem,hdel]; exact rfl) rfl (by simp only [go_sem]; try exact rfl) (by simp only [go_sem,mv1,kill]; exact rfl) (by simp only [go_sem,mv1,kill]; exact rfl)) ?_
 refine ZL (fun i : Nat => i ≤ g.done.length) (fun i => g.done.length - i) (fun i => [(11,.any),(31,.any),(36,.int .i64 i),(37,.any),(38,.any),(39,.any),(40,.any),(41,.any),(42,.any),(43,.any),(44,.any),(45,.any),(46,.any),(47,.any),(48,.any)])
  (fun i => [(9,.cells 31 3 [[.sl (g.j.l.map ZN),.int .i64 g.j.next,.osl 46 8 0 (P i).length]]),(46,.cells 88 8 ((P i).map ZP))]) 0 (by omega) ?_ fun i hi => ?_
 ·rw [hz]
  simp only [go_sem]
  exact ZU (by simp [go_sem]) (by simp [go_sem]) (by simp [go_sem])
 simp only [go_sem]
 refine wG tK ?_
 refine wD (fun h => ?_) (fun h => ?_)
 ·have hlt : i < g.done.length := by simp at h; omega
  have hg : (g.done.map ZA).getD i [] = ZA (g.done.getD i default) := Fam.getD hlt
  have hs1 := hsu i hlt
  have hl1 := hle i (by omega)
  have how' := wi1 (i := i) (by omega)
  generalize g.done.getD i default = a at *
  generalize P i = Q at *
  refine wR ?_
  refine wNq tK 4 ?_ ?_ (h := by simp only [go_sem,hg,ZA]; try exact rfl)
  ·simp [hg,ZA,hlt]
  refine wR ?_
  refine wN tK 6 ?_
  refine Yl (le_killB 46 9 (by simp only [go_sem]; exact rfl) (by simp only [go_sem,kill]; exact rfl)) ?_
  refine wGq tK ?_ ?_ (by simp only [go_sem,how']; try exact rfl)
  ·simp [rowsOf,ZP]; omega
  refine ZB ⟨i + 1,by omega,by omega,ZU ?_ ?_ ?_⟩
  ·simp [go_sem]
  ·simp [go_sem,hs1,ZP,List.take_length]
  ·simp [go_sem]
 ·have e : i = g.done.length := by simp at h; omega
  subst e
  refine wG tK ?_
  refine ZZ 46 rfl (pastRow_pure _) ?_
  simp only [go_sem]
  refine ZW ZM ?_
  refine ZS rfl ?_
  refine sN tK 3 ?_
  refine sT tK ?_
  refine sG tK ?_
  refine sE ?_
  refine wKd ?_
  try simp only [go_sem,gA,gB,gC]
  refine wG tK ?_
  refine wT ?_
  simp
end La
namespace Go.Eng
section
variable {P : Program} {T : Tab} {C : Ctx} {σ σ' : St} {a : Act} {w : World} {Ret : St → Prop} {k : List It}
def firstOKb (r : Nat) (o : Oper) (ops : Array Oper) : Bool :=
 (o.after.all fun e => !Region.binds .any e) && (List.range ops.size).all fun j => j == r || (match ops[j]? with | some oj => (oj.after.any fun e => Region.binds .any e && e.on == r) || o.apart ops oj | none => true)
theorem draw_earlyB (r : Nat) (p q : List Nat) {ops ops' : Array Oper} {Q : Exit → Act → World → Prop} {o : Oper} {x : Operand} (ho : ops[r]? = some o) (hop : o.op = .move x) (hg : o.guard = none)
  (hQ : ∀ c a w,¬ Q (.panic c) a w) (h1 : remOK r p q ops = true) (h2 : firstOKb r o ops = true) (he : (Ym r p q ops.toList).toArray = ops') {y : AV} (hx : evS σ x = (True,y))
  (hk : DrawOK P C ops' Q 0 (σ.put o.dst y)) : DrawOK P C ops Q 0 σ := by
 subst he
 have hF := rem_facts h1
 have hrl := hF.rl
 have hpl := hF.pl
 intro a w ⟨μ,S,hi⟩
 have hv := hi.evS x (by rw [hx]; trivial)
 rw [hx] at hv
 obtain ⟨u,hr,hu⟩ : ∃ u,Rd μ S w u y ∧ u = a.eval x := ⟨_,hv,rfl⟩
 have hrel : Rel C (σ.put o.dst y) (a.put o.dst u) w := ⟨μ,S,hi.put o.dst hr⟩
 have hk' := hk _ _ hrel
 have hs : (Ym r p q ops.toList).toArray.size + 1 = ops.size := by simp [Ym,hpl]
 obtain ⟨n,hn⟩ : ∃ n,ops.size = n + 1 := ⟨ops.size - 1,by omega⟩
 have hsz : (Ym r p q ops.toList).toArray.size = n := by omega
 unfold firstOKb at h2
 rw [Bool.and_eq_true] at h2
 have hd0 : ∀ (m i : Nat) (d : Bool),(Yt m 0).getD i d = if i < m then false else d := fun m i d => by rw [doneTo_get]; simp
 rw [hn,Nat.sub_zero]
 refine wpAny_first (v := u) ho hF.sel (fun c a w hc => absurd hc (hQ c _ _)) n _ a w (fun k oj hoj hkr _ hw => ?_) (mem_ready.2 ⟨?_,o,ho,fun e he hb => by have := Array.all_eq_true'.1 h2.1 e he; rw [hb] at this; cases this⟩) (.inl ⟨by rw [Region.wanted,hg],fun w' => ?_⟩) ?_
 ·have := List.all_eq_true.1 h2.2 k (List.mem_range.2 (Array.getElem?_eq_some_iff.1 hoj).1)
  rw [hoj] at this
  simp only [Bool.or_eq_true,beq_iff_eq,Array.any_eq_true',Bool.and_eq_true] at this
  rcases this with h | ⟨e,he,hb,hon⟩ | h
  ·exact absurd h hkr
  ·exact absurd hon (hw e he hb)
  ·exact h
 ·rw [← hn,hd0,if_pos hrl]
 ·subst hu
  simp [execOp,hop]
 ·rw [hsz,Nat.sub_zero] at hk'
  refine rem_any hF n _ _ _ _ (by simp [Yt,hn]) (by simp [Yt,hn]) ?_ (fun i hi => ?_) hk'
  ·rw [Array.getD_eq_getD_getElem?,Array.getElem?_setIfInBounds,if_pos rfl,if_pos (by simp [Yt]; omega)]; rfl
  ·have e2 : ((Yt (n + 1) 0).setIfInBounds r true).getD i false = (Yt (n + 1) 0).getD i false := by
    rw [Array.getD_eq_getD_getElem?,Array.getElem?_setIfInBounds,if_neg (fun e => hi e.symm),← Array.getD_eq_getD_getElem?]
   rw [e2,hd0,hd0]
   split <;> split <;> rfl
end
end Go.Eng
namespace La
open Go Go.Eng Go.Proofs
def refT (log : List Rec) (vs : List Verdict) (i : Nat) : List Rec := refusedL (log.take i) (vs.take i)
def doneT (vs : List Verdict) (i : Nat) : Nat := doneN (vs.take i)
theorem refusedL_snoc (r : Rec) (v : Verdict) : ∀ {l : List Rec} {vs : List Verdict},l.length = vs.length → refusedL (l ++ [r]) (vs ++ [v]) = refusedL l vs ++ if v.err = 0 then [] else [r]
 | [],[],_ => by
  simp only [List.nil_append,refusedL]
  first | done | (split <;> rfl)
 | [],_ :: _,h => by simp at h
 | _ :: _,[],h => by simp at h
 | a :: l,b :: vs,h => by
  have ih := refusedL_snoc r v (l := l) (vs := vs) (by simpa using h)
  simp only [List.cons_append,refusedL]
  rw [ih]
  split
  ·rfl
  ·rfl
theorem refT_succ {log : List Rec} {vs : List Verdict} {i : Nat} (h : i < vs.length) (hl : vs.length = log.length) : refT log vs (i + 1) = if (vs.getD i default).err = 0 then refT log vs i else refT log vs i ++ [log.getD i default] := by
 unfold refT
 rw [ZT h,ZT (show i < log.length by omega),refusedL_snoc _ _ (by simp; omega)]
 split
 ·rw [List.append_nil]
 ·rfl
theorem doneT_succ {vs : List Verdict} {i : Nat} (h : i < vs.length) : doneT vs (i + 1) = if (vs.getD i default).err = 0 then doneT vs i + 1 else doneT vs i := by
 unfold doneT doneN
 rw [ZT h,List.filter_append,List.length_append]
 generalize vs.getD i default = v
 by_cases e : v.err = 0
 ·rw [if_pos e]; simp [e]
 ·rw [if_neg e]; simp [e]
theorem doneT_le (vs : List Verdict) (i : Nat) (h : i ≤ vs.length) : doneT vs i ≤ i := by
 unfold doneT doneN
 have := List.length_filter_le (fun v : Verdict => v.err == 0) (vs.take i)
 rw [List.length_take] at this
 omega
theorem refusedL_len : ∀ (l : List Rec) (vs : List Verdict),(refusedL l vs).length ≤ l.length
 | [],_ => by simp [refusedL]
 | _ :: _,[] => by simp [refusedL]
 | a :: l,b :: vs => by
  have ih := refusedL_len l vs
  simp only [refusedL]
  split
  ·simp only [List.length_cons]; omega
  ·simp only [List.length_cons]; omega
theorem refT_len (log : List Rec) (vs : List Verdict) (i : Nat) : (refT log vs i).length ≤ log.length := Nat.le_trans (refusedL_len _ _) (by rw [List.length_take]; omega)
def repT (c : Cli) (vs : List Verdict) (i : Nat) : List Rec := c.repair ++ refT c.log vs i
theorem repT_succ {c : Cli} {vs : List Verdict} {i : Nat} (h : i < vs.length) (hl : vs.length = c.log.length) : repT c vs (i + 1) = if (vs.getD i default).err = 0 then repT c vs i else repT c vs i ++ [c.log.getD i default] := by
 unfold repT
 rw [refT_succ h hl]
 split
 ·rfl
 ·rw [List.append_assoc]
theorem repT_len (c : Cli) (vs : List Verdict) (i : Nat) : (repT c vs i).length ≤ c.repair.length + c.log.length := by
 unfold repT
 rw [List.length_append]
 have := refT_len c.log vs i
 omega
def backT (u : U) (l : List Rec) : U := ⟨{ u.c with repair := l },u.s⟩
theorem rback_ok {B T : Nat} (u : U) (h : UInv B T u) (hB : B ≤ 40000000) (G Y N : Nat → Nat) : FnOK Tryz.prog 85 [.ptr 900 13 0 0] (uH u G Y N)
  (fun r H => r = .tup [.int .i64 (doneN (backVs u)),.int .i64 ((backVs u).length - doneN (backVs u) : Nat)] ∧ Holds (uH (backU u) G Y N) H) := by
 have hci := h.cli
 have hll := hci.log
 have hfit : ∀ r,r ∈ u.c.log → ActFit r.act := fun r hr => (hci.logS r hr).fit
 have htk := rtake_ok u.s h.srv (by omega) u.c.number u.c.log (by omega) hfit
 have hvl : (backVs u).length = u.c.log.length := (JInv.judge h.srv.hist u.c.number u.s.next u.c.log hfit).vlen
 have hs2 := h.srv.take u.c.number hfit
 have hrep := hci.rep
 have hcl : u.c.cache.length ≤ 24 := by have := hci.len; have := hci.room; omega
 have hbU : backU u = ⟨{ u.c with away := false,log := [],repair := repT u.c (backVs u) (backVs u).length,cache := (u.c.cache.filter fun k => !k.dirty).filter fun k => !staleK (backS u).tree k },backS u⟩ := by
  unfold backU repT refT
  rw [List.take_length,hvl,List.take_length]
 have hdn : doneN (backVs u) = doneT (backVs u) (backVs u).length := by unfold doneT; rw [List.take_length]
 rw [hbU,hdn]
 have hst : ∀ i,i < (backVs u).length → _ := fun i hi => repT_succ (c := u.c) hi hvl
 have hsd : ∀ i,i < (backVs u).length → _ := fun i hi => doneT_succ (vs := backVs u) hi
 have hdl := doneT_le (backVs u)
 have hrl := repT_len u.c (backVs u)
 have h0 : repT u.c (backVs u) 0 = u.c.repair := by simp [repT,refT,refusedL]
 have h00 : doneT (backVs u) 0 = 0 := by simp [doneT,doneN]
 have hof := of_rm (backS u).tree (by have := hs2.hist.good.len; unfold backS; omega)
 have hfr := rfreshK_ok (u.c.cache.filter fun k => !k.dirty) (backS u).tree (Nat.le_trans (List.length_filter_le _ _) (by omega)) hs2.hist.good.up
 unfold backVs at *
 unfold backS at *
 generalize (judgeJ u.s.tree u.s.next ((u.s.past.length + 1 : Nat) : Int) u.c.log).vs = vs at *
 generalize takeS u.s u.c.number u.c.log = s2 at *
 generalize repT u.c vs = R at *
 generalize doneT vs = D at *
 clear hbU hdn
 unfold ZQ at htk
 unfold uH uRow
 refine ZF tK (Tryz.func85) rfl (fun C => ?_)
 simp only [Tryz.ntmps85,Tryz.results85,go_sem]
 refine wG tK ?_
 refine ZW ZM ?_
 refine ZS rfl ?_
 refine sN tK 14 ?_
 refine sC Tryz.func16 (hf := (htk)) (hk := ?_)
 refine sN tK 3 ?_
 refine sW tK ?_
 refine sT tK ?_
 refine sG tK ?_
 refine sE ?_
 refine wKd ?_
 try simp only [go_sem,gA,gB,gC]
 refine wG tK ?_
 refine ZL (fun i : Nat => i ≤ vs.length) (fun i => vs.length - i) (fun i => [(6,.int .i64 (D i : Nat)),(7,.any),(8,.any),(32,.int .i64 i),(33,.any),(34,.any),(35,.any),(36,.any),(37,.any),(38,.any),(39,.any),(40,.any),(41,.any),(42,.any),(43,.any),(44,.any),(45,.any),(46,.any),(47,.any),(48,.any),(49,.any),(50,.any),(51,.any),(52,.any),(53,.any),(54,.any),(55,.any),(56,.any),(57,.any),(58,.any),(59,.any),(60,.any),(61,.any),(62,.any),(63,.any)])
  (fun i => [(900,.cells 156 13 [uRow (backT u (R i))])]) 0 (by omega) ?_ fun i hi => ?_
 ·rw [h00]
  unfold uRow backT
  rw [h0]
  simp only [go_sem]
  exact ZU (by simp [go_sem]) (by simp [go_sem]) (by simp [go_sem])
 unfold uRow backT
 simp only [go_sem]
 refine wG tK ?_
 refine wD (fun h => ?_) (fun h => ?_)
 ·have hlt : i < vs.length := by simp at h; omega
  have hlt2 : i < u.c.log.length := by omega
  have hg : (vs.map ZV).getD i [] = ZV (vs.getD i default) := Fam.getD hlt
  have hgl : (u.c.log.map ZR).getD i [] = ZR (u.c.log.getD i default) := Fam.getD hlt2
  have hs1 := hst i hlt
  have hs3 := hsd i hlt
  have hl1 := hdl i (by omega)
  have hl2 := hrl i
  have how' := wi1 (i := i) (by omega)
  have hwd : IntKind.i64.wrap ((D i : Int) + 1) = ((D i + 1 : Nat) : Int) := by rw [Eng.wrap_small (by omega) (by omega)]; rfl
  generalize u.c.log.getD i default = r at *
  generalize vs.getD i default = v at *
  generalize R i = Q at *
  refine wR ?_
  refine wNq tK 6 ?_ ?_ (h := by simp only [go_sem,hg,ZV]; try exact rfl)
  ·simp [hg,ZV,hlt]
  refine wG tK ?_
  by_cases he : v.err = 0
  ·rw [if_pos he] at hs1 hs3
   refine wDT (hb := by simp [he]) (hk := ?_)
   refine wG tK ?_ (by simp only [go_sem,hwd,how']; try exact rfl) (by simp [go_sem,hwd,how'])
   refine ZB ⟨i + 1,by omega,by omega,ZU ?_ ?_ ?_⟩
   ·simp [go_sem,hs3]
   ·simp [go_sem,hs1,uRow,backT]
   ·simp [go_sem]
  ·rw [if_neg he] at hs1 hs3
   have hnr2 : ∀ id,BlkFree id (.cells 56 9 (List.take Q.length (Q.map ZR) ++ [ZR r])) := fun id => by
    rw [show List.take Q.length (Q.map ZR) ++ [ZR r] = (Q ++ [r]).map ZR by simp]
    exact recRow_noRef id _
   refine wDF (hb := by simp [he]) (hk := ?_)
   refine wG tK ?_
   refine ZW ZM ?_
   refine segz_start [(43,[43]),(49,[49])] rfl (safe0 (by simp [go_sem,BlkFree])) ?_
   refine zN tK 1 (hk := ?_)
   refine zW tK (hk := ?_)
   refine zN tK 5 (hk := ?_)
   refine zA tK (h2 := ?_) (h4 := ?_) (h5 := ?_) (h7 := ?_) (h8 := ?_) (hzz := ?_) (hn := rfl) (hr := rfl) (hk := ?_)
   ·exact recRow_rowsOf _
   ·exact recRow_leaf _
   ·rw [show tab.byt 56 = 104 from rfl]
    simp
    omega
   ·simp
   ·exact recRow_noRef 43 _
   ·intro z hz
    simp only [List.mem_cons,List.not_mem_nil,or_false] at hz
    rcases hz with rfl | rfl
    ·exact .inl ⟨by decide,recRow_noRef 43 _⟩
    ·exact .inr ⟨rfl,by decide⟩
   refine zN tK 6 (hk := ?_)
   refine zN tK 2 (h := by simp only [go_sem,hgl,ZR]; try exact rfl) (hp := ?_) (hk := ?_)
   ·simp [hgl,ZR,hlt2]
   refine zW tK (hk := ?_)
   refine zA tK (h2 := ?_) (h4 := ?_) (h5 := ?_) (h7 := ?_) (h8 := ?_) (hzz := ?_) (hn := rfl) (hr := rfl) (hk := ?_)
   ·intro row h; simp at h; subst h; rfl
   ·rfl
   ·rw [show tab.byt 56 = 104 from rfl]
    simp
    omega
   ·simp
   ·exact hnr2 49
   ·intro z hz
    simp only [List.mem_cons,List.not_mem_nil,or_false] at hz
    rcases hz with rfl | rfl
    ·exact .inl ⟨by decide,hnr2 43⟩
    ·exact .inl ⟨by decide,hnr2 49⟩
   refine zN tK 3 (hk := ?_)
   refine segz_end (by kernel_rfl) (by simp only [go_sem]; exact rfl) ?_
   refine dS tK ?_
   refine wKd ?_
   try simp only [go_sem,gA,gB,gC]
   refine ZZ 59 rfl (by rw [List.all_append,recRow_pure]; rfl) ?_
   simp only [go_sem]
   refine wG tK ?_ (by simp only [go_sem,how']; try exact rfl) (by simp [go_sem,how'])
   refine ZB ⟨i + 1,by omega,by omega,ZU ?_ ?_ ?_⟩
   ·simp [go_sem,hs3]
   ·simp [go_sem,hs1,uRow,backT,ZR]
    exact List.take_of_length_le (by simp)
   ·simp [go_sem]
 ·have e : i = vs.length := by simp at h; omega
  subst e
  clear hst hsd
  have hl1 := hdl vs.length (Nat.le_refl _)
  generalize hD : D vs.length = d at *
  generalize R vs.length = Q at *
  refine wG tK ?_
  refine Yl (Ze 80 113 8 (by simp only [go_sem]; try exact rfl)) ?_
  simp only [go_sem]
  refine ZL (fun i : Nat => i ≤ u.c.cache.length) (fun i => u.c.cache.length - i) (fun i => [(9,.osl 80 8 0 ((u.c.cache.take i).filter fun k => !k.dirty).length),(11,.any),(70,.int .i64 i),(71,.any),(72,.any),(73,.any),(74,.any),(75,.any),(76,.any),(77,.any),(78,.any),(79,.any),(80,.any),(81,.any)]) (fun i => [(80,.cells 113 8 (((u.c.cache.take i).filter fun k => !k.dirty).map ZK))]) 0 (by omega) ?_ fun i hi => ?_
  ·simp only [go_sem]
   exact ZU (by simp [go_sem]) (by simp [go_sem]) (by simp [go_sem])
  simp only [go_sem]
  refine wG tK ?_
  refine wD (fun h => ?_) (fun h => ?_)
  ·have hlt : i < u.c.cache.length := by simp at h; omega
   have hg : (u.c.cache.map ZK).getD i [] = ZK (u.c.cache.getD i default) := Fam.getD hlt
   have hw := wi1 (i := i) (by omega)
   have htk2 : (u.c.cache.take (i + 1)).filter (fun k => !k.dirty) = (u.c.cache.take i).filter (fun k => !k.dirty) ++ if (u.c.cache.getD i default).dirty = true then [] else [u.c.cache.getD i default] := by
    rw [ZT hlt,List.filter_append,List.filter_cons]
    cases (u.c.cache.getD i default).dirty <;> simp
   have hll2 : ((u.c.cache.take i).filter fun k => !k.dirty).length ≤ i := by
    have := List.length_filter_le (fun k : Kept => !k.dirty) (u.c.cache.take i)
    simp only [List.length_take] at this
    omega
   generalize (u.c.cache.take i).filter (fun k => !k.dirty) = F at htk2 hll2
   generalize u.c.cache.getD i default = k at hg htk2
   have htq : List.take F.length (F.map ZK) = F.map ZK := List.take_of_length_le (by simp)
   refine wR ?_
   refine wNq tK 4 ?_ ?_ (h := by simp only [go_sem,hg,ZK]; try exact rfl)
   ·simp [hg,ZK,hlt]
   refine wG tK ?_
   cases hd : k.dirty with
   | true =>
    rw [hd,if_pos rfl,List.append_nil] at htk2
    refine Vf rfl ?_
    refine wG tK ?_ (by simp only [go_sem,hw]; try exact rfl) (by simp [go_sem,hw])
    refine ZB ⟨i + 1,by omega,by omega,ZU ?_ ?_ ?_⟩
    ·simp [go_sem,htk2]
    ·simp [go_sem,htk2]
    ·simp [go_sem]
   | false =>
    rw [hd,if_neg (by simp)] at htk2
    refine Vt rfl ?_
    refine wGq tK ?_ ?_ (by simp only [go_sem,hw]; try exact rfl)
    ·simp [htq,refs]
     omega
    refine ZB ⟨i + 1,by omega,by omega,ZU ?_ ?_ ?_⟩
    ·simp [go_sem,htk2]
    ·simp [go_sem,htk2,htq,ZK,hd]
    ·simp [go_sem]
  ·have e : i = u.c.cache.length := by simp at h; omega
   subst e
   rw [List.take_length]
   refine wG tK ?_
   refine ZZ 80 rfl (keptRow_pure _) ?_
   simp only [go_sem]
   refine ZW ZM ?_
   refine draw_earlyB 2 [0,1,3,4,5,6,7,8,9,10,11,12,13,14] [0,1,0,2,3,4,5,6,7,8,9,10,11,12,13] rfl rfl rfl (fun _ _ _ h => h) (by kernel_rfl) (by kernel_rfl) (by simp [Ym,remOp,renE]; exact rfl) (by simp only [go_sem]; try exact rfl) ?_
   try simp only [go_sem,gA,gB,gC]
   refine draw_earlyB 1 [0,2,3,4,5,6,7,8,9,10,11,12,13] [0,0,1,2,3,4,5,6,7,8,9,10,11,12] rfl rfl rfl (fun _ _ _ h => h) (by kernel_rfl) (by kernel_rfl) (by simp [Ym,remOp,renE]; exact rfl) (by simp only [go_sem]; try exact rfl) ?_
   try simp only [go_sem,gA,gB,gC]
   refine ZS rfl ?_
   refine sN tK 5 ?_
   refine sT tK ?_
   refine sN tK 3 ?_
   refine sT tK ?_
   refine sN tK 2 ?_
   refine sT tK ?_
   refine sE ?_
   refine wKd ?_
   try simp only [go_sem,gA,gB,gC]
   refine wG tK ?_
   refine wC Tryz.func20 (hf := (hof)) (hk := ?_)
   refine wG tK ?_
   refine wC Tryz.func52 (hf := (hfr)) (hk := ?_)
   have hwl : IntKind.i64.wrap ((vs.length : Int) - (d : Int)) = ((vs.length - d : Nat) : Int) := by rw [Eng.wrap_small (by omega) (by omega)]; omega
   refine wG tK ?_ (by simp only [go_sem,hwl]; try exact rfl) (by simp [go_sem,hwl])
   refine Yl (Zn 900) ?_
   simp only [go_sem]
   refine wU ?_ ?_
   ·rfl
   ·skip
    simp only [Yx,gH,gI,gJ,gK]
    repeat' refine ZH ?_ ?_
    all_goals first | exact YH _ | rfl | simp [go_sem]
def stepA (g : GotS) : AV := .tup [.agg (ZC g.u.c),.agg (ZQ g.u.s),.agg (replyRow g.r)]
theorem rstep7 (c : Cli) (s : Srv) (x : Step) (hk : x.kind = 7) : FnOK Tryz.prog 51 [.agg (ZC c),.agg (ZQ s),.agg (ZX x)] [] (fun r _ => r = stepA (Yw ⟨c,s⟩ x)) := by
 obtain ⟨k,cl,n,path,toPath,data⟩ := x
 simp only at hk
 subst hk
 have hW : Yw ⟨c,s⟩ ⟨7,cl,n,path,toPath,data⟩ = ⟨⟨{ c with away := true },s⟩,errR 0⟩ := by unfold Yw; rfl
 rw [hW]
 unfold ZC ZQ ZX
 refine ZF tK (Tryz.func51) rfl (fun C => ?_)
 simp only [Tryz.ntmps51,Tryz.results51,go_sem]
 refine wG tK ?_
 refine Yl (le_mv 22 900) ?_
 refine Yl (Zn 10) ?_
 simp only [go_sem]
 refine Vf rfl ?_
 refine wG tK ?_
 refine Vf rfl ?_
 refine wG tK ?_
 refine Vf rfl ?_
 refine wG tK ?_
 refine Vf rfl ?_
 refine wG tK ?_
 refine Vf rfl ?_
 refine wG tK ?_
 refine Vf rfl ?_
 refine wG tK ?_
 refine Vt rfl ?_
 refine wG tK ?_
 refine ZW ZM ?_
 refine ZS rfl ?_
 refine sN tK 9 ?_
 refine sT tK ?_
 refine sT tK ?_
 refine sT tK ?_
 refine sE ?_
 refine wKd ?_
 try simp only [go_sem,gA,gB,gC]
 refine wG tK ?_
 refine wT ?_
 rfl
theorem rstep3 {B T : Nat} (c : Cli) (s : Srv) (h : UInv B T ⟨c,s⟩) (hB : B ≤ 30000000) (hT : T ≤ 800000000000) (x : Step) (hp : x.path.length ≤ 10000000) (hk : x.kind = 3) : FnOK Tryz.prog 51 [.agg (ZC c),.agg (ZQ s),.agg (ZX x)] [] (fun r _ => r = stepA (Yw ⟨c,s⟩ x)) := by
 obtain ⟨k,cl,n,path,toPath,data⟩ := x
 simp only at hk hp
 subst hk
 have hW : Yw ⟨c,s⟩ ⟨3,cl,n,path,toPath,data⟩ = ⟨(writeU ⟨c,s⟩ path data).u,errR (writeU ⟨c,s⟩ path data).e⟩ := by unfold Yw; rfl
 have hw := rwrite_ok ⟨c,s⟩ h hB hT path data hp
 rw [hW]
 generalize writeU ⟨c,s⟩ path data = w at *
 unfold uH uRow at hw
 unfold ZC ZQ ZX
 refine ZF tK (Tryz.func51) rfl (fun C => ?_)
 simp only [Tryz.ntmps51,Tryz.results51,go_sem]
 refine wG tK ?_
 refine Yl (le_mv 22 900) ?_
 refine Yl (Zn 10) ?_
 simp only [go_sem]
 refine Vf rfl ?_
 refine wG tK ?_
 refine Vf rfl ?_
 refine wG tK ?_
 refine Vt rfl ?_
 refine wG tK ?_
 refine wP [900] Tryz.func81 (hf := (hw)) (hk := ?_)
 refine wG tK ?_
 refine ZW ZM ?_
 refine ZS rfl ?_
 refine sN tK 9 ?_
 refine sT tK ?_
 refine sT tK ?_
 refine sT tK ?_
 refine sE ?_
 refine wKd ?_
 try simp only [go_sem,gA,gB,gC]
 refine wG tK ?_
 refine wT ?_
 rfl
theorem rstep4 {B T : Nat} (c : Cli) (s : Srv) (h : UInv B T ⟨c,s⟩) (hB : B ≤ 30000000) (hT : T ≤ 800000000000) (x : Step) (hp : x.path.length ≤ 10000000) (hk : x.kind = 4) : FnOK Tryz.prog 51 [.agg (ZC c),.agg (ZQ s),.agg (ZX x)] [] (fun r _ => r = stepA (Yw ⟨c,s⟩ x)) := by
 obtain ⟨k,cl,n,path,toPath,data⟩ := x
 simp only at hk hp
 subst hk
 have hW : Yw ⟨c,s⟩ ⟨4,cl,n,path,toPath,data⟩ = ⟨(mkdirU ⟨c,s⟩ path).u,errR (mkdirU ⟨c,s⟩ path).e⟩ := by unfold Yw; rfl
 have hM : mkdirU ⟨c,s⟩ path = if (Yd ⟨c,s⟩ path).e ≠ 0 then ⟨(Yd ⟨c,s⟩ path).e,(Yd ⟨c,s⟩ path).u⟩ else actU (Yd ⟨c,s⟩ path).u (mdirA (Yd ⟨c,s⟩ path).n.fid (Yd ⟨c,s⟩ path).name) (-1) := rfl
 have hd := rdirU_ok ⟨c,s⟩ h (by omega) (by omega) path hp
 have hdi := dirU_inv h path
 have hnm := dirU_name ⟨c,s⟩ path
 rw [hW]
 generalize mkdirU ⟨c,s⟩ path = w at *
 generalize Yd ⟨c,s⟩ path = d at *
 unfold uH uRow at hd
 unfold ZC ZQ ZX
 refine ZF tK (Tryz.func51) rfl (fun C => ?_)
 simp only [Tryz.ntmps51,Tryz.results51,go_sem]
 refine wG tK ?_
 refine Yl (le_mv 22 900) ?_
 refine Yl (Zn 10) ?_
 simp only [go_sem]
 refine Vf rfl ?_
 refine wG tK ?_
 refine Vf rfl ?_
 refine wG tK ?_
 refine Vf rfl ?_
 refine wG tK ?_
 refine Vt rfl ?_
 refine wG tK ?_
 refine wP [900] Tryz.func82 (hf := (hd)) (hk := ?_)
 refine wGq tK ?_ ?_ (by simp only [go_sem,ZN]; try exact rfl)
 ·simp [ZN]
 by_cases hde : d.e = 0
 ·rw [if_neg (by simp [hde])] at hM
  have hact := ract_ok d.u hdi (by omega) (by omega) (mdirA d.n.fid d.name) ⟨hnm,by simp [mdirA],by simp [mdirA]⟩ (-1)
  unfold uH uRow at hact
  simp only [ZA,mdirA,List.map_nil] at hact hM
  generalize actU d.u ⟨2,0,d.n.fid,d.name,0,[],[]⟩ (-1) = y at *
  rw [hM]
  refine wDT (hb := by simp [hde]) (hk := ?_)
  refine wG tK ?_
  refine Yl (le_nilT 123 (by simp only [go_sem]; exact rfl) (by simp only [go_sem,nil0]; exact rfl)) ?_
  simp only [go_sem]
  refine wP [900] Tryz.func83 (hf := (hact)) (hk := ?_)
  refine wG tK ?_
  refine ZW ZM ?_
  refine ZS rfl ?_
  refine sN tK 9 ?_
  refine sT tK ?_
  refine sT tK ?_
  refine sT tK ?_
  refine sE ?_
  refine wKd ?_
  try simp only [go_sem,gA,gB,gC]
  refine wG tK ?_
  refine wT ?_
  rfl
 ·rw [if_pos (by simp [hde])] at hM
  rw [hM]
  refine wDF (hb := by simp [hde]) (hk := ?_)
  refine wG tK ?_
  refine ZW ZM ?_
  refine ZS rfl ?_
  refine sN tK 9 ?_
  refine sT tK ?_
  refine sT tK ?_
  refine sT tK ?_
  refine sE ?_
  refine wKd ?_
  try simp only [go_sem,gA,gB,gC]
  refine wG tK ?_
  refine wT ?_
  rfl
theorem rstep5 {B T : Nat} (c : Cli) (s : Srv) (h : UInv B T ⟨c,s⟩) (hB : B ≤ 30000000) (hT : T ≤ 800000000000) (x : Step) (hp : x.path.length ≤ 10000000) (hk : x.kind = 5) : FnOK Tryz.prog 51 [.agg (ZC c),.agg (ZQ s),.agg (ZX x)] [] (fun r _ => r = stepA (Yw ⟨c,s⟩ x)) := by
 obtain ⟨k,cl,n,path,toPath,data⟩ := x
 simp only at hk hp
 subst hk
 have hW : Yw ⟨c,s⟩ ⟨5,cl,n,path,toPath,data⟩ = ⟨(removeU ⟨c,s⟩ path).u,errR (removeU ⟨c,s⟩ path).e⟩ := by unfold Yw; rfl
 have hw := rremove_ok ⟨c,s⟩ h hB hT path [] hp
 rw [hW]
 generalize removeU ⟨c,s⟩ path = w at *
 unfold uH uRow at hw
 unfold ZC ZQ ZX
 refine ZF tK (Tryz.func51) rfl (fun C => ?_)
 simp only [Tryz.ntmps51,Tryz.results51,go_sem]
 refine wG tK ?_
 refine Yl (le_mv 22 900) ?_
 refine Yl (Zn 10) ?_
 simp only [go_sem]
 refine Vf rfl ?_
 refine wG tK ?_
 refine Vf rfl ?_
 refine wG tK ?_
 refine Vf rfl ?_
 refine wG tK ?_
 refine Vf rfl ?_
 refine wG tK ?_
 refine Vt rfl ?_
 refine wG tK ?_
 refine wP [900] Tryz.func84 (hf := (hw)) (hk := ?_)
 refine wG tK ?_
 refine ZW ZM ?_
 refine ZS rfl ?_
 refine sN tK 9 ?_
 refine sT tK ?_
 refine sT tK ?_
 refine sT tK ?_
 refine sE ?_
 refine wKd ?_
 try simp only [go_sem,gA,gB,gC]
 refine wG tK ?_
 refine wT ?_
 rfl
theorem rstep6 {B T : Nat} (c : Cli) (s : Srv) (h : UInv B T ⟨c,s⟩) (hB : B ≤ 30000000) (hT : T ≤ 800000000000) (x : Step) (hp : x.path.length ≤ 10000000) (hq : x.toPath.length ≤ 10000000) (hk : x.kind = 6) : FnOK Tryz.prog 51 [.agg (ZC c),.agg (ZQ s),.agg (ZX x)] [] (fun r _ => r = stepA (Yw ⟨c,s⟩ x)) := by
 obtain ⟨k,cl,n,path,toPath,data⟩ := x
 simp only at hk hp hq
 subst hk
 have hW : Yw ⟨c,s⟩ ⟨6,cl,n,path,toPath,data⟩ = ⟨(moveU ⟨c,s⟩ path toPath).u,errR (moveU ⟨c,s⟩ path toPath).e⟩ := by unfold Yw; rfl
 have hw := rmove_ok ⟨c,s⟩ h hB hT path toPath hp hq
 rw [hW]
 generalize moveU ⟨c,s⟩ path toPath = w at *
 unfold uH uRow at hw
 unfold ZC ZQ ZX
 refine ZF tK (Tryz.func51) rfl (fun C => ?_)
 simp only [Tryz.ntmps51,Tryz.results51,go_sem]
 refine wG tK ?_
 refine Yl (le_mv 22 900) ?_
 refine Yl (Zn 10) ?_
 simp only [go_sem]
 refine Vf rfl ?_
 refine wG tK ?_
 refine Vf rfl ?_
 refine wG tK ?_
 refine Vf rfl ?_
 refine wG tK ?_
 refine Vf rfl ?_
 refine wG tK ?_
 refine Vf rfl ?_
 refine wG tK ?_
 refine Vt rfl ?_
 refine wG tK ?_
 refine wP [900] Tryz.func84 (hf := (hw)) (hk := ?_)
 refine wG tK ?_
 refine ZW ZM ?_
 refine ZS rfl ?_
 refine sN tK 9 ?_
 refine sT tK ?_
 refine sT tK ?_
 refine sT tK ?_
 refine sE ?_
 refine wKd ?_
 try simp only [go_sem,gA,gB,gC]
 refine wG tK ?_
 refine wT ?_
 rfl
theorem rstep8 {B T : Nat} (c : Cli) (s : Srv) (h : UInv B T ⟨c,s⟩) (hB : B ≤ 30000000) (hT : T ≤ 800000000000) (x : Step) (hk : x.kind = 8) : FnOK Tryz.prog 51 [.agg (ZC c),.agg (ZQ s),.agg (ZX x)] [] (fun r _ => r = stepA (Yw ⟨c,s⟩ x)) := by
 obtain ⟨k,cl,n,path,toPath,data⟩ := x
 simp only at hk
 subst hk
 have hW : Yw ⟨c,s⟩ ⟨8,cl,n,path,toPath,data⟩ = ⟨backU ⟨c,s⟩,⟨0,doneN (backVs ⟨c,s⟩),((backVs ⟨c,s⟩).length - doneN (backVs ⟨c,s⟩) : Nat),[]⟩⟩ := by unfold Yw; rfl
 have hw := rback_ok ⟨c,s⟩ h (by omega)
 rw [hW]
 generalize (backVs ⟨c,s⟩).length - doneN (backVs ⟨c,s⟩) = m2 at *
 generalize doneN (backVs ⟨c,s⟩) = m1 at *
 generalize backU ⟨c,s⟩ = w at *
 unfold uH uRow at hw
 unfold ZC ZQ ZX
 refine ZF tK (Tryz.func51) rfl (fun C => ?_)
 simp only [Tryz.ntmps51,Tryz.results51,go_sem]
 refine wG tK ?_
 refine Yl (le_mv 22 900) ?_
 refine Yl (Zn 10) ?_
 simp only [go_sem]
 refine Vf rfl ?_
 refine wG tK ?_
 refine Vf rfl ?_
 refine wG tK ?_
 refine Vf rfl ?_
 refine wG tK ?_
 refine Vf rfl ?_
 refine wG tK ?_
 refine Vf rfl ?_
 refine wG tK ?_
 refine Vf rfl ?_
 refine wG tK ?_
 refine Vf rfl ?_
 refine wG tK ?_
 refine Vt rfl ?_
 refine wG tK ?_
 refine wP [900] Tryz.func85 (hf := (hw)) (hk := ?_)
 refine wG tK ?_
 refine ZW ZM ?_
 refine ZS rfl ?_
 refine sN tK 9 ?_
 refine sT tK ?_
 refine sT tK ?_
 refine sT tK ?_
 refine sE ?_
 refine wKd ?_
 try simp only [go_sem,gA,gB,gC]
 refine wG tK ?_
 refine wT ?_
 rfl
theorem rstep9 {B T : Nat} (c : Cli) (s : Srv) (h : UInv B T ⟨c,s⟩) (hB : B ≤ 30000000) (hT : T ≤ 800000000000) (x : Step) (hp : x.path.length ≤ 10000000) (hk : x.kind = 9) : FnOK Tryz.prog 51 [.agg (ZC c),.agg (ZQ s),.agg (ZX x)] [] (fun r _ => r = stepA (Yw ⟨c,s⟩ x)) := by
 obtain ⟨k,cl,n,path,toPath,data⟩ := x
 simp only at hk hp
 subst hk
 have hW : Yw ⟨c,s⟩ ⟨9,cl,n,path,toPath,data⟩ = ⟨(hoardU ⟨c,s⟩ path n).u,errR (hoardU ⟨c,s⟩ path n).e⟩ := by unfold Yw; rfl
 have hw := rhoardU_ok ⟨c,s⟩ h path hp n
 rw [hW]
 generalize hoardU ⟨c,s⟩ path n = w at *
 unfold uH uRow at hw
 unfold ZC ZQ ZX
 refine ZF tK (Tryz.func51) rfl (fun C => ?_)
 simp only [Tryz.ntmps51,Tryz.results51,go_sem]
 refine wG tK ?_
 refine Yl (le_mv 22 900) ?_
 refine Yl (Zn 10) ?_
 simp only [go_sem]
 refine Vf rfl ?_
 refine wG tK ?_
 refine Vf rfl ?_
 refine wG tK ?_
 refine Vf rfl ?_
 refine wG tK ?_
 refine Vf rfl ?_
 refine wG tK ?_
 refine Vf rfl ?_
 refine wG tK ?_
 refine Vf rfl ?_
 refine wG tK ?_
 refine Vf rfl ?_
 refine wG tK ?_
 refine Vf rfl ?_
 refine wG tK ?_
 refine Vt rfl ?_
 refine wG tK ?_
 refine wP [900] Tryz.func86 (hf := (hw)) (hk := ?_)
 refine wG tK ?_
 refine ZW ZM ?_
 refine ZS rfl ?_
 refine sN tK 9 ?_
 refine sT tK ?_
 refine sT tK ?_
 refine sT tK ?_
 refine sE ?_
 refine wKd ?_
 try simp only [go_sem,gA,gB,gC]
 refine wG tK ?_
 refine wT ?_
 rfl
theorem rstep10a {B T : Nat} (c : Cli) (s : Srv) (h : UInv B T ⟨c,s⟩) (hB : B ≤ 30000000) (hT : T ≤ 800000000000) (x : Step) (hk : x.kind = 10) (ha : c.away = true) : FnOK Tryz.prog 51 [.agg (ZC c),.agg (ZQ s),.agg (ZX x)] [] (fun r _ => r = stepA (Yw ⟨c,s⟩ x)) := by
 obtain ⟨k,cl,n,path,toPath,data⟩ := x
 simp only at hk
 subst hk
 have hW : Yw ⟨c,s⟩ ⟨10,cl,n,path,toPath,data⟩ = ⟨⟨c,s⟩,errR 12⟩ := by unfold Yw; simp [ha]
 have hw := rvisit_away ⟨c,s⟩ h ha
 rw [hW]
 unfold uH uRow at hw
 unfold ZC ZQ ZX
 refine ZF tK (Tryz.func51) rfl (fun C => ?_)
 simp only [Tryz.ntmps51,Tryz.results51,go_sem]
 refine wG tK ?_
 refine Yl (le_mv 22 900) ?_
 refine Yl (Zn 10) ?_
 simp only [go_sem]
 refine Vf rfl ?_
 refine wG tK ?_
 refine Vf rfl ?_
 refine wG tK ?_
 refine Vf rfl ?_
 refine wG tK ?_
 refine Vf rfl ?_
 refine wG tK ?_
 refine Vf rfl ?_
 refine wG tK ?_
 refine Vf rfl ?_
 refine wG tK ?_
 refine Vf rfl ?_
 refine wG tK ?_
 refine Vf rfl ?_
 refine wG tK ?_
 refine Vf rfl ?_
 refine wG tK ?_
 refine Vt rfl ?_
 refine wG tK ?_
 refine wP [900] Tryz.func87 (hf := (hw)) (hk := ?_)
 refine wG tK ?_
 refine ZW ZM ?_
 refine ZS rfl ?_
 refine sN tK 9 ?_
 refine sT tK ?_
 refine sT tK ?_
 refine sT tK ?_
 refine sE ?_
 refine wKd ?_
 try simp only [go_sem,gA,gB,gC]
 refine wG tK ?_
 refine wT ?_
 rfl
theorem rstep10 {B T : Nat} (c : Cli) (s : Srv) (h : UInv B T ⟨c,s⟩) (hB : B ≤ 30000000) (hT : T ≤ 800000000000) (x : Step) (hk : x.kind = 10) (ha : c.away = false) : FnOK Tryz.prog 51 [.agg (ZC c),.agg (ZQ s),.agg (ZX x)] [] (fun r _ => r = stepA (Yw ⟨c,s⟩ x)) := by
 obtain ⟨k,cl,n,path,toPath,data⟩ := x
 simp only at hk
 subst hk
 have hW : Yw ⟨c,s⟩ ⟨10,cl,n,path,toPath,data⟩ = ⟨(visitU ⟨c,s⟩).u,⟨0,(visitU ⟨c,s⟩).n,0,[]⟩⟩ := by unfold Yw; simp [ha]
 have hw := rvisit_here ⟨c,s⟩ h ha hB hT
 rw [hW]
 generalize visitU ⟨c,s⟩ = w at *
 unfold uH uRow at hw
 unfold ZC ZQ ZX
 refine ZF tK (Tryz.func51) rfl (fun C => ?_)
 simp only [Tryz.ntmps51,Tryz.results51,go_sem]
 refine wG tK ?_
 refine Yl (le_mv 22 900) ?_
 refine Yl (Zn 10) ?_
 simp only [go_sem]
 refine Vf rfl ?_
 refine wG tK ?_
 refine Vf rfl ?_
 refine wG tK ?_
 refine Vf rfl ?_
 refine wG tK ?_
 refine Vf rfl ?_
 refine wG tK ?_
 refine Vf rfl ?_
 refine wG tK ?_
 refine Vf rfl ?_
 refine wG tK ?_
 refine Vf rfl ?_
 refine wG tK ?_
 refine Vf rfl ?_
 refine wG tK ?_
 refine Vf rfl ?_
 refine wG tK ?_
 refine Vt rfl ?_
 refine wG tK ?_
 refine wP [900] Tryz.func87 (hf := (hw)) (hk := ?_)
 refine wG tK ?_
 refine ZW ZM ?_
 refine ZS rfl ?_
 refine sN tK 9 ?_
 refine sT tK ?_
 refine sT tK ?_
 refine sT tK ?_
 refine sE ?_
 refine wKd ?_
 try simp only [go_sem,gA,gB,gC]
 refine wG tK ?_
 refine wT ?_
 rfl
theorem rstepE (c : Cli) (s : Srv) (x : Step) (hk : x.kind < 1 ∨ 10 < x.kind) : FnOK Tryz.prog 51 [.agg (ZC c),.agg (ZQ s),.agg (ZX x)] [] (fun r _ => r = stepA (Yw ⟨c,s⟩ x)) := by
 obtain ⟨k,cl,n,path,toPath,data⟩ := x
 simp only at hk
 have hW : Yw ⟨c,s⟩ ⟨k,cl,n,path,toPath,data⟩ = ⟨⟨c,s⟩,errR 1⟩ := by
  unfold Yw
  simp only
  repeat rw [if_neg (by omega)]
 rw [hW]
 unfold ZC ZQ ZX
 refine ZF tK (Tryz.func51) rfl (fun C => ?_)
 simp only [Tryz.ntmps51,Tryz.results51,go_sem]
 refine wG tK ?_
 refine Yl (le_mv 22 900) ?_
 refine Yl (Zn 10) ?_
 simp only [go_sem]
 refine wDF (hb := by simp; omega) (hk := ?_)
 refine wG tK ?_
 refine wDF (hb := by simp; omega) (hk := ?_)
 refine wG tK ?_
 refine wDF (hb := by simp; omega) (hk := ?_)
 refine wG tK ?_
 refine wDF (hb := by simp; omega) (hk := ?_)
 refine wG tK ?_
 refine wDF (hb := by simp; omega) (hk := ?_)
 refine wG tK ?_
 refine wDF (hb := by simp; omega) (hk := ?_)
 refine wG tK ?_
 refine wDF (hb := by simp; omega) (hk := ?_)
 refine wG tK ?_
 refine wDF (hb := by simp; omega) (hk := ?_)
 refine wG tK ?_
 refine wDF (hb := by simp; omega) (hk := ?_)
 refine wG tK ?_
 refine wDF (hb := by simp; omega) (hk := ?_)
 refine wG tK ?_
 refine ZW ZM ?_
 refine ZS rfl ?_
 refine sN tK 9 ?_
 refine sT tK ?_
 refine sT tK ?_
 refine sT tK ?_
 refine sE ?_
 refine wKd ?_
 try simp only [go_sem,gA,gB,gC]
 refine wG tK ?_
 refine wT ?_
 rfl
def listT (l : List Entry) (i : Nat) : List UInt8 := listB (l.take i)
theorem listT_succ {l : List Entry} {i : Nat} (h : i < l.length) : listT l (i + 1) = listT l i ++ ((l.getD i default).name ++ [10]) := by
 unfold listT listB
 rw [ZT h,List.flatMap_append]
 simp
theorem getU_nam {B T : Nat} {u : U} (h : UInv B T u) (f w : Int) : NmE (getU u f w).n.entries := by
 unfold getU
 split
 ·rename_i n hn
  obtain ⟨k,hk,rfl,_⟩ := nodeK_mem hn
  exact h.cli.nam k hk
 ·split
  ·exact .nil
  ·split
   ·exact .nil
   ·rename_i n hn
    exact h.srv.hist.whole.nm ((ZO h.srv.hist.good.up).1 hn).1
theorem goR_nam {B : Nat} (w : Int) : ∀ (l : List (List UInt8)) (T : Nat) (g : Got),UInv B T g.u → NmE g.n.entries → NmE (goR w l g).n.entries
 | [],T,g,h,hn => by
  unfold goR
  split
  ·exact hn
  ·exact .nil
 | s :: r,T,g,h,hn => by
  unfold goR
  split
  ·exact .nil
  ·split
   ·exact .nil
   ·split
    ·exact .nil
    ·rename_i f _; exact goR_nam w r (T + 1) _ (getU_inv h f w) (getU_nam h f w)
theorem goU_nam {B T : Nat} {u : U} (h : UInv B T u) (l : List (List UInt8)) (w : Int) : NmE (goU u l w).n.entries := goR_nam w l (T + 1) _ (getU_inv h 0 w) (getU_nam h 0 w)
theorem listT_len {l : List Entry} (h : NmE l) : ∀ i,i ≤ l.length → (listT l i).length ≤ 41 * i
 | 0,_ => by simp [listT,listB]
 | i + 1,hi => by
  have ih := listT_len h i (by omega)
  have hn := h (l.getD i default) (by rw [List.getD_eq_getElem?_getD,List.getElem?_eq_getElem (show i < l.length by omega)]; exact List.getElem_mem _)
  rw [listT_succ (show i < l.length by omega),List.length_append,List.length_append]
  simp only [List.length_cons,List.length_nil]
  omega
theorem rstep1 {B T : Nat} (c : Cli) (s : Srv) (h : UInv B T ⟨c,s⟩) (hB : B ≤ 30000000) (hT : T ≤ 800000000000) (x : Step) (hp : x.path.length ≤ 10000000) (hk : x.kind = 1) : FnOK Tryz.prog 51 [.agg (ZC c),.agg (ZQ s),.agg (ZX x)] [] (fun r _ => r = stepA (Yw ⟨c,s⟩ x)) := by
 obtain ⟨k,cl,n,path,toPath,data⟩ := x
 simp only at hk hp
 subst hk
 have hW : Yw ⟨c,s⟩ ⟨1,cl,n,path,toPath,data⟩ = if (Ys path).2 ≠ 0 then ⟨⟨c,s⟩,errR (Ys path).2⟩ else ⟨(goU ⟨c,s⟩ (Ys path).1 0).u,readR 1 (goU ⟨c,s⟩ (Ys path).1 0)⟩ := by unfold Yw; rfl
 have hsp := rsplit_ok path hp
 have hsl := splitR_len path
 have hgo := rgo_ok ⟨c,s⟩ h (by omega) (by omega) (Ys path).1 (by omega) (fun x hx => by have := (hsl.2 x hx).1; omega) 0
 have hno := goU_node h (Ys path).1 0
 have hnam := goU_nam h (Ys path).1 0
 unfold splitA at hsp
 generalize goU ⟨c,s⟩ (Ys path).1 0 = g at *
 generalize Ys path = S at *
 obtain ⟨L,E⟩ := S
 simp only at hW hsp hgo
 unfold uH uRow gotA at hgo
 unfold ZC ZQ ZX
 refine ZF tK (Tryz.func51) rfl (fun C => ?_)
 simp only [Tryz.ntmps51,Tryz.results51,go_sem]
 refine wG tK ?_
 refine Yl (le_mv 22 900) ?_
 refine Yl (Zn 10) ?_
 simp only [go_sem]
 refine Vt rfl ?_
 refine wG tK ?_
 refine Vt rfl ?_
 refine wG tK ?_
 refine wC Tryz.func79 (hf := (hsp)) (hk := ?_)
 refine wG tK ?_
 by_cases hE : E = 0
 ·rw [if_neg (by simp [hE])] at hW
  rw [hW]
  refine wDF (hb := by simp [hE]) (hk := ?_)
  refine wG tK ?_
  refine wP [900] Tryz.func80 (hf := (hgo)) (hk := ?_)
  refine wGq tK ?_ ?_ (by simp only [go_sem,ZN]; try exact rfl)
  ·simp [ZN]
  by_cases hge : g.e = 0
  ·have hr : readR 1 g = if g.n.dir = true then ⟨9,0,0,[]⟩ else ⟨0,0,0,g.n.data⟩ := by unfold readR; rw [if_neg (by simp [hge])]; rfl
   rw [hr]
   refine wDF (hb := by simp [hge]) (hk := ?_)
   refine wG tK ?_
   cases hd : g.n.dir with
   | true =>
    refine Vt rfl ?_
    refine wG tK ?_
    refine ZW ZM ?_
    refine ZS rfl ?_
    refine sN tK 9 ?_
    refine sT tK ?_
    refine sT tK ?_
    refine sT tK ?_
    refine sE ?_
    refine wKd ?_
    try simp only [go_sem,gA,gB,gC]
    refine wG tK ?_
    refine wT ?_
    rfl
   | false =>
    refine Vf rfl ?_
    refine wG tK ?_
    refine Vf rfl ?_
    refine wG tK ?_
    refine Vt rfl ?_
    refine wG tK ?_
    refine ZW ZM ?_
    refine ZS rfl ?_
    refine sN tK 9 ?_
    refine sT tK ?_
    refine sT tK ?_
    refine sT tK ?_
    refine sE ?_
    refine wKd ?_
    try simp only [go_sem,gA,gB,gC]
    refine wG tK ?_
    refine wT ?_
    rfl
  ·have hr : readR 1 g = errR g.e := by unfold readR; rw [if_pos hge]; rfl
   rw [hr]
   refine wDT (hb := by simp [hge]) (hk := ?_)
   refine wG tK ?_
   refine ZW ZM ?_
   refine ZS rfl ?_
   refine sN tK 9 ?_
   refine sT tK ?_
   refine sT tK ?_
   refine sT tK ?_
   refine sE ?_
   refine wKd ?_
   try simp only [go_sem,gA,gB,gC]
   refine wG tK ?_
   refine wT ?_
   rfl
 ·rw [if_pos hE] at hW
  rw [hW]
  refine wDT (hb := by simp [hE]) (hk := ?_)
  refine wG tK ?_
  refine ZW ZM ?_
  refine ZS rfl ?_
  refine sN tK 3 ?_
  refine sB tK ?_
  refine sT tK ?_
  refine sT tK ?_
  refine sT tK ?_
  refine sE ?_
  refine wKd ?_
  try simp only [go_sem,gA,gB,gC]
  refine Yl (Zn 8) ?_
  simp only [go_sem]
  refine wG tK ?_
  refine wT ?_
  rfl
theorem rstep2 {B T : Nat} (c : Cli) (s : Srv) (h : UInv B T ⟨c,s⟩) (hB : B ≤ 30000000) (hT : T ≤ 800000000000) (x : Step) (hp : x.path.length ≤ 10000000) (hk : x.kind = 2) : FnOK Tryz.prog 51 [.agg (ZC c),.agg (ZQ s),.agg (ZX x)] [] (fun r _ => r = stepA (Yw ⟨c,s⟩ x)) := by
 obtain ⟨k,cl,n,path,toPath,data⟩ := x
 simp only at hk hp
 subst hk
 have hW : Yw ⟨c,s⟩ ⟨2,cl,n,path,toPath,data⟩ = if (Ys path).2 ≠ 0 then ⟨⟨c,s⟩,errR (Ys path).2⟩ else ⟨(goU ⟨c,s⟩ (Ys path).1 0).u,readR 2 (goU ⟨c,s⟩ (Ys path).1 0)⟩ := by unfold Yw; rfl
 have hsp := rsplit_ok path hp
 have hsl := splitR_len path
 have hgo := rgo_ok ⟨c,s⟩ h (by omega) (by omega) (Ys path).1 (by omega) (fun x hx => by have := (hsl.2 x hx).1; omega) 0
 have hno := goU_node h (Ys path).1 0
 have hnam := goU_nam h (Ys path).1 0
 unfold splitA at hsp
 generalize goU ⟨c,s⟩ (Ys path).1 0 = g at *
 generalize Ys path = S at *
 obtain ⟨L,E⟩ := S
 simp only at hW hsp hgo
 unfold uH uRow gotA at hgo
 unfold ZC ZQ ZX
 refine ZF tK (Tryz.func51) rfl (fun C => ?_)
 simp only [Tryz.ntmps51,Tryz.results51,go_sem]
 refine wG tK ?_
 refine Yl (le_mv 22 900) ?_
 refine Vf rfl ?_
 refine wG tK ?_
 refine Vt rfl ?_
 refine wG tK ?_
 refine wC Tryz.func79 (hf := (hsp)) (hk := ?_)
 refine wG tK ?_
 by_cases hE : E = 0
 ·rw [if_neg (by simp [hE])] at hW
  rw [hW]
  refine wDF (hb := by simp [hE]) (hk := ?_)
  refine wG tK ?_
  refine wP [900] Tryz.func80 (hf := (hgo)) (hk := ?_)
  refine wGq tK ?_ ?_ (by simp only [go_sem,ZN]; try exact rfl)
  ·simp [ZN]
  by_cases hge : g.e = 0
  ·have hr : readR 2 g = if g.n.dir = true then ⟨0,0,0,listB g.n.entries⟩ else ⟨8,0,0,[]⟩ := by unfold readR; rw [if_neg (by simp [hge])]; rfl
   rw [hr]
   refine wDF (hb := by simp [hge]) (hk := ?_)
   refine wG tK ?_
   refine Vf rfl ?_
   refine wG tK ?_
   cases hd : g.n.dir with
   | true =>
    refine Vf rfl ?_
    refine wG tK ?_
    refine Vf rfl ?_
    refine wG tK ?_
    have hnm := hnam
    have hle := hno.ent
    have hD0 : listT g.n.entries 0 = [] := rfl
    have hDs := fun i => @listT_succ g.n.entries i
    have hDn := listT_len hnm
    have hDe : listT g.n.entries g.n.entries.length = listB g.n.entries := by unfold listT; rw [List.take_length]
    rw [if_pos rfl]
    generalize listT g.n.entries = D at *
    generalize listB g.n.entries = DE at *
    refine Yl (Ze 62 5 1 (by simp only [go_sem]; try exact rfl)) ?_
    simp only [go_sem]
    refine Yl (le_rows 10 ([[.int .i64 0,.int .i64 0,.int .i64 0,.osl 62 1 0 0]]) (by simp only [go_sem]; exact rfl) (by simp [leRowsP,leWk,wk])) ?_
    simp only [go_sem]
    refine ZL (fun i : Nat => i ≤ g.n.entries.length) (fun i => g.n.entries.length - i) (fun i => [(15,.any),(51,.int .i64 i),(52,.any),(53,.any),(54,.any),(55,.any),(56,.any),(57,.any),(58,.any),(59,.any),(60,.any),(61,.any),(62,.any),(63,.any),(64,.any)])
     (fun i => [(10,.cells 80 4 [[.int .i64 0,.int .i64 0,.int .i64 0,.osl 62 1 0 (D i).length]]),(62,.cells 5 1 ((D i).map ZY))]) 0 (by omega) ?_ fun i hi => ?_
    ·rw [hD0]
     simp only [go_sem]
     exact ZU (by simp [go_sem]) (by simp [go_sem]) (by simp [go_sem])
    simp only [go_sem]
    refine wG tK ?_
    refine wD (fun h => ?_) (fun h => ?_)
    ·have hlt : i < g.n.entries.length := by simp at h; omega
     have hg : (g.n.entries.map ZE).getD i [] = ZE (g.n.entries.getD i default) := Fam.getD hlt
     have hs1 := hDs i hlt
     have hl1 := hDn i hi
     have hl2 : (g.n.entries.getD i default).name.length ≤ 40 := hnm _ (by rw [List.getD_eq_getElem?_getD,List.getElem?_eq_getElem hlt]; exact List.getElem_mem _)
     have how' := wi1 (i := i) (by omega)
     generalize g.n.entries.getD i default = e at *
     generalize D i = Di at *
     have htq : List.take Di.length (Di.map ZY) = Di.map ZY := List.take_of_length_le (by simp)
     refine wR ?_
     refine wNq tK 4 ?_ ?_ (h := by simp only [go_sem,hg,ZE]; try exact rfl)
     ·simp [hg,ZE,hlt]
     refine wR ?_
     refine wN tK 4 ?_
     refine cw_step rfl (trip_strbytes tK rfl rfl rfl rfl (by simp only [go_sem]; try exact rfl)) ?_
     simp only [go_sem]
     refine Yl (le_killB 62 10 (by simp only [go_sem]; exact rfl) (by simp only [go_sem,kill]; exact rfl)) ?_
     refine wGq tK ?_ ?_ (by simp only [go_sem,how']; try exact rfl)
     ·simp [htq,refs]
      refine ⟨⟨fun row hr => ?_,fun _ _ => rfl,by omega⟩,by omega,fun row hr y hy => ?_⟩
      ·obtain ⟨b,_,rfl⟩ := List.mem_map.1 hr
       rfl
      ·rcases List.mem_append.1 (List.mem_of_mem_take hr) with hr | hr <;> obtain ⟨b,_,rfl⟩ := List.mem_map.1 hr <;> simp only [ZY,List.mem_cons,List.not_mem_nil,or_false] at hy <;> subst hy <;> simp [refs]
     refine ZB ⟨i + 1,by omega,by omega,ZU ?_ ?_ ?_⟩
     ·simp [go_sem]
     ·simp [go_sem,hs1,htq,ZY]
      exact ⟨by rw [List.take_of_length_le (by simp),List.append_assoc]; rfl,by omega⟩
     ·simp [go_sem]
    ·have e : i = g.n.entries.length := by simp at h; omega
     subst e
     rw [hDe]
     refine wG tK ?_
     refine ZZ 62 rfl (byteRow_pure _) ?_
     simp only [go_sem]
     refine wG tK ?_
     refine ZW ZM ?_
     refine ZS rfl ?_
     refine sN tK 9 ?_
     refine sT tK ?_
     refine sT tK ?_
     refine sT tK ?_
     refine sE ?_
     refine wKd ?_
     try simp only [go_sem,gA,gB,gC]
     refine wG tK ?_
     refine wT ?_
     rfl
   | false =>
    refine Vt rfl ?_
    refine Yl (Zn 10) ?_
    simp only [go_sem]
    refine wG tK ?_
    refine ZW ZM ?_
    refine ZS rfl ?_
    refine sN tK 9 ?_
    refine sT tK ?_
    refine sT tK ?_
    refine sT tK ?_
    refine sE ?_
    refine wKd ?_
    try simp only [go_sem,gA,gB,gC]
    refine wG tK ?_
    refine wT ?_
    rfl
  ·have hr : readR 2 g = errR g.e := by unfold readR; rw [if_pos hge]; rfl
   rw [hr]
   refine wDT (hb := by simp [hge]) (hk := ?_)
   refine Yl (Zn 10) ?_
   simp only [go_sem]
   refine wG tK ?_
   refine ZW ZM ?_
   refine ZS rfl ?_
   refine sN tK 9 ?_
   refine sT tK ?_
   refine sT tK ?_
   refine sT tK ?_
   refine sE ?_
   refine wKd ?_
   try simp only [go_sem,gA,gB,gC]
   refine wG tK ?_
   refine wT ?_
   rfl
 ·rw [if_pos hE] at hW
  rw [hW]
  refine wDT (hb := by simp [hE]) (hk := ?_)
  refine wG tK ?_
  refine ZW ZM ?_
  refine ZS rfl ?_
  refine sN tK 3 ?_
  refine sB tK ?_
  refine sT tK ?_
  refine sT tK ?_
  refine sT tK ?_
  refine sE ?_
  refine wKd ?_
  try simp only [go_sem,gA,gB,gC]
  refine Yl (Zn 8) ?_
  simp only [go_sem]
  refine wG tK ?_
  refine wT ?_
  rfl
theorem rstep_ok {B T : Nat} (c : Cli) (s : Srv) (h : UInv B T ⟨c,s⟩) (hB : B ≤ 30000000) (hT : T ≤ 800000000000) (x : Step) (hp : x.path.length ≤ 10000000) (hq : x.toPath.length ≤ 10000000) : FnOK Tryz.prog 51 [.agg (ZC c),.agg (ZQ s),.agg (ZX x)] [] (fun r _ => r = stepA (Yw ⟨c,s⟩ x)) := by
 by_cases h0 : x.kind < 1 ∨ 10 < x.kind
 ·exact rstepE c s x h0
 ·have hc : x.kind = 1 ∨ x.kind = 2 ∨ x.kind = 3 ∨ x.kind = 4 ∨ x.kind = 5 ∨ x.kind = 6 ∨ x.kind = 7 ∨ x.kind = 8 ∨ x.kind = 9 ∨ x.kind = 10 := by omega
  rcases hc with h1 | h1 | h1 | h1 | h1 | h1 | h1 | h1 | h1 | h1
  ·exact rstep1 c s h hB hT x hp h1
  ·exact rstep2 c s h hB hT x hp h1
  ·exact rstep3 c s h hB hT x hp h1
  ·exact rstep4 c s h hB hT x hp h1
  ·exact rstep5 c s h hB hT x hp h1
  ·exact rstep6 c s h hB hT x hp hq h1
  ·exact rstep7 c s x h1
  ·exact rstep8 c s h hB hT x h1
  ·exact rstep9 c s h hB hT x hp h1
  ·cases ha : c.away with
   | true => exact rstep10a c s h hB hT x h1 ha
   | false => exact rstep10 c s h hB hT x h1 ha
def worldA (g : GotW) : AV := .tup [.agg (worRow g.w),.agg (replyRow g.r)]
def csT (t : List Node) (cs : List Cli) (j : Nat) (c : Cli) (i : Nat) : List Cli := ((cs.set j c).take i).map (freshW t)
theorem csT_succ {t : List Node} {cs : List Cli} {j : Nat} {c : Cli} {i : Nat} (h : i < cs.length) : csT t cs j c (i + 1) = csT t cs j c i ++ [freshW t (if i = j then c else cs.getD i default)] := by
 unfold csT
 rw [ZT (show i < (cs.set j c).length by rw [List.length_set]; exact h),List.map_append]
 have : (cs.set j c).getD i default = if i = j then c else cs.getD i default := by
  rw [List.getD_eq_getElem?_getD,List.getElem?_set]
  by_cases e : j = i
  ·subst e
   rw [if_pos rfl,if_pos h,if_pos rfl]; rfl
  ·rw [if_neg e,if_neg (fun h => e h.symm),List.getD_eq_getElem?_getD]
 rw [this]; rfl
theorem csT_len {t : List Node} {cs : List Cli} {j : Nat} {c : Cli} {i : Nat} (h : i ≤ cs.length) : (csT t cs j c i).length = i := by
 unfold csT; rw [List.length_map,List.length_take,List.length_set]; omega
theorem rworld_out {B T : Nat} (w : Wor) (h : WInv B T w) (hB : B ≤ 30000000) (hT : T ≤ 800000000000) (x : Step) (hp : x.path.length ≤ 10000000) (hq : x.toPath.length ≤ 10000000) (hb : x.client < 0 ∨ x.client ≥ w.cs.length) : FnOK Tryz.prog 31 [.agg (worRow w),.agg (ZX x)] [] (fun r _ => r = worldA (worldU w x)) := by
 have h3 := h.len
 have hW : worldU w x = ⟨w,errR 6⟩ := by unfold worldU; rw [if_pos hb]
 rw [hW]
 unfold worRow ZX
 refine ZF tK (Tryz.func31) rfl (fun C => ?_)
 simp only [Tryz.ntmps31,Tryz.results31,go_sem]
 refine wR ?_
 refine wN tK 4 ?_
 refine wR ?_
 refine wN tK 11 ?_
 refine Yn 22 (by simp only [go_sem]; exact rfl) (fun c22 h22 => ?_)
 simp only [go_sem]
 have hc : c22 = true := by
  rw [← h22]
  by_cases h1 : x.client < 0
  ·simp [h1]
  ·simp [h1]; omega
 clear h22
 refine wG tK ?_
 refine Vt (hc) ?_
 refine wG tK ?_
 refine Yl (Zn 5) ?_
 simp only [go_sem]
 refine wT ?_
 rfl
theorem rworld_in {B T : Nat} (w : Wor) (h : WInv B T w) (hB : B ≤ 30000000) (hT : T ≤ 800000000000) (x : Step) (hp : x.path.length ≤ 10000000) (hq : x.toPath.length ≤ 10000000) (hb : ¬ (x.client < 0 ∨ x.client ≥ w.cs.length)) : FnOK Tryz.prog 31 [.agg (worRow w),.agg (ZX x)] [] (fun r _ => r = worldA (worldU w x)) := by
 have h3 := h.len
 obtain ⟨k,cl,n,path,toPath,data⟩ := x
 simp only at hb hp hq
 obtain ⟨j,rfl⟩ : ∃ j : Nat,cl = (j : Int) := ⟨cl.toNat,by omega⟩
 have hj : j < w.cs.length := by omega
 have hu := h.at hj
 have hst := rstep_ok (w.cs.getD j default) w.s hu hB hT ⟨k,j,n,path,toPath,data⟩ hp hq
 have hinv := step_inv hu ⟨k,j,n,path,toPath,data⟩
 have hW : worldU w ⟨k,j,n,path,toPath,data⟩ = ⟨⟨(Yw ⟨w.cs.getD j default,w.s⟩ ⟨k,j,n,path,toPath,data⟩).u.s,csT (Yw ⟨w.cs.getD j default,w.s⟩ ⟨k,j,n,path,toPath,data⟩).u.s.tree w.cs j (Yw ⟨w.cs.getD j default,w.s⟩ ⟨k,j,n,path,toPath,data⟩).u.c w.cs.length⟩,(Yw ⟨w.cs.getD j default,w.s⟩ ⟨k,j,n,path,toPath,data⟩).r⟩ := by
  unfold worldU csT
  rw [if_neg hb,show w.cs.length = (w.cs.set j (Yw ⟨w.cs.getD j default,w.s⟩ ⟨k,j,n,path,toPath,data⟩).u.c).length by rw [List.length_set],List.take_length]
  rfl
 have hcx : ∀ i,i < w.cs.length → (w.cs.getD i default).cache.length ≤ 24 := fun i hi => by have := (h.at hi).cli.len; have := (h.at hi).cli.room; simp only at *; omega
 rw [hW]
 have hg0 : (w.cs.map ZC).getD j [] = ZC (w.cs.getD j default) := Fam.getD hj
 generalize w.cs.getD j default = c0 at hst hinv hg0 ⊢
 generalize Yw ⟨c0,w.s⟩ ⟨k,j,n,path,toPath,data⟩ = g at *
 have hcg : g.u.c.cache.length ≤ 24 := by have := hinv.cli.len; have := hinv.cli.room; omega
 have hof := of_rm g.u.s.tree (by have := hinv.srv.hist.good.len; omega)
 have hfr0 := fun l hl => rfreshK_ok l g.u.s.tree hl hinv.srv.hist.good.up
 have hcc : ∀ kk : Cli,kk.cache.length ≤ 24 → kk.cache.length ≤ 90000000 := fun kk hk => by omega
 have hPs := fun i => @csT_succ g.u.s.tree w.cs j g.u.c i
 have hPl := fun i => @csT_len g.u.s.tree w.cs j g.u.c i
 have hP0 : csT g.u.s.tree w.cs j g.u.c 0 = [] := rfl
 generalize csT g.u.s.tree w.cs j g.u.c = P at *
 unfold stepA ZC ZQ ZX replyRow at hst
 unfold worldA worRow ZX replyRow
 refine ZF tK (Tryz.func31) rfl (fun C => ?_)
 simp only [Tryz.ntmps31,Tryz.results31,go_sem]
 refine wR ?_
 refine wN tK 4 ?_
 refine wR ?_
 refine wN tK 11 ?_
 refine Yn 22 (by simp only [go_sem]; exact rfl) (fun c22 h22 => ?_)
 simp only [go_sem]
 have hc : c22 = false := by
  rw [← h22]
  have h1 : ¬ ((j : Int) < 0) := by omega
  simp [h1]; omega
 clear h22
 refine wG tK ?_
 refine Vf (hc) ?_
 refine wG tK ?_
 refine ZW ZM ?_
 refine ZS rfl ?_
 refine sNq tK 9 ?_ ?_ (h := by simp only [go_sem,hg0,ZC]; try exact rfl)
 ·simp [hg0,hj,ZC]
 refine sC Tryz.func51 (hf := (hst)) (hk := ?_)
 refine sN tK 4 ?_
 refine sW tK ?_
 refine sW tK ?_
 refine sW tK ?_
 refine sT tK ?_
 refine sT tK ?_
 refine sT tK ?_
 refine sE ?_
 refine wKd ?_
 try simp only [go_sem,gA,gB,gC]
 refine wG tK ?_
 refine Yl (Ze 68 110 10 (by simp only [go_sem]; try exact rfl)) ?_
 simp only [go_sem]
 refine Yl (le_rows 9 ([[.sl (g.u.s.tree.map ZN),.int .i64 g.u.s.next,.sl (g.u.s.past.map ZP),.osl 68 10 0 0]]) (by simp only [go_sem]; exact rfl) (by simp [leRowsP,leWk,wk])) ?_
 simp only [go_sem]
 refine ZL (fun i : Nat => i ≤ w.cs.length) (fun i => w.cs.length - i) (fun i => [(10,.any),(11,.any),(44,.int .i64 i),(45,.any),(46,.any),(47,.any),(48,.any),(49,.any),(50,.any),(51,.any),(52,.any),(53,.any),(54,.any),(55,.any),(56,.any),(57,.any),(58,.any),(59,.any),(60,.any),(61,.any),(62,.any),(63,.any),(64,.any),(65,.any),(66,.any),(67,.any),(68,.any),(69,.any),(70,.any)])
  (fun i => [(9,.cells 34 4 [[.sl (g.u.s.tree.map ZN),.int .i64 g.u.s.next,.sl (g.u.s.past.map ZP),.osl 68 10 0 (P i).length]]),(68,.cells 110 10 ((P i).map ZC))]) 0 (by omega) ?_ fun i hi => ?_
 ·rw [hP0]
  simp only [go_sem]
  exact ZU (by simp [go_sem]) (by simp [go_sem]) (by simp [go_sem])
 simp only [go_sem]
 refine wG tK ?_
 refine wD (fun h => ?_) (fun h => ?_)
 ·have hlt : i < w.cs.length := by simp at h; omega
  have hg1 : (w.cs.map ZC).getD i [] = ZC (w.cs.getD i default) := Fam.getD hlt
  have how' := wi1 (i := i) (by omega)
  have hs1 := hPs i hlt
  have hl1 := hPl i hi
  have hci := hcx i hlt
  generalize w.cs.getD i default = ci at *
  generalize P i = Q at *
  have htq : List.take Q.length (Q.map ZC) = Q.map ZC := List.take_of_length_le (by simp)
  refine wR ?_
  refine wNq tK 6 ?_ ?_ (h := by simp only [go_sem,hg1,ZC]; try exact rfl)
  ·simp [hg1,ZC,hlt]
  refine wG tK ?_
  by_cases hij : i = j
  ·rw [if_pos hij] at hs1
   refine wDT (hb := by simp [hij]) (hk := ?_)
   refine wG tK ?_
   have hin := hcg
   generalize hkv : g.u.c = kk at *
   cases haw : kk.away with
   | true =>
    have hkk : freshW g.u.s.tree kk = kk := by unfold freshW; rw [if_pos haw]
    refine wDF (hb := by simp [haw]) (hk := ?_)
    refine wR ?_
    refine wN tK 2 ?_
    refine Yl (le_killB 68 9 (by simp only [go_sem]; exact rfl) (by simp only [go_sem,kill]; exact rfl)) ?_
    refine wGq tK ?_ ?_ (by simp only [go_sem,how']; try exact rfl)
    ·simp [htq,refs]
     omega
    refine ZB ⟨i + 1,by omega,by omega,ZU ?_ ?_ ?_⟩
    ·simp [go_sem]
    ·simp [go_sem,hs1,htq,ZC,hkk,haw]
    ·simp [go_sem]
   | false =>
    have hkk : freshW g.u.s.tree kk = { kk with cache := kk.cache.filter fun k => !staleK g.u.s.tree k } := by unfold freshW freshC; rw [if_neg (by simp [haw])]
    have hfr := hfr0 kk.cache (hcc kk hin)
    refine wDT (hb := by simp [haw]) (hk := ?_)
    refine wG tK ?_
    refine ZW ZM ?_
    refine ZS rfl ?_
    refine sN tK 4 ?_
    refine sC Tryz.func20 (hf := (hof)) (hk := ?_)
    refine sC Tryz.func52 (hf := (hfr)) (hk := ?_)
    refine sN tK 1 ?_
    refine sT tK ?_
    refine sE ?_
    refine wKd ?_
    try simp only [go_sem,gA,gB,gC]
    refine wR ?_
    refine wN tK 2 ?_
    refine Yl (le_killB 68 9 (by simp only [go_sem]; exact rfl) (by simp only [go_sem,kill]; exact rfl)) ?_
    refine wGq tK ?_ ?_ (by simp only [go_sem,how']; try exact rfl)
    ·simp [htq,refs]
     omega
    refine ZB ⟨i + 1,by omega,by omega,ZU ?_ ?_ ?_⟩
    ·simp [go_sem]
    ·simp [go_sem,hs1,htq,ZC,hkk,haw]
    ·simp [go_sem]
  ·rw [if_neg hij] at hs1
   refine wDF (hb := by simp; omega) (hk := ?_)
   refine wG tK ?_
   have hin := hci
   generalize hkv : ci = kk at *
   cases haw : kk.away with
   | true =>
    have hkk : freshW g.u.s.tree kk = kk := by unfold freshW; rw [if_pos haw]
    refine wDF (hb := by simp [haw]) (hk := ?_)
    refine wR ?_
    refine wN tK 2 ?_
    refine Yl (le_killB 68 9 (by simp only [go_sem]; exact rfl) (by simp only [go_sem,kill]; exact rfl)) ?_
    refine wGq tK ?_ ?_ (by simp only [go_sem,how']; try exact rfl)
    ·simp [htq,refs]
     omega
    refine ZB ⟨i + 1,by omega,by omega,ZU ?_ ?_ ?_⟩
    ·simp [go_sem]
    ·simp [go_sem,hs1,htq,ZC,hkk,haw]
    ·simp [go_sem]
   | false =>
    have hkk : freshW g.u.s.tree kk = { kk with cache := kk.cache.filter fun k => !staleK g.u.s.tree k } := by unfold freshW freshC; rw [if_neg (by simp [haw])]
    have hfr := hfr0 kk.cache (hcc kk hin)
    refine wDT (hb := by simp [haw]) (hk := ?_)
    refine wG tK ?_
    refine ZW ZM ?_
    refine ZS rfl ?_
    refine sN tK 4 ?_
    refine sC Tryz.func20 (hf := (hof)) (hk := ?_)
    refine sC Tryz.func52 (hf := (hfr)) (hk := ?_)
    refine sN tK 1 ?_
    refine sT tK ?_
    refine sE ?_
    refine wKd ?_
    try simp only [go_sem,gA,gB,gC]
    refine wR ?_
    refine wN tK 2 ?_
    refine Yl (le_killB 68 9 (by simp only [go_sem]; exact rfl) (by simp only [go_sem,kill]; exact rfl)) ?_
    refine wGq tK ?_ ?_ (by simp only [go_sem,how']; try exact rfl)
    ·simp [htq,refs]
     omega
    refine ZB ⟨i + 1,by omega,by omega,ZU ?_ ?_ ?_⟩
    ·simp [go_sem]
    ·simp [go_sem,hs1,htq,ZC,hkk,haw]
    ·simp [go_sem]
 ·have e : i = w.cs.length := by simp at h; omega
  subst e
  have hl1 := hPl w.cs.length (Nat.le_refl _)
  generalize P w.cs.length = Q at *
  have htq : List.take Q.length (Q.map ZC) = Q.map ZC := List.take_of_length_le (by simp)
  refine ZZ 68 rfl (cliRow_pure _) ?_
  simp only [go_sem,htq]
  refine wG tK ?_
  refine ZW ZM ?_
  refine ZS rfl ?_
  refine sN tK 2 ?_
  refine sT tK ?_
  refine sT tK ?_
  refine sE ?_
  refine wKd ?_
  try simp only [go_sem,gA,gB,gC]
  refine wG tK ?_
  refine wT ?_
  rfl
theorem rworld_ok {B T : Nat} (w : Wor) (h : WInv B T w) (hB : B ≤ 30000000) (hT : T ≤ 800000000000) (x : Step) (hp : x.path.length ≤ 10000000) (hq : x.toPath.length ≤ 10000000) : FnOK Tryz.prog 31 [.agg (worRow w),.agg (ZX x)] [] (fun r _ => r = worldA (worldU w x)) := by
 by_cases hb : x.client < 0 ∨ x.client ≥ w.cs.length
 ·exact rworld_out w h hB hT x hp hq hb
 ·exact rworld_in w h hB hT x hp hq hb
theorem newServer_raw : FnOK Tryz.prog 10 [] [] (fun r _ => r = .agg [.sl [[.int .i64 0,.bool true,.nils,.nils,.int .i64 0]],.int .i64 1,.nils]) := by
 refine ZF tK (Tryz.func10) rfl (fun C => ?_)
 simp only [Tryz.ntmps10,Tryz.results10,go_sem]
 refine wG tK ?_
 refine ZZ 2 rfl (rfl) ?_
 simp only [go_sem]
 refine wT ?_
 rfl
theorem newServer_ok : FnOK Tryz.prog 10 [] [] (fun r _ => r = .agg (ZQ ⟨[rootN],1,[]⟩)) := FnOK.nrmR newServer_raw rfl
def zeroW : Wor := ⟨⟨[],0,[]⟩,[]⟩
def newWA (rooms : List Int) : AV := .tup [.agg (worRow (if roomsE rooms = 0 then newW rooms else zeroW)),.int .i64 (roomsE rooms)]
theorem newCs_succ (rooms : List Int) (i : Nat) : newCs rooms (i + 1) = newCs rooms i ++ [newC (i : Int) (rooms.getD i 0)] := by
 unfold newCs
 rw [List.range_succ,List.map_append]; rfl
theorem newCs_len (rooms : List Int) (i : Nat) : (newCs rooms i).length = i := by unfold newCs; simp
theorem newWorld_ok (rooms : List Int) (hr : rooms.length ≤ 100000000) : FnOK Tryz.prog 30 [.sl (rooms.map ZI)] [] (fun r _ => r = newWA rooms) := by
 have hns := newServer_ok
 unfold ZQ at hns
 have hsu := newCs_succ rooms
 have hle := newCs_len rooms
 have h0 : newCs rooms 0 = [] := rfl
 have hW : newWA rooms = .tup [.agg (worRow (if roomsE rooms = 0 then ⟨newS,newCs rooms rooms.length⟩ else zeroW)),.int .i64 (roomsE rooms)] := rfl
 have hE : roomsE rooms = if rooms.length < 1 ∨ 3 < rooms.length then 5 else if rooms.all (fun n => decide (3 ≤ n) && decide (n ≤ 24)) then 0 else 3 := rfl
 rw [hW]
 generalize roomsE rooms = E at *
 generalize newCs rooms = P at *
 clear hW
 refine ZF tK (Tryz.func30) rfl (fun C => ?_)
 simp only [Tryz.ntmps30,Tryz.results30,go_sem]
 refine wR ?_
 refine wN tK 2 ?_
 refine wR ?_
 refine wN tK 8 ?_
 refine Yn 14 (by simp only [go_sem]; exact rfl) (fun c14 h14 => ?_)
 simp only [go_sem]
 have hc : c14 = true ↔ (rooms.length < 1 ∨ 3 < rooms.length) := by
  rw [← h14]
  by_cases h1 : rooms.length < 1
  ·simp [h1]; omega
  ·simp [h1]; omega
 clear h14
 refine wG tK ?_
 by_cases hb : rooms.length < 1 ∨ 3 < rooms.length
 ·rw [if_pos hb] at hE
  subst hE
  refine Vt (hc.2 hb) ?_
  refine wG tK ?_
  refine Yl (Zn 2) ?_
  simp only [go_sem]
  refine wT ?_
  rfl
 ·rw [if_neg hb] at hE
  refine wDF (hb := by simpa using fun h0 => hb (hc.1 h0)) (hk := ?_)
  refine wG tK ?_
  refine wC Tryz.func10 (hf := (hns)) (hk := ?_)
  refine wG tK ?_
  refine Yl (Ze 38 110 10 (by simp only [go_sem]; try exact rfl)) ?_
  simp only [go_sem]
  refine Yl (le_rows 4 ([[.sl ([rootN].map ZN),.int .i64 1,.sl [],.osl 38 10 0 0]]) (by simp only [go_sem]; exact rfl) (by simp [leRowsP,leWk,wk])) ?_
  simp only [go_sem]
  refine ZL (fun i : Nat => i ≤ rooms.length ∧ (rooms.take i).all (fun n => decide (3 ≤ n) && decide (n ≤ 24)) = true) (fun i => rooms.length - i) (fun i => [(5,.any),(6,.any),(20,.int .i64 i),(21,.any),(22,.any),(23,.any),(24,.any),(25,.any),(26,.any),(27,.any),(28,.any),(29,.any),(30,.any),(31,.any),(32,.any),(33,.any),(34,.any),(35,.any),(36,.any),(37,.any),(38,.any),(39,.any),(40,.any),(41,.any)])
   (fun i => [(4,.cells 34 4 [[.sl ([rootN].map ZN),.int .i64 1,.sl [],.osl 38 10 0 (P i).length]]),(38,.cells 110 10 ((P i).map ZC))]) 0 ⟨by omega,rfl⟩ ?_ fun i hi => ?_
  ·rw [h0]
   simp only [go_sem]
   exact ZU (by simp [go_sem]) (by simp [go_sem]) (by simp [go_sem])
  obtain ⟨hi,hall⟩ := hi
  simp only [go_sem]
  refine wG tK ?_
  refine wD (fun h => ?_) (fun h => ?_)
  ·have hlt : i < rooms.length := by simp at h; omega
   have hg : (rooms.map ZI).getD i [] = [.int .i64 (rooms.getD i 0)] := by
    rw [List.getD_eq_getElem?_getD,List.getElem?_map,List.getD_eq_getElem?_getD,List.getElem?_eq_getElem hlt]; rfl
   have how' := wi1 (i := i) (by omega)
   have hs1 := hsu i
   have hl1 := hle i
   have htk : rooms.take (i + 1) = rooms.take i ++ [rooms.getD i 0] := by
    rw [List.take_add_one,List.getD_eq_getElem?_getD,List.getElem?_eq_getElem hlt]; rfl
   generalize hn : rooms.getD i 0 = n at *
   generalize P i = Q at *
   have htq : List.take Q.length (Q.map ZC) = Q.map ZC := List.take_of_length_le (by simp)
   refine wR ?_
   refine wNq tK 5 ?_ ?_ (h := by simp only [go_sem,hg]; try exact rfl)
   ·simp [hg,hlt]
   refine wR ?_
   refine wN tK 6 ?_
   refine Yn 30 (by simp only [go_sem]; exact rfl) (fun c30 h30 => ?_)
   simp only [go_sem]
   have hc3 : c30 = true ↔ ¬ (3 ≤ n ∧ n ≤ 24) := by
    rw [← h30]
    by_cases h1 : n < 3
    ·simp [h1]; omega
    ·simp [h1]; omega
   clear h30
   refine wG tK ?_
   by_cases hok : 3 ≤ n ∧ n ≤ 24
   ·refine wDF (hb := by simpa using fun h0 => hc3.1 h0 hok) (hk := ?_)
    refine wR ?_
    refine wN tK 5 ?_
    refine Yl (le_nilT 36 (by simp only [go_sem]; exact rfl) (by simp only [go_sem,nil0]; exact rfl)) ?_
    simp only [go_sem]
    refine Yl (le_killB 38 4 (by simp only [go_sem]; exact rfl) (by simp only [go_sem,kill]; exact rfl)) ?_
    refine wGq tK ?_ ?_ (by simp only [go_sem,how']; try exact rfl)
    ·simp [htq,refs]
     first | exact ⟨by intro row h; simp at h; subst h; rfl,by omega⟩ | omega
    refine ZB ⟨i + 1,⟨by omega,by rw [htk,List.all_append,hall]; simp [hok]⟩,by omega,ZU ?_ ?_ ?_⟩
    ·simp [go_sem]
    ·simp [go_sem,hs1,htq,ZC,newC]
    ·simp [go_sem]
   ·have hE3 : E = 3 := by
     rw [hE,if_neg]
     simp only [List.all_eq_true,Bool.and_eq_true,decide_eq_true_eq]
     intro hx
     have := hx n (by rw [← hn,List.getD_eq_getElem?_getD,List.getElem?_eq_getElem hlt]; exact List.getElem_mem _)
     exact hok this
    subst hE3
    refine Vt (hc3.2 hok) ?_
    refine wG tK ?_
    refine Yl (Zn 2) ?_
    simp only [go_sem]
    refine wT ?_
    rfl
  ·have e : i = rooms.length := by simp at h; omega
   subst e
   rw [List.take_length] at hall
   rw [if_pos hall] at hE
   subst hE
   have hl1 := hle rooms.length
   generalize P rooms.length = Q at *
   have htq : List.take Q.length (Q.map ZC) = Q.map ZC := List.take_of_length_le (by simp)
   refine wR ?_
   refine ZZ 38 rfl (cliRow_pure _) ?_
   simp only [go_sem,htq]
   refine wG tK ?_
   refine wT ?_
   rfl
noncomputable def bldW (rooms : List Int) (l : List Step) : Wor := if roomsE rooms = 0 then buildW rooms l else zeroW
noncomputable def bldT (rooms : List Int) (l : List Step) (i : Nat) : Wor := buildW rooms (l.take i)
theorem bldT_succ {rooms : List Int} {l : List Step} {i : Nat} (h : i < l.length) : bldT rooms l (i + 1) = (worldU (bldT rooms l i) (l.getD i default)).w := by
 unfold bldT buildW
 rw [ZT h,List.foldl_append]; rfl
theorem bldT_inv {rooms : List Int} (h : roomsE rooms = 0) (l : List Step) (i : Nat) : WInv (20 * l.length) (300 * l.length) (bldT rooms l i) := by
 have := build_inv h (l.take i)
 rw [List.length_take] at this
 exact ⟨this.srv.mono (by omega),fun c hc => (this.cli c hc).mono (by omega) (by omega),this.len⟩
structure StepsOK (l : List Step) : Prop where
 len : l.length ≤ 1400000
 path : ∀ x,x ∈ l → x.path.length ≤ 10000000 ∧ x.toPath.length ≤ 10000000
theorem rbuild_ok (rooms : List Int) (hr : rooms.length ≤ 100000000) (l : List Step) (hl : StepsOK l) : FnOK Tryz.prog 7 [.sl (rooms.map ZI),.sl (l.map ZX)] [] (fun r _ => r = .agg (worRow (bldW rooms l))) := by
 have hn := newWorld_ok rooms hr
 have hll := hl.len
 unfold newWA at hn
 have hB0 : bldW rooms l = if roomsE rooms = 0 then bldT rooms l l.length else zeroW := by unfold bldW bldT; rw [List.take_length]
 have hinv := fun h i => @bldT_inv rooms h l i
 have hsu := fun i => @bldT_succ rooms l i
 have hz : bldT rooms l 0 = newW rooms := rfl
 rw [hB0]
 generalize bldT rooms l = F at *
 rw [← hz] at hn
 clear hB0 hz
 generalize roomsE rooms = E at *
 generalize hW0 : (if E = 0 then F 0 else zeroW) = W0 at *
 unfold worRow at hn
 refine ZF tK (Tryz.func7) rfl (fun C => ?_)
 simp only [Tryz.ntmps7,Tryz.results7,go_sem]
 refine wG tK ?_
 refine wC Tryz.func30 (hf := (hn)) (hk := ?_)
 refine wG tK ?_
 by_cases hE : E = 0
 ·rw [if_pos hE] at hW0 ⊢
  have hinv := hinv hE
  subst hW0
  refine wDF (hb := by simp [hE]) (hk := ?_)
  refine wG tK ?_
  refine ZL (fun i : Nat => i ≤ l.length) (fun i => l.length - i) (fun i => [(8,.any),(9,.any),(10,.any),(21,.int .i64 i),(22,.any),(23,.any),(24,.any),(25,.any),(26,.any),(27,.any),(28,.any),(29,.any),(30,.any),(31,.any),(32,.any),(33,.any)])
   (fun i => [(5,.cells 34 4 [worRow (F i)])]) 0 (by omega) ?_ fun i hi => ?_
  ·unfold worRow
   simp only [go_sem]
   exact ZU (by simp [go_sem]) (by simp [go_sem]) (by simp [go_sem])
  unfold worRow
  simp only [go_sem]
  refine wG tK ?_
  refine wD (fun h => ?_) (fun h => ?_)
  ·have hlt : i < l.length := by simp at h; omega
   have hg : (l.map ZX).getD i [] = ZX (l.getD i default) := Fam.getD hlt
   have how' := wi1 (i := i) (by omega)
   have hpx := hl.path (l.getD i default) (by rw [List.getD_eq_getElem?_getD,List.getElem?_eq_getElem hlt]; exact List.getElem_mem _)
   have hw := rworld_ok (F i) (hinv i) (by omega) (by omega) (l.getD i default) hpx.1 hpx.2
   have hs1 := hsu i hlt
   generalize l.getD i default = x at *
   unfold worldA worRow ZX replyRow at hw
   generalize worldU (F i) x = g at *
   refine wR ?_
   refine wNq tK 4 ?_ ?_ (h := by simp only [go_sem,hg,ZX]; try exact rfl)
   ·simp [hg,ZX,hlt]
   refine wG tK ?_
   refine wC Tryz.func31 (hf := (hw)) (hk := ?_)
   refine wG tK ?_ (by simp only [go_sem,how']; try exact rfl) (by simp [go_sem,how'])
   refine ZB ⟨i + 1,by omega,by omega,ZU ?_ ?_ ?_⟩
   ·simp [go_sem]
   ·simp [go_sem,hs1,worRow]
   ·simp [go_sem]
  ·have e : i = l.length := by simp at h; omega
   subst e
   refine wG tK ?_
   refine wT ?_
   rfl
 ·rw [if_neg hE] at hW0 ⊢
  subst hW0
  refine wDT (hb := by simp [hE]) (hk := ?_)
  refine wG tK ?_
  refine wT ?_
  rfl
theorem bldW_inv {rooms : List Int} (h : roomsE rooms = 0) (l : List Step) : WInv (20 * l.length) (300 * l.length) (bldW rooms l) := by
 unfold bldW
 rw [if_pos h]
 exact build_inv h l
def tn (f t x : Int) : Int := if x = f then t else x
def turn (a : Act) (f t : Int) : Act := { a with fid := tn f t a.fid,dir := tn f t a.dir,to := tn f t a.to }
theorem sameAct_ok (a b : Act) : FnOK Tryz.prog 45 [.agg (ZA a),.agg (ZA b)] [] (fun r _ => r = .bool (decide (a = b))) := by
 unfold ZA
 refine ZF tK (Tryz.func45) rfl (fun C => ?_)
 simp only [Tryz.ntmps45,Tryz.results45,go_sem]
 refine cw_go tK 5 (by simp only [go_sem]; try exact rfl) (by simp [go_sem]) ?_
 refine wN tK 6 ?_
 generalize h1 : (a.kind == b.kind) = c1
 refine wN tK 1 ?_
 refine wN tK 1 ?_
 refine wN tK 1 ?_
 refine wN tK 1 ?_
 refine wN tK 1 ?_
 refine wN tK 1 ?_
 refine wN tK 1 ?_
 generalize h2 : (bif c1 then a.fid == b.fid else false) = c2
 refine wN tK 1 ?_
 refine wN tK 1 ?_
 refine wN tK 1 ?_
 refine wN tK 1 ?_
 refine wN tK 1 ?_
 refine wN tK 1 ?_
 refine wN tK 1 ?_
 generalize h3 : (bif c2 then a.dir == b.dir else false) = c3
 refine wN tK 1 ?_
 refine wN tK 1 ?_
 refine wN tK 1 ?_
 refine wN tK 1 ?_
 refine wN tK 1 ?_
 refine wN tK 1 ?_
 refine wN tK 1 ?_
 generalize h4 : (bif c3 then a.name == b.name else false) = c4
 refine wN tK 1 ?_
 refine wN tK 1 ?_
 refine wN tK 1 ?_
 refine wN tK 1 ?_
 refine wN tK 1 ?_
 refine wN tK 1 ?_
 refine wN tK 1 ?_
 generalize h5 : (bif c4 then a.to == b.to else false) = c5
 refine wN tK 1 ?_
 refine wN tK 1 ?_
 refine wN tK 1 ?_
 refine wN tK 1 ?_
 refine wN tK 1 ?_
 refine wN tK 1 ?_
 refine wN tK 1 ?_
 generalize h6 : (bif c5 then a.toName == b.toName else false) = c6
 refine wN tK 1 ?_
 refine wN tK 1 ?_
 refine wN tK 1 ?_
 refine wN tK 1 ?_
 refine wN tK 1 ?_
 refine wN tK 1 ?_
 refine wN tK 1 ?_
 refine wN tK 1 ?_
 refine wN tK 1 ?_
 refine wG tK ?_
 refine wT ?_
 subst h6 h5 h4 h3 h2 h1
 obtain ⟨k1,f1,d1,n1,t1,m1,x1⟩ := a
 obtain ⟨k2,f2,d2,n2,t2,m2,x2⟩ := b
 congr 1
 rw [Bool.eq_iff_iff]
 simp only [Bool.cond_eq_ite]
 simp [and_assoc]
theorem sameLog_ok (a b : List Rec) (ha : a.length ≤ 100000000) (hb : b.length ≤ 100000000) : FnOK Tryz.prog 24 [.sl (a.map ZR),.sl (b.map ZR)] [] (fun r _ => r = .bool (decide (a = b))) := by
 refine ZF tK (Tryz.func24) rfl (fun C => ?_)
 simp only [Tryz.ntmps24,Tryz.results24,go_sem]
 refine wG tK ?_
 refine wD (fun h => ?_) (fun h => ?_)
 ·refine wG tK ?_
  refine wT ?_
  have hne : a ≠ b := by rintro rfl; simp at h
  simp [hne]
 have hl : a.length = b.length := by simp at h; omega
 refine wG tK ?_
 refine ZL (fun i : Nat => i ≤ a.length ∧ a.take i = b.take i) (fun i => a.length - i) (fun i => [(13,.int .i64 i),(5,.any),(14,.any),(15,.any),(16,.any),(17,.any),(18,.any),(19,.any),(20,.any),(21,.any),(22,.any),(23,.any),(24,.any),(25,.any),(26,.any),(27,.any),(28,.any),(29,.any),(30,.any),(31,.any),(32,.any),(33,.any),(34,.any),(35,.any),(36,.any),(37,.any),(38,.any),(39,.any),(40,.any),(41,.any),(42,.any),(43,.any),(44,.any),(45,.any),(46,.any),(47,.any),(48,.any),(49,.any),(50,.any),(51,.any),(52,.any),(53,.any),(54,.any)]) (fun _ => []) 0 ⟨by omega,rfl⟩ ?_ fun i hi => ?_
 ·simp only [go_sem]
  exact ZU (by simp [go_sem]) (by simp [go_sem]) (by simp only [go_sem])
 obtain ⟨hi,ht⟩ := hi
 simp only [go_sem]
 refine wG tK ?_
 refine wD (fun h => ?_) (fun h => ?_)
 ·have hlt : i < a.length := by simp at h; omega
  have hltb : i < b.length := by omega
  have hg : (a.map ZR).getD i [] = ZR (a.getD i default) := Fam.getD hlt
  have hgb : (b.map ZR).getD i [] = ZR (b.getD i default) := Fam.getD hltb
  refine wG tK ?_
  refine ZW ZM ?_
  refine ZS rfl ?_
  have ga := ZT hlt
  have gb := ZT hltb
  generalize a.getD i default = x at hg ga
  generalize b.getD i default = y at hgb gb
  refine sN tK 1 ?_ (h := by simp only [go_sem,hlt,hltb,hg,hgb,ZR]; try exact rfl) (hp := by simp [go_sem,hlt,hltb,hg,hgb,ZR])
  refine sN tK 1 ?_ (h := by simp only [go_sem,hlt,hltb,hg,hgb,ZR]; try exact rfl) (hp := by simp [go_sem,hlt,hltb,hg,hgb,ZR])
  refine sN tK 1 ?_ (h := by simp only [go_sem,hlt,hltb,hg,hgb,ZR]; try exact rfl) (hp := by simp [go_sem,hlt,hltb,hg,hgb,ZR])
  refine sN tK 1 ?_ (h := by simp only [go_sem,hlt,hltb,hg,hgb,ZR]; try exact rfl) (hp := by simp [go_sem,hlt,hltb,hg,hgb,ZR])
  refine sN tK 1 ?_ (h := by simp only [go_sem,hlt,hltb,hg,hgb,ZR]; try exact rfl) (hp := by simp [go_sem,hlt,hltb,hg,hgb,ZR])
  refine sN tK 1 ?_ (h := by simp only [go_sem,hlt,hltb,hg,hgb,ZR]; try exact rfl) (hp := by simp [go_sem,hlt,hltb,hg,hgb,ZR])
  refine sN tK 1 ?_ (h := by simp only [go_sem,hlt,hltb,hg,hgb,ZR]; try exact rfl) (hp := by simp [go_sem,hlt,hltb,hg,hgb,ZR])
  refine sN tK 1 ?_ (h := by simp only [go_sem,hlt,hltb,hg,hgb,ZR]; try exact rfl) (hp := by simp [go_sem,hlt,hltb,hg,hgb,ZR])
  refine sN tK 1 ?_ (h := by simp only [go_sem,hlt,hltb,hg,hgb,ZR]; try exact rfl) (hp := by simp [go_sem,hlt,hltb,hg,hgb,ZR])
  refine sN tK 1 ?_ (h := by simp only [go_sem,hlt,hltb,hg,hgb,ZR]; try exact rfl) (hp := by simp [go_sem,hlt,hltb,hg,hgb,ZR])
  refine sN tK 1 ?_ (h := by simp only [go_sem,hlt,hltb,hg,hgb,ZR]; try exact rfl) (hp := by simp [go_sem,hlt,hltb,hg,hgb,ZR])
  refine sN tK 1 ?_ (h := by simp only [go_sem,hlt,hltb,hg,hgb,ZR]; try exact rfl) (hp := by simp [go_sem,hlt,hltb,hg,hgb,ZR])
  generalize h1 : (x.version != y.version) = c1
  refine sN tK 1 ?_ (h := by simp only [go_sem,hlt,hltb,hg,hgb,ZR]; try exact rfl) (hp := by simp [go_sem,hlt,hltb,hg,hgb,ZR])
  refine sN tK 1 ?_ (h := by simp only [go_sem,hlt,hltb,hg,hgb,ZR]; try exact rfl) (hp := by simp [go_sem,hlt,hltb,hg,hgb,ZR])
  refine sN tK 1 ?_ (h := by simp only [go_sem,hlt,hltb,hg,hgb,ZR]; try exact rfl) (hp := by simp [go_sem,hlt,hltb,hg,hgb,ZR])
  refine sN tK 1 ?_ (h := by simp only [go_sem,hlt,hltb,hg,hgb,ZR]; try exact rfl) (hp := by simp [go_sem,hlt,hltb,hg,hgb,ZR])
  refine sN tK 1 ?_ (h := by simp only [go_sem,hlt,hltb,hg,hgb,ZR]; try exact rfl) (hp := by simp [go_sem,hlt,hltb,hg,hgb,ZR])
  refine sN tK 1 ?_ (h := by simp only [go_sem,hlt,hltb,hg,hgb,ZR]; try exact rfl) (hp := by simp [go_sem,hlt,hltb,hg,hgb,ZR])
  refine sN tK 1 ?_ (h := by simp only [go_sem,hlt,hltb,hg,hgb,ZR]; try exact rfl) (hp := by simp [go_sem,hlt,hltb,hg,hgb,ZR])
  refine sN tK 1 ?_ (h := by simp only [go_sem,hlt,hltb,hg,hgb,ZR]; try exact rfl) (hp := by simp [go_sem,hlt,hltb,hg,hgb,ZR])
  refine sN tK 1 ?_ (h := by simp only [go_sem,hlt,hltb,hg,hgb,ZR]; try exact rfl) (hp := by simp [go_sem,hlt,hltb,hg,hgb,ZR])
  refine sN tK 1 ?_ (h := by simp only [go_sem,hlt,hltb,hg,hgb,ZR]; try exact rfl) (hp := by simp [go_sem,hlt,hltb,hg,hgb,ZR])
  refine sN tK 1 ?_ (h := by simp only [go_sem,hlt,hltb,hg,hgb,ZR]; try exact rfl) (hp := by simp [go_sem,hlt,hltb,hg,hgb,ZR])
  refine sN tK 1 ?_ (h := by simp only [go_sem,hlt,hltb,hg,hgb,ZR]; try exact rfl) (hp := by simp [go_sem,hlt,hltb,hg,hgb,ZR])
  refine sN tK 1 ?_ (h := by simp only [go_sem,hlt,hltb,hg,hgb,ZR]; try exact rfl) (hp := by simp [go_sem,hlt,hltb,hg,hgb,ZR])
  generalize h2 : (bif c1 then true else x.id != y.id) = c2
  refine sN tK 1 ?_ (h := by simp only [go_sem,hlt,hltb,hg,hgb,ZR]; try exact rfl) (hp := by simp [go_sem,hlt,hltb,hg,hgb,ZR])
  refine sN tK 1 ?_ (h := by simp only [go_sem,hlt,hltb,hg,hgb,ZR]; try exact rfl) (hp := by simp [go_sem,hlt,hltb,hg,hgb,ZR])
  refine sN tK 1 ?_ (h := by simp only [go_sem,hlt,hltb,hg,hgb,ZR]; try exact rfl) (hp := by simp [go_sem,hlt,hltb,hg,hgb,ZR])
  refine sN tK 1 ?_ (h := by simp only [go_sem,hlt,hltb,hg,hgb,ZR]; try exact rfl) (hp := by simp [go_sem,hlt,hltb,hg,hgb,ZR])
  refine sN tK 1 ?_ (h := by simp only [go_sem,hlt,hltb,hg,hgb,ZR]; try exact rfl) (hp := by simp [go_sem,hlt,hltb,hg,hgb,ZR])
  refine sN tK 1 ?_ (h := by simp only [go_sem,hlt,hltb,hg,hgb,ZR]; try exact rfl) (hp := by simp [go_sem,hlt,hltb,hg,hgb,ZR])
  refine sN tK 1 ?_ (h := by simp only [go_sem,hlt,hltb,hg,hgb,ZR]; try exact rfl) (hp := by simp [go_sem,hlt,hltb,hg,hgb,ZR])
  refine sN tK 1 ?_ (h := by simp only [go_sem,hlt,hltb,hg,hgb,ZR]; try exact rfl) (hp := by simp [go_sem,hlt,hltb,hg,hgb,ZR])
  refine sN tK 1 ?_ (h := by simp only [go_sem,hlt,hltb,hg,hgb,ZR]; try exact rfl) (hp := by simp [go_sem,hlt,hltb,hg,hgb,ZR])
  refine sN tK 1 ?_ (h := by simp only [go_sem,hlt,hltb,hg,hgb,ZR]; try exact rfl) (hp := by simp [go_sem,hlt,hltb,hg,hgb,ZR])
  refine sCC Tryz.func45 (hf := fun hb => (sameAct_ok x.act y.act)) (hk := ?_)
  refine sN tK 1 ?_
  refine sN tK 1 ?_
  refine sE ?_
  refine wKd ?_
  have hx : (x = y) ↔ ((bif c2 then true else !decide (x.act = y.act)) = false) := by
   subst h2 h1
   obtain ⟨xa,xv,xi⟩ := x
   obtain ⟨ya,yv,yi⟩ := y
   simp only [Rec.mk.injEq,Bool.cond_eq_ite]
   by_cases e1 : xv = yv <;> by_cases e2 : xi = yi <;> simp [e1,e2]
  refine wD (fun h => ?_) (fun h => ?_)
  ·refine wG tK ?_
   refine wT ?_
   have hne : a ≠ b := by
    intro he
    rw [← he,ga] at gb
    have e := List.append_cancel_left gb
    injection e with e
    rw [hx.1 e] at h
    cases h
   simp [hne]
  ·refine wG tK ?_
   have hw : IntKind.i64.wrap ((i : Int) + 1) = (i : Int) + 1 := wrap_small (by omega) (by omega)
   refine ZB ⟨i + 1,⟨by omega,by rw [ga,gb,ht,hx.2 h]⟩,by omega,ZU ?_ ?_ ?_⟩
   ·simp [go_sem,hw]
   ·simp [go_sem]
   ·simp only [go_sem]
 ·have e : i = a.length := by simp at h; omega
  refine wG tK ?_
  refine wT ?_
  have : a = b := by
   rw [e,List.take_length,hl,List.take_length] at ht
   exact ht
  simp [this]
theorem sameVerdicts_self (l : List Verdict) (hl : l.length ≤ 100000000) : FnOK Tryz.prog 17 [.sl (l.map ZV),.sl (l.map ZV)] [] (fun r _ => r = .bool true) := by
 refine ZF tK (Tryz.func17) rfl (fun C => ?_)
 simp only [Tryz.ntmps17,Tryz.results17,go_sem]
 refine wG tK ?_
 refine wDF (hb := by simp) (hk := ?_)
 refine wG tK ?_
 refine ZL (fun i : Nat => i ≤ l.length) (fun i => l.length - i) (fun i => [(13,.int .i64 i),(5,.any),(14,.any),(15,.any),(16,.any),(17,.any),(18,.any),(19,.any),(20,.any),(21,.any),(22,.any),(23,.any),(24,.any),(25,.any)]) (fun _ => []) 0 (by omega) ?_ fun i hi => ?_
 ·simp only [go_sem]
  exact ZU (by simp [go_sem]) (by simp [go_sem]) (by simp only [go_sem])
 simp only [go_sem]
 refine wG tK ?_
 refine wD (fun h => ?_) (fun h => ?_)
 ·have hlt : i < l.length := by simp at h; omega
  have hg : (l.map ZV).getD i [] = ZV (l.getD i default) := Fam.getD hlt
  have hw := wi1 (i := i) (by omega)
  generalize l.getD i default = x at hg
  refine wG tK ?_
  refine ZW ZM ?_
  refine ZS rfl ?_
  refine sNq tK 8 ?_ ?_ (h := by simp only [go_sem,hg,ZV]; try exact rfl)
  ·simp [hg,ZV,hlt]
  refine sE ?_
  refine draw_trip rfl (by kernel_rfl) rfl (trip_eqS tK rfl (tys := [38,3]) (by kernel_rfl) (by simp only [go_sem]; try exact rfl) (by simp only [go_sem]; try exact rfl) (by simp only [go_sem]; exact rfl) (by first | exact .inl ⟨rfl,rfl⟩ | exact .inr ⟨rfl,rfl⟩)) rfl ?_
  refine wKd ?_
  simp only [go_sem]
  refine wG tK ?_
  refine wDF (hb := by simp) (hk := ?_)
  refine wG tK ?_ (by simp only [go_sem,hw]; try exact rfl) (by simp [go_sem,hw])
  refine ZB ⟨i + 1,by omega,by omega,ZU ?_ ?_ ?_⟩
  ·simp [go_sem]; exact hw
  ·simp [go_sem]
  ·simp [go_sem]
 ·refine wG tK ?_
  refine wT ?_
  rfl
theorem sameInts_self (l : List Int) (hl : l.length ≤ 100000000) : FnOK Tryz.prog 22 [.sl (l.map ZI),.sl (l.map ZI)] [] (fun r _ => r = .bool true) := by
 refine ZF tK (Tryz.func22) rfl (fun C => ?_)
 simp only [Tryz.ntmps22,Tryz.results22,go_sem]
 refine wG tK ?_
 refine wDF (hb := by simp) (hk := ?_)
 refine wG tK ?_
 refine ZL (fun i : Nat => i ≤ l.length) (fun i => l.length - i) (fun i => [(13,.int .i64 i),(5,.any),(14,.any),(15,.any),(16,.any),(17,.any),(18,.any),(19,.any),(20,.any),(21,.any),(22,.any),(23,.any),(24,.any),(25,.any)]) (fun _ => []) 0 (by omega) ?_ fun i hi => ?_
 ·simp only [go_sem]
  exact ZU (by simp [go_sem]) (by simp [go_sem]) (by simp only [go_sem])
 simp only [go_sem]
 refine wG tK ?_
 refine wD (fun h => ?_) (fun h => ?_)
 ·have hlt : i < l.length := by simp at h; omega
  have hg : (l.map ZI).getD i [] = ZI (l.getD i default) := Fam.getD hlt
  have hw := wi1 (i := i) (by omega)
  generalize l.getD i default = x at hg
  refine wG tK ?_
  refine ZW ZM ?_
  refine ZS rfl ?_
  refine sNq tK 9 ?_ ?_ (h := by simp only [go_sem,hg,ZI]; try exact rfl)
  ·simp [hg,ZI,hlt]
  refine sE ?_
  refine wKd ?_
  refine wG tK ?_
  refine wDF (hb := by simp) (hk := ?_)
  refine wG tK ?_ (by simp only [go_sem,hw]; try exact rfl) (by simp [go_sem,hw])
  refine ZB ⟨i + 1,by omega,by omega,ZU ?_ ?_ ?_⟩
  ·simp [go_sem]
  ·simp [go_sem]
  ·simp [go_sem]
 ·refine wG tK ?_
  refine wT ?_
  rfl
theorem samePast_self (l : List Past) (hl : l.length ≤ 100000000) : FnOK Tryz.prog 32 [.sl (l.map ZP),.sl (l.map ZP)] [] (fun r _ => r = .bool true) := by
 refine ZF tK (Tryz.func32) rfl (fun C => ?_)
 simp only [Tryz.ntmps32,Tryz.results32,go_sem]
 refine wG tK ?_
 refine wDF (hb := by simp) (hk := ?_)
 refine wG tK ?_
 refine ZL (fun i : Nat => i ≤ l.length) (fun i => l.length - i) (fun i => [(13,.int .i64 i),(5,.any),(14,.any),(15,.any),(16,.any),(17,.any),(18,.any),(19,.any),(20,.any),(21,.any),(22,.any),(23,.any),(24,.any),(25,.any),(26,.any),(27,.any),(28,.any),(29,.any),(30,.any),(31,.any),(32,.any),(33,.any),(34,.any),(35,.any),(36,.any),(37,.any),(38,.any),(39,.any),(40,.any),(41,.any)]) (fun _ => []) 0 (by omega) ?_ fun i hi => ?_
 ·simp only [go_sem]
  exact ZU (by simp [go_sem]) (by simp [go_sem]) (by simp only [go_sem])
 simp only [go_sem]
 refine wG tK ?_
 refine wD (fun h => ?_) (fun h => ?_)
 ·have hlt : i < l.length := by simp at h; omega
  have hg : (l.map ZP).getD i [] = ZP (l.getD i default) := Fam.getD hlt
  have hw := wi1 (i := i) (by omega)
  generalize l.getD i default = x at hg
  have hsa := sameAct_ok x.act x.act
  rw [decide_eq_true (rfl : x.act = x.act)] at hsa
  unfold ZA at hsa
  refine wG tK ?_
  refine ZW ZM ?_
  refine ZS rfl ?_
  refine sNq tK 12 ?_ ?_ (h := by simp only [go_sem,hg,ZP]; try exact rfl)
  ·simp [hg,ZP,hlt]
  refine sNq tK 10 ?_ ?_ (h := by simp only [go_sem,hg,ZP]; try exact rfl)
  ·simp [hg,ZP,hlt]
  refine sCC Tryz.func45 (hf := fun hb => (hsa)) (hk := ?_)
  refine sN tK 2 ?_
  refine sE ?_
  refine wKd ?_
  refine wG tK ?_
  refine wDF (hb := by simp) (hk := ?_)
  refine wG tK ?_ (by simp only [go_sem,hw]; try exact rfl) (by simp [go_sem,hw])
  refine ZB ⟨i + 1,by omega,by omega,ZU ?_ ?_ ?_⟩
  ·simp [go_sem]
  ·simp [go_sem]
  ·simp [go_sem]
 ·refine wG tK ?_
  refine wT ?_
  rfl
theorem sameServer_self (s : Srv) (ht : Small s.tree) (hp : s.past.length ≤ 100000000) : FnOK Tryz.prog 8 [.agg (ZQ s),.agg (ZQ s)] [] (fun r _ => r = .bool true) := by
 have h1 := same_self s.tree ht
 have h2 := samePast_self s.past hp
 unfold ZQ
 refine ZF tK (Tryz.func8) rfl (fun C => ?_)
 simp only [Tryz.ntmps8,Tryz.results8,go_sem]
 refine wR ?_
 refine wN tK 3 ?_
 refine wR ?_
 refine wN tK 6 ?_
 refine Yn 10 (by simp only [go_sem]; exact rfl) (fun c10 h10 => ?_)
 simp only [go_sem]
 have hc : c10 = true := by rw [← h10]; simp
 subst hc
 clear h10
 refine wN tK 4 ?_
 refine wCC Tryz.func19 (hf := fun hb => (h1)) (hk := ?_)
 refine wN tK 2 ?_
 refine Yn 17 (by simp only [go_sem]; exact rfl) (fun c17 h17 => ?_)
 simp only [go_sem]
 have hc : c17 = true := by rw [← h17]; rfl
 subst hc
 clear h17
 refine wN tK 4 ?_
 refine wCC Tryz.func32 (hf := fun hb => (h2)) (hk := ?_)
 refine wG tK ?_
 refine wT ?_
 rfl
theorem bldW_no {rooms : List Int} (h : roomsE rooms ≠ 0) (l : List Step) : bldW rooms l = zeroW := by unfold bldW; rw [if_neg h]
theorem Hist.ne {p : List Past} {t : List Node} (h : Hist p t) : 0 < t.length := by
 obtain ⟨n,hn,_⟩ := h.whole.root
 exact List.length_pos_of_mem hn
end La
