/- Texts of this claim, part 19: RJud. No condition. -/
import Derived.Test.YtfiiingppbkpkaaGreatXR10
import Derived.Test.YtfiiingppbkpkaaGreatXR16
import Derived.Test.YtfiiingppbkpkaaGreatXR18
import Derived.Test.YtfiiingppbkpkaaGreatXR7
set_option maxRecDepth 10000
set_option maxHeartbeats 4000000
set_option linter.unusedSimpArgs false
set_option linter.unusedVariables false
namespace La
open Go Go.Eng Go.Proofs
theorem mdel_mput {m : List (Int × Int)} {f x : Int} : hasI m f = false → mdel (Zp m f x) f = m := by
 intro h
 have hno : ∀ {m : List (Int × Int)},hasI m f = false → ∀ q,q ∈ m → q.1 ≠ f := by
  intro m
  induction m with
  | nil => intro _ q hq; cases hq
  | cons a r ih =>
   intro h q hq
   unfold hasI at h ih
   simp only [Zg] at h
   split at h
   ·simp at h
   ·rename_i hne
    rcases List.mem_cons.1 hq with rfl | hq
    ·exact hne
    ·exact ih h q hq
 have hfl : ∀ {m : List (Int × Int)},(∀ q,q ∈ m → q.1 ≠ f) → mdel m f = m := fun hm => List.filter_eq_self.2 fun q hq => by simp [hm q hq]
 have hn := hno h
 clear h
 induction m with
 | nil => simp [Zp,mdel]
 | cons a r ih =>
  have ha := hn a List.mem_cons_self
  have hr : ∀ q,q ∈ r → q.1 ≠ f := fun q hq => hn q (List.mem_cons_of_mem _ hq)
  simp only [Zp,if_neg ha]
  split
  ·have := hfl hn
   unfold mdel at this ⊢
   rw [List.filter_cons,if_neg (by simp)]
   exact this
  ·have := ih hr
   unfold mdel at this ⊢
   rw [List.filter_cons,if_pos (by simp [ha]),this]
theorem own1_not {j : JS} {r : Rec} (h : Zm r.act = false) : own1 j r = j.own := by unfold own1; rw [h]; rfl
theorem stale_made {j : JS} {r : Rec} {a : Act} (hk : a.kind = r.act.kind) (h : Zm r.act = true) : staleB j r a = false := by
 unfold staleB
 rw [if_pos]
 left; left
 rw [hk]
 unfold Zm at h
 simp only [Bool.or_eq_true,beq_iff_eq] at h
 omega
theorem stepJ_bad {s : JG} {r : Rec} {e : Int} (he : oneE s.j r = e) (h : e ≠ 0) : stepJ s r = ⟨lose s.j r.act.fid,s.vs ++ [⟨e,0⟩],s.done⟩ := by
 subst he
 unfold stepJ oneV
 rw [if_neg h,if_neg h]
 have : oneJ s.j r = s.j := by
  unfold oneJ
  unfold oneE at h
  split
  ·rfl
  ·rename_i h1
   rw [if_neg h1] at h
   split
   ·rfl
   ·rename_i h2
    rw [if_neg h2] at h
    cases hm : Zm r.act with
    | false =>
     rw [own1_not hm] at h ⊢
     split
     ·rfl
     ·split
      ·rfl
      ·rename_i h3 h4
       rw [if_neg h3] at h
       simp at h4
       exact absurd h4 h
    | true =>
     have hs : staleB { s.j with own := own1 s.j r } r (actJ s.j r) = false := stale_made rfl hm
     rw [hs] at h ⊢
     simp only [Bool.false_eq_true,if_false] at h ⊢
     rw [if_pos h]
     have hh : hasI s.j.own r.act.fid = false := by
      cases e : hasI s.j.own r.act.fid with
      | false => rfl
      | true => exact absurd ⟨hm,.inl e⟩ h2
     simp only [if_true]
     unfold own1
     rw [hm]
     simp only [if_true]
     rw [mdel_mput hh]
 rw [this]
theorem stepJ_done {s : JG} {r : Rec} (h : oneE s.j r = 0) : stepJ s r = ⟨⟨Yj s.j.l (actJ s.j r) s.j.version,if Zm r.act = true then s.j.next + 1 else s.j.next,s.j.version + 1,own1 s.j r,oursP s.j.ours (fids (actJ s.j r)),s.j.lost⟩,s.vs ++ [⟨0,(actJ s.j r).fid⟩],s.done ++ [actJ s.j r]⟩ := by
 unfold stepJ oneV
 rw [if_pos h,if_pos h,h]
 unfold oneE at h
 split at h
 ·omega
 ·rename_i c1
  split at h
  ·omega
  ·rename_i c2
   split at h
   ·omega
   ·rename_i c3
    have hJ : oneJ s.j r = { s.j with l := Yj s.j.l (actJ s.j r) s.j.version,next := if Zm r.act = true then s.j.next + 1 else s.j.next,version := s.j.version + 1,own := own1 s.j r } := by
     unfold oneJ; rw [if_neg c1,if_neg c2,if_neg c3,if_neg (by simp [h])]
    have hA : oneA s.j r = actJ s.j r := by unfold oneA; rw [if_neg c1,if_neg c2]
    rw [hJ,hA]
theorem mget_mputU {α : Type} {n : Int} {v : α} (kvs : List (Int × α)) (k : Int) : Zg (Zp kvs n v) k = if k = n then some v else Zg kvs k := by
 induction kvs with
 | nil =>
  simp only [Zp,Zg]
  by_cases e : n = k
  ·rw [if_pos e,if_pos e.symm]
  ·rw [if_neg e,if_neg (fun h => e h.symm)]
 | cons p r ih =>
  simp only [Zp]
  split
  ·rename_i hp
   simp only [Zg]
   by_cases e : n = k
   ·rw [if_pos e,if_pos e.symm]
   ·rw [if_neg e,if_neg (fun h => e h.symm),if_neg (by omega)]
  ·split
   ·simp only [Zg]
    by_cases e : n = k
    ·rw [if_pos e,if_pos e.symm]
    ·rw [if_neg e,if_neg (fun h : k = n => e h.symm)]
   ·simp only [Zg]
    by_cases e : p.1 = k
    ·rw [if_pos e,if_neg (by omega),if_pos e]
    ·rw [if_neg e,ih,if_neg e]
theorem atF_put (m : List (Int × Int)) (f x k : Int) : atF (Zp m f x) k = if k = f then x else atF m k := by
 unfold atF hasI getI
 rw [mget_mputU]
 by_cases e : k = f
 ·rw [if_pos e,if_pos e]; rfl
 ·rw [if_neg e,if_neg e]
def atH (m : List (Int × Int)) (G Y N : Nat → Nat) : List (Nat × Blk) := [(10,.cells 137 1 [[.mp 33]]),(33,.map (mI m))] ++ Yx [10,33] G Y N
theorem rat_ok (m : List (Int × Int)) (f : Int) (G Y N : Nat → Nat) : FnOK Tryz.prog 69 [.int .i64 f,.ptr 10 1 0 0] (atH m G Y N) (fun r H => r = .int .i64 (atF m f) ∧ Holds (atH m G Y N) H) := by
 unfold atH
 refine ZF tK (Tryz.func69) rfl (fun C => ?_)
 simp only [Tryz.ntmps69,Tryz.results69,go_sem]
 refine wG tK ?_
 cases h0 : hasI m f with
 | true =>
  refine wDT (hb := by simp [h0]) (hk := ?_)
  refine wG tK ?_
  refine wU ?_ ?_
  ·unfold atF; rw [h0]; rfl
  ·skip
   simp only [Yx,gH,gI,gJ,gK]
   repeat' refine ZH ?_ ?_
   all_goals first | exact YH _ | rfl | simp [go_sem]
 | false =>
  refine wDF (hb := by simp [h0]) (hk := ?_)
  refine wG tK ?_
  refine wU ?_ ?_
  ·unfold atF; rw [h0]; rfl
  ·skip
   simp only [Yx,gH,gI,gJ,gK]
   repeat' refine ZH ?_ ?_
   all_goals first | exact YH _ | rfl | simp [go_sem]
noncomputable def judgedA (g : JG) : AV := .agg [.sl (g.vs.map ZV),.sl (g.done.map ZA),.rm (mN (mapD g.j.l)),.int .i64 g.j.next]
def jgR (s : JG) : List (Nat × Blk) := [(214,.cells 71 2 (s.vs.map ZV)),(177,.cells 26 7 (s.done.map ZA)),(9,.cells 96 4 [[.osl 214 2 0 s.vs.length,.osl 177 7 0 s.done.length,.rm (mN (mapD s.j.l)),.int .i64 s.j.next]]),(33,.map (mI s.j.own)),(34,.map (mB s.j.lost)),(35,.map (mB s.j.ours))]
def restE (b : Bool) : Int := if b = true then 14 else 0
theorem restE_any (m : List (Int × Bool)) (l : List Int) (x : Int) : restE ((l ++ [x]).any (getB m)) = if getB m x = true then 14 else restE (l.any (getB m)) := by
 unfold restE
 rw [List.any_append]
 cases l.any (getB m) <;> cases h : getB m x <;> simp [h]
theorem rjudge_ok (p : List Past) (l : List Node) (next : Int) (log : List Rec) (h : Hist p l) (hp : p.length ≤ 80000000) (hn : next.natAbs ≤ 80000000) (hl2 : log.length ≤ 2000000) (hfit : ∀ r,r ∈ log → ActFit r.act) :
  FnOK Tryz.prog 40 [.rm (mN (mapD l)),.int .i64 next,.int .i64 ((p.length + 1 : Nat) : Int),.sl (log.map ZR)] []
   (fun r _ => r = judgedA (judgeJ l next ((p.length + 1 : Nat) : Int) log)) := by
 have hfin : judgeJ l next ((p.length + 1 : Nat) : Int) log = jgAt l next ((p.length + 1 : Nat) : Int) log log.length := by unfold jgAt; rw [List.take_length]; rfl
 have hinv := fun i => @jgAt_inv p l h next log hfit i
 have hsucc := fun i => @jgAt_succ l next ((p.length + 1 : Nat) : Int) log i
 have hz : jgAt l next ((p.length + 1 : Nat) : Int) log 0 = startJ l next ((p.length + 1 : Nat) : Int) := rfl
 rw [hfin]
 generalize jgAt l next ((p.length + 1 : Nat) : Int) log = st at *
 refine ZF tK (Tryz.func40) rfl (fun C => ?_)
 simp only [Tryz.ntmps40,Tryz.results40,go_sem]
 refine wG tK ?_
 refine Yl (Ze 177 26 7 (by simp only [go_sem]; try exact rfl)) ?_
 refine Yl (Ze 214 71 2 (by simp only [go_sem]; try exact rfl)) ?_
 simp only [go_sem]
 refine Yl (le_rows 9 ([[.osl 214 2 0 0,.osl 177 7 0 0,.rm (mN (mapD l)),.int .i64 next]]) (by simp only [go_sem]; exact rfl) (by simp [leRowsP,leWk,wk])) ?_
 simp only [go_sem]
 refine ZL (fun i : Nat => i ≤ log.length) (fun i => log.length - i) (fun i => [(15,.any),(16,.any),(17,.any),(19,.any),(20,.any),(21,.any),(22,.any),(23,.any),(24,.any),(25,.any),(26,.any),(27,.any),(28,.any),(29,.any),(39,.int .i64 i),(40,.any),(41,.any),(42,.any),(43,.any),(44,.any),(45,.any),(46,.any),(47,.any),(48,.any),(49,.any),(50,.any),(51,.any),(52,.any),(53,.any),(54,.any),(55,.any),(56,.any),(57,.any),(58,.any),(59,.any),(60,.any),(61,.any),(62,.any),(63,.any),(64,.any),(65,.any),(66,.any),(67,.any),(68,.any),(69,.any),(70,.any),(71,.any),(72,.any),(73,.any),(74,.any),(75,.any),(76,.any),(77,.any),(78,.any),(79,.any),(80,.any),(81,.any),(82,.any),(83,.any),(84,.any),(85,.any),(86,.any),(87,.any),(88,.any),(89,.any),(90,.any),(91,.any),(92,.any),(93,.any),(94,.any),(95,.any),(96,.any),(97,.any),(98,.any),(99,.any),(100,.any),(101,.any),(102,.any),(103,.any),(104,.any),(105,.any),(106,.any),(107,.any),(108,.any),(109,.any),(110,.any),(111,.any),(112,.any),(113,.any),(114,.any),(115,.any),(116,.any),(117,.any),(118,.any),(119,.any),(120,.any),(121,.any),(122,.any),(123,.any),(124,.any),(125,.any),(126,.any),(127,.any),(128,.any),(129,.any),(130,.any),(131,.any),(132,.any),(133,.any),(134,.any),(135,.any),(136,.any),(137,.any),(138,.any),(139,.any),(140,.any),(141,.any),(142,.any),(143,.any),(144,.any),(145,.any),(146,.any),(147,.any),(148,.any),(149,.any),(150,.any),(151,.any),(152,.any),(153,.any),(154,.any),(155,.any),(156,.any),(157,.any),(158,.any),(159,.any),(160,.any),(161,.any),(162,.any),(163,.any),(164,.any),(165,.any),(166,.any),(167,.any),(168,.any),(169,.any),(170,.any),(171,.any),(172,.any),(173,.any),(174,.any),(175,.any),(176,.any),(177,.any),(178,.any),(179,.any),(180,.any),(181,.any),(182,.any),(183,.any),(184,.any),(185,.any),(186,.any),(187,.any),(188,.any),(189,.any),(190,.any),(191,.any),(192,.any),(193,.any),(194,.any),(195,.any),(196,.any),(197,.any),(198,.any),(199,.any),(200,.any),(201,.any),(202,.any),(203,.any),(204,.any),(205,.any),(206,.any),(207,.any),(208,.any),(209,.any),(210,.any),(211,.any),(212,.any),(213,.any),(214,.any),(215,.any),(216,.any),(217,.any),(218,.any),(219,.any)]) (fun i => jgR (st i)) 0 (by omega) ?_ fun i hi => ?_
 ·rw [hz]
  simp only [startJ,jgR,mI,mB]
  simp only [go_sem]
  exact ZU (by simp [go_sem]) (by simp [go_sem]) (by simp only [go_sem])
 unfold jgR
 simp only [go_sem]
 refine wG tK ?_
 refine wD (fun h => ?_) (fun h => ?_)
 ·have hlt : i < log.length := by simp at h; omega
  have hg : (log.map ZR).getD i [] = ZR (log.getD i default) := Fam.getD hlt
  have hv := hinv i (by omega)
  have hf := hfit _ (YG hlt)
  have hsc := hsucc i hlt
  clear hinv hsucc
  generalize log.getD i default = r at *
  have hnx := hv.next
  have hvs := hv.vlen
  have hdl := hv.len
  have hbad : ∀ e,oneE (st i).j r = e → e ≠ 0 → st (i + 1) = ⟨lose (st i).j r.act.fid,(st i).vs ++ [⟨e,0⟩],(st i).done⟩ := fun e h1 h2 => hsc.trans (stepJ_bad h1 h2)
  have hgood : oneE (st i).j r = 0 → _ := fun h1 => hsc.trans (stepJ_done h1)
  clear hsc
  have hfd := refFids_ok r.act
  have hf3 := fids_len r.act
  have hoE : oneE (st i).j r = if restsB (st i).j r.act = true then 14 else if Zm r.act = true ∧ (hasI (st i).j.own r.act.fid = true ∨ r.act.fid ≥ 0) then 2 else if staleB { (st i).j with own := own1 (st i).j r } r (actJ (st i).j r) = true then 13 else Yb (st i).j.l (actJ (st i).j r) := rfl
  have how' := wi1 (i := i) (by omega)
  unfold ZA at hfd
  refine wR ?_
  refine wNq tK 4 ?_ ?_ (h := by simp only [go_sem,hg,ZR]; try exact rfl)
  ·simp [hg,ZR,hlt]
  refine wG tK ?_
  refine wC Tryz.func21 (hf := (hfd)) (hk := ?_)
  refine wG tK ?_
  refine ZL (fun k : Nat => k ≤ (fids r.act).length) (fun k => (fids r.act).length - k) (fun k => [(17,.int .i64 (restE (((fids r.act).take k).any (getB (st i).j.lost)))),(19,.any),(48,.int .i64 k),(49,.any),(50,.any),(51,.any),(52,.any),(53,.any),(54,.any),(55,.any)]) (fun k => []) 0 (by omega) ?_ fun k hk => ?_
  ·simp only [go_sem]
   exact ZU (by simp [go_sem,restE]) (by simp [go_sem]) (by simp [go_sem])
  simp only [go_sem]
  refine wG tK ?_
  refine wD (fun h => ?_) (fun h => ?_)
  ·have hlk : k < (fids r.act).length := by simp at h; omega
   have hgk : ((fids r.act).map ZI).getD k [] = ZI ((fids r.act).getD k default) := Fam.getD hlk
   have htk := restE_any (st i).j.lost ((fids r.act).take k) ((fids r.act).getD k default)
   rw [← ZT hlk] at htk
   have hwk : IntKind.i64.wrap ((k : Int) + 1) = ((k + 1 : Nat) : Int) := by rw [Eng.wrap_small (by omega) (by omega)]; rfl
   generalize (fids r.act).getD k default = f at *
   refine wGq tK ?_ ?_ (by simp only [go_sem,hgk,ZI]; try exact rfl)
   ·simp [hgk,ZI,hlk]
   refine wD (fun h => ?_) (fun h => ?_)
   ·rw [h,if_pos rfl] at htk
    refine wG tK ?_ (by simp only [go_sem,hwk]; try exact rfl) (by simp [go_sem,hwk])
    refine ZB ⟨k + 1,by omega,by omega,ZU ?_ ?_ ?_⟩
    ·simp [go_sem,htk]
    ·simp [go_sem]
    ·simp [go_sem]
   ·rw [h,if_neg (by simp)] at htk
    refine wG tK ?_ (by simp only [go_sem,hwk]; try exact rfl) (by simp [go_sem,hwk])
    refine ZB ⟨k + 1,by omega,by omega,ZU ?_ ?_ ?_⟩
    ·simp [go_sem,htk]
    ·simp [go_sem]
    ·simp [go_sem]
  have e : k = (fids r.act).length := by simp at h; omega
  subst e
  rw [List.take_length]
  rw [show (fids r.act).any (getB (st i).j.lost) = restsB (st i).j r.act from rfl]
  clear hfd hfin hz hk hg h
  have hup := hv.hist.good.up
  have hwv : IntKind.i64.wrap (((p.length + 1 : Nat) : Int) + ((st i).done.length : Int)) = (st i).j.version := by rw [hv.version,Eng.wrap_small (by omega) (by omega)]; omega
  have hwn : IntKind.i64.wrap ((st i).j.next + 1) = (st i).j.next + 1 := Eng.wrap_small (by omega) (by omega)
  have hat := rat_ok (st i).j.own
  unfold atH at hat
  refine wR ?_
  refine wN tK 8 ?_
  refine Yn 63 (by simp only [go_sem]; exact rfl) (fun c63 h63 => ?_)
  simp only [go_sem]
  have h63' : c63 = Zm r.act := by rw [← h63,cond_or]; rfl
  clear h63
  subst h63'
  cases h0 : restsB (st i).j r.act with
  | true =>
   have hoe : oneE (st i).j r = 14 := by rw [hoE,if_pos h0]
   rw [show restE true = 14 from rfl]
   refine wN tK 1 ?_
   refine wR ?_
   refine wN tK 9 ?_
   refine wR ?_
   refine wN tK 13 ?_
   refine wG tK ?_
   refine wDF (hb := by simp) (hk := ?_)
   refine wG tK ?_
   refine wDF (hb := by simp) (hk := ?_)
   refine wG tK ?_
   have hst := hbad _ hoe (by omega)
   refine wDT (hb := by simp <;> omega) (hk := ?_)
   refine wR ?_
   refine wN tK 5 ?_
   refine Yl (le_killB 214 9 (by simp only [go_sem]; exact rfl) (by simp only [go_sem,kill]; exact rfl)) ?_
   refine wGq tK ?_ ?_ (by simp only [go_sem,how']; try exact rfl)
   ·simp [rowsOf,ZV]; omega
   refine ZB ⟨i + 1,by omega,by omega,ZU ?_ ?_ ?_⟩
   ·simp [go_sem,hst]
   ·simp [go_sem,hst,jgR,lose,ZV,List.take_length]
   ·simp [go_sem,hst]
  | false =>
   rw [show restE false = 0 from rfl]
   apply share3
   ·intro key
    by_cases h1 : Zm r.act = false
    ·have ho : own1 (st i).j r = (st i).j.own := own1_not h1
     have hnf : ¬ (Zm r.act = true ∧ (hasI (st i).j.own r.act.fid = true ∨ r.act.fid ≥ 0)) := fun hh => by rw [h1] at hh; cases hh.1
     refine wN tK 1 ?_
     refine wR ?_
     refine wN tK 9 ?_
     refine wR ?_
     refine wNq tK 13 ?_ ?_
     ·simp [go_sem,h1]
     refine wG tK ?_
     refine wDF (hb := by simp [h1]) (hk := ?_)
     refine wG tK ?_
     refine Vt rfl ?_
     refine wG tK ?_
     refine ZW ZM ?_
     refine ZS rfl ?_
     refine sN tK 3 ?_
     refine seg_callK rfl rfl (by simp only [go_sem]; try exact rfl) (by simp [go_sem]) ⟨_,Tryz.func69,by kernel_rfl,rfl⟩ [10,33] (by simp only [go_sem,Bool.false_or,Bool.or_true,Bool.true_or,Bool.or_false,↓reduceIte]; try exact rfl) (by simp [go_sem]) (by simp) (by simp [go_sem]) (by simp [go_sem]) (hat r.act.fid) (by simp only [go_sem]; exact rfl) (by simp only [go_sem,Bool.false_or,Bool.or_true,Bool.true_or,Bool.or_false,↓reduceIte]; exact rfl) ?_
     refine sN tK 3 ?_
     refine seg_callK rfl rfl (by simp only [go_sem]; try exact rfl) (by simp [go_sem]) ⟨_,Tryz.func69,by kernel_rfl,rfl⟩ [10,33] (by simp only [go_sem,Bool.false_or,Bool.or_true,Bool.true_or,Bool.or_false,↓reduceIte]; try exact rfl) (by simp [go_sem]) (by simp) (by simp [go_sem]) (by simp [go_sem]) (hat r.act.dir) (by simp only [go_sem]; exact rfl) (by simp only [go_sem,Bool.false_or,Bool.or_true,Bool.true_or,Bool.or_false,↓reduceIte]; exact rfl) ?_
     refine sN tK 1 ?_
     refine sT tK ?_
     refine sN tK 1 ?_
     refine sT tK ?_
     refine sE ?_
     refine wKd ?_
     try simp only [go_sem,gA,gB,gC]
     refine wG tK ?_
     refine Vf (h1) ?_
     have eF : atF (own1 (st i).j r) r.act.fid = atF (st i).j.own r.act.fid := by rw [ho]
     have eD : atF (own1 (st i).j r) r.act.dir = atF (st i).j.own r.act.dir := by rw [ho]
     by_cases hk5 : r.act.kind = 5
     ·have eT : (if r.act.kind = 5 then atF (own1 (st i).j r) r.act.to else r.act.to) = atF (st i).j.own r.act.to := by rw [if_pos hk5,ho]
      refine wG tK ?_
      refine wDT (hb := by simp [hk5]) (hk := ?_)
      refine wG tK ?_
      refine wP [10,33] Tryz.func69 (hf := (hat r.act.to)) (hk := ?_)
      refine wN tK 2 ?_
      have hrow : ZA (actJ (st i).j r) = [.int .i64 r.act.kind,.int .i64 (atF (st i).j.own r.act.fid),.int .i64 (atF (st i).j.own r.act.dir),.str r.act.name,.int .i64 (atF (st i).j.own r.act.to),.str r.act.toName,.sl (r.act.data.map ZY)] := by simp only [ZA,actJ,eF,eD,eT]
      have hbF : (actJ (st i).j r).fid = (atF (st i).j.own r.act.fid) := eF
      refine wR ?_
      refine Yl (le_forget [40,41,42,43,44,45,46,47,48,49,50,51,52,53,54,55,56,57,58,59,60,61,62,63,64,65,66,67,68,69,70,71,72,73,74,75,76,77,78,79,80,81,82,83,84,85,86,87,88,89,90,91,92,93,94,95,96,97,98,99,100,101,102,103,104,105,106,107,108,109,110,111,112,113,114,115,116]) ?_
      simp only [go_sem,List.map_cons,List.map_nil]
      revert hrow hbF hnf
      generalize atF (st i).j.own r.act.fid = F
      generalize atF (st i).j.own r.act.dir = D
      generalize atF (st i).j.own r.act.to = T
      exact key F D T
     ·have eT : (if r.act.kind = 5 then atF (own1 (st i).j r) r.act.to else r.act.to) = r.act.to := if_neg hk5
      refine wG tK ?_
      refine wDF (hb := by simp [hk5]) (hk := ?_)
      have hrow : ZA (actJ (st i).j r) = [.int .i64 r.act.kind,.int .i64 (atF (st i).j.own r.act.fid),.int .i64 (atF (st i).j.own r.act.dir),.str r.act.name,.int .i64 r.act.to,.str r.act.toName,.sl (r.act.data.map ZY)] := by simp only [ZA,actJ,eF,eD,eT]
      have hbF : (actJ (st i).j r).fid = (atF (st i).j.own r.act.fid) := eF
      refine wR ?_
      refine Yl (le_forget [40,41,42,43,44,45,46,47,48,49,50,51,52,53,54,55,56,57,58,59,60,61,62,63,64,65,66,67,68,69,70,71,72,73,74,75,76,77,78,79,80,81,82,83,84,85,86,87,88,89,90,91,92,93,94,95,96,97,98,99,100,101,102,103,104,105,106,107,108,109,110,111,112,113,114,115,116]) ?_
      simp only [go_sem,List.map_cons,List.map_nil]
      revert hrow hbF hnf
      exact key _ _ _
    ·have h1 : Zm r.act = true := by simpa using h1
     have hk5 : ¬ r.act.kind = 5 := fun e => by simp [Zm,e] at h1
     refine wN tK 1 ?_
     refine wR ?_
     refine wN tK 9 ?_
     refine wR ?_
     refine wNq tK 13 ?_ ?_
     ·simp [go_sem,h1]
     refine wG tK ?_
     cases h2 : (hasI (st i).j.own r.act.fid || decide (r.act.fid ≥ 0)) with
     | true =>
      have hoe : oneE (st i).j r = 2 := by rw [hoE,if_neg (by simp [h0]),if_pos ⟨h1,by simpa using h2⟩]
      refine wDT (hb := by simpa [cond_or,h1] using h2) (hk := ?_)
      refine wG tK ?_
      refine wDF (hb := by simp) (hk := ?_)
      refine wG tK ?_
      have hst := hbad _ hoe (by omega)
      refine wDT (hb := by simp <;> omega) (hk := ?_)
      refine wR ?_
      refine wN tK 5 ?_
      refine Yl (le_killB 214 9 (by simp only [go_sem]; exact rfl) (by simp only [go_sem,kill]; exact rfl)) ?_
      refine wGq tK ?_ ?_ (by simp only [go_sem,how']; try exact rfl)
      ·simp [rowsOf,ZV]; omega
      refine ZB ⟨i + 1,by omega,by omega,ZU ?_ ?_ ?_⟩
      ·simp [go_sem,hst]
      ·simp [go_sem,hst,jgR,lose,ZV,List.take_length]
      ·simp [go_sem,hst]
     | false =>
      have ho : own1 (st i).j r = Zp (st i).j.own r.act.fid (st i).j.next := by unfold own1; rw [if_pos h1]
      have hnf : ¬ (Zm r.act = true ∧ (hasI (st i).j.own r.act.fid = true ∨ r.act.fid ≥ 0)) := fun hh => by
       have := hh.2
       simp only [Bool.or_eq_false_iff,decide_eq_false_iff_not] at h2
       rcases this with h | h
       ·rw [h2.1] at h; cases h
       ·exact h2.2 h
      refine wDF (hb := by simpa [cond_or,h1] using h2) (hk := ?_)
      clear h2
      refine wG tK ?_
      refine Vt rfl ?_
      refine wG tK ?_
      refine ZW ZM ?_
      refine ZS rfl ?_
      refine sN tK 3 ?_
      refine seg_callK rfl rfl (by simp only [go_sem]; try exact rfl) (by simp [go_sem]) ⟨_,Tryz.func69,by kernel_rfl,rfl⟩ [10,33] (by simp only [go_sem,Bool.false_or,Bool.or_true,Bool.true_or,Bool.or_false,↓reduceIte]; try exact rfl) (by simp [go_sem]) (by simp) (by simp [go_sem]) (by simp [go_sem]) (hat r.act.fid) (by simp only [go_sem]; exact rfl) (by simp only [go_sem,Bool.false_or,Bool.or_true,Bool.true_or,Bool.or_false,↓reduceIte]; exact rfl) ?_
      refine sN tK 3 ?_
      refine seg_callK rfl rfl (by simp only [go_sem]; try exact rfl) (by simp [go_sem]) ⟨_,Tryz.func69,by kernel_rfl,rfl⟩ [10,33] (by simp only [go_sem,Bool.false_or,Bool.or_true,Bool.true_or,Bool.or_false,↓reduceIte]; try exact rfl) (by simp [go_sem]) (by simp) (by simp [go_sem]) (by simp [go_sem]) (hat r.act.dir) (by simp only [go_sem]; exact rfl) (by simp only [go_sem,Bool.false_or,Bool.or_true,Bool.true_or,Bool.or_false,↓reduceIte]; exact rfl) ?_
      refine sN tK 1 ?_
      refine sT tK ?_
      refine sN tK 1 ?_
      refine sT tK ?_
      refine sE ?_
      refine wKd ?_
      try simp only [go_sem,gA,gB,gC]
      refine wG tK ?_
      refine Vt (h1) ?_
      have eF : atF (own1 (st i).j r) r.act.fid = (st i).j.next := by rw [ho,atF_put,if_pos rfl]
      have eT : (if r.act.kind = 5 then atF (own1 (st i).j r) r.act.to else r.act.to) = r.act.to := if_neg hk5
      by_cases hdf : r.act.dir = r.act.fid
      ·have eD : atF (own1 (st i).j r) r.act.dir = (st i).j.next := by rw [ho,atF_put,if_pos hdf]
       refine wG tK ?_
       refine wDT (hb := by simp [hdf]) (hk := ?_)
       refine wG tK ?_
       refine wDF (hb := by simp [hk5]) (hk := ?_)
       have hrow : ZA (actJ (st i).j r) = [.int .i64 r.act.kind,.int .i64 (st i).j.next,.int .i64 (st i).j.next,.str r.act.name,.int .i64 r.act.to,.str r.act.toName,.sl (r.act.data.map ZY)] := by simp only [ZA,actJ,eF,eD,eT]
       have hbF : (actJ (st i).j r).fid = (st i).j.next := eF
       refine wR ?_
       refine Yl (le_forget [40,41,42,43,44,45,46,47,48,49,50,51,52,53,54,55,56,57,58,59,60,61,62,63,64,65,66,67,68,69,70,71,72,73,74,75,76,77,78,79,80,81,82,83,84,85,86,87,88,89,90,91,92,93,94,95,96,97,98,99,100,101,102,103,104,105,106,107,108,109,110,111,112,113,114,115,116]) ?_
       simp only [go_sem,List.map_cons,List.map_nil]
       revert hrow hbF hnf
       exact key _ _ _
      ·have eD : atF (own1 (st i).j r) r.act.dir = atF (st i).j.own r.act.dir := by rw [ho,atF_put,if_neg hdf]
       refine wG tK ?_
       refine wDF (hb := by simp [hdf]) (hk := ?_)
       refine wG tK ?_
       refine wDF (hb := by simp [hk5]) (hk := ?_)
       have hrow : ZA (actJ (st i).j r) = [.int .i64 r.act.kind,.int .i64 (st i).j.next,.int .i64 (atF (st i).j.own r.act.dir),.str r.act.name,.int .i64 r.act.to,.str r.act.toName,.sl (r.act.data.map ZY)] := by simp only [ZA,actJ,eF,eD,eT]
       have hbF : (actJ (st i).j r).fid = (st i).j.next := eF
       refine wR ?_
       refine Yl (le_forget [40,41,42,43,44,45,46,47,48,49,50,51,52,53,54,55,56,57,58,59,60,61,62,63,64,65,66,67,68,69,70,71,72,73,74,75,76,77,78,79,80,81,82,83,84,85,86,87,88,89,90,91,92,93,94,95,96,97,98,99,100,101,102,103,104,105,106,107,108,109,110,111,112,113,114,115,116]) ?_
       simp only [go_sem,List.map_cons,List.map_nil]
       revert hrow hbF hnf
       exact key _ _ _
   ·intro F D T hnf hrow hbF
    have hap := rapply_good hv.hist.good hv.hist.ri (actJ_fit (j := (st i).j) hf) (st i).j.version
    have hfd2 := refFids_ok (actJ (st i).j r)
    have hf32 := fids_len (actJ (st i).j r)
    rw [hrow] at hap hfd2
    have hbk : (actJ (st i).j r).kind = r.act.kind := rfl
    clear hv hf
    generalize actJ (st i).j r = b at *
    have hsb : staleB { (st i).j with own := own1 (st i).j r } r b = (if ((r.act.kind ≠ 3 ∧ r.act.kind ≠ 4) ∨ r.version < 0) ∨ getB (st i).j.ours F = true then false else match Yf (st i).j.l F with | none => true | some n => n.version != r.version) := by unfold staleB; rw [hbk,hbF]; rfl
    have hg1 : Zg (mN (mapD (st i).j.l)) F = (Yf (st i).j.l F).map fun n => AV.agg (ZN n) := by rw [mN_get,mapD_get hup]
    apply shareB
    ·intro key2
     cases hff : Yf (st i).j.l F with
     | none =>
      rw [hff] at hg1 hsb
      simp only [Option.map_none] at hg1 hsb
      refine wN tK 4 ?_
      refine wN tK 1 ?_ (h := by simp only [go_sem,hg1]; try exact rfl) (hp := by simp [go_sem,hg1])
      refine wN tK 2 ?_
      refine wN tK 4 ?_
      refine wR ?_
      refine wN tK 8 ?_
      refine Yn 132 (by simp only [go_sem]; exact rfl) (fun c132 h132 => ?_)
      simp only [go_sem]
      refine wN tK 5 ?_
      refine Yn 137 (by simp only [go_sem]; exact rfl) (fun c137 h137 => ?_)
      simp only [go_sem]
      refine wN tK 7 ?_
      refine Yn 144 (by simp only [go_sem]; exact rfl) (fun c144 h144 => ?_)
      simp only [go_sem]
      refine wN tK 11 ?_
      refine Yn 155 (by simp only [go_sem]; exact rfl) (fun c155 h155 => ?_)
      simp only [go_sem]
      have hc : c155 = staleB { (st i).j with own := own1 (st i).j r } r b := by
       rw [← h155,← h144,← h137,← h132,hsb]
       by_cases k3 : r.act.kind = 3 <;> by_cases k4 : r.act.kind = 4 <;> by_cases kv : r.version < 0 <;> cases getB (st i).j.ours F <;> simp [k3,k4,kv] <;> omega
      clear h155 h144 h137 h132 hsb
      refine Yl (le_forget [117,118,119,120,121,122,123,124,125,126,127,128,129,130,131,132,133,134,135,136,137,138,139,140,141,142,143,144,145,146,147,148,149,150,151,152,153,154]) ?_
      simp only [go_sem,List.map_cons,List.map_nil]
      refine Yl (le_forget [24,25]) ?_
      simp only [go_sem,List.map_cons,List.map_nil]
      refine Yl (le_drop 24) ?_
      revert hc
      exact key2 c155
     | some n =>
      rw [hff] at hg1 hsb
      simp only [Option.map_some] at hg1 hsb
      refine wN tK 4 ?_
      refine wN tK 1 ?_ (h := by simp only [go_sem,hg1,ZN]; try exact rfl) (hp := by simp [go_sem,hg1,ZN])
      refine wN tK 2 ?_
      refine wN tK 4 ?_
      refine wR ?_
      refine wN tK 8 ?_
      refine Yn 132 (by simp only [go_sem]; exact rfl) (fun c132 h132 => ?_)
      simp only [go_sem]
      refine wN tK 5 ?_
      refine Yn 137 (by simp only [go_sem]; exact rfl) (fun c137 h137 => ?_)
      simp only [go_sem]
      refine wN tK 7 ?_
      refine Yn 144 (by simp only [go_sem]; exact rfl) (fun c144 h144 => ?_)
      simp only [go_sem]
      refine wN tK 11 ?_
      refine Yn 155 (by simp only [go_sem]; exact rfl) (fun c155 h155 => ?_)
      simp only [go_sem]
      have hc : c155 = staleB { (st i).j with own := own1 (st i).j r } r b := by
       rw [← h155,← h144,← h137,← h132,hsb]
       by_cases k3 : r.act.kind = 3 <;> by_cases k4 : r.act.kind = 4 <;> by_cases kv : r.version < 0 <;> cases getB (st i).j.ours F <;> simp [k3,k4,kv] <;> omega
      clear h155 h144 h137 h132 hsb
      refine Yl (le_forget [117,118,119,120,121,122,123,124,125,126,127,128,129,130,131,132,133,134,135,136,137,138,139,140,141,142,143,144,145,146,147,148,149,150,151,152,153,154]) ?_
      simp only [go_sem,List.map_cons,List.map_nil]
      refine Yl (le_forget [24,25]) ?_
      simp only [go_sem,List.map_cons,List.map_nil]
      refine Yl (le_drop 24) ?_
      revert hc
      exact key2 c155
    intro c hc
    refine wG tK ?_
    cases c with
    | true =>
     have hoe : oneE (st i).j r = 13 := by rw [hoE,if_neg (by simp [h0]),if_neg hnf,if_pos hc.symm]
     refine Vt rfl ?_
     refine wG tK ?_
     have hst := hbad _ hoe (by omega)
     refine wDT (hb := by simp <;> omega) (hk := ?_)
     refine wR ?_
     refine wN tK 5 ?_
     refine Yl (le_killB 214 9 (by simp only [go_sem]; exact rfl) (by simp only [go_sem,kill]; exact rfl)) ?_
     refine wGq tK ?_ ?_ (by simp only [go_sem,how']; try exact rfl)
     ·simp [rowsOf,ZV]; omega
     refine ZB ⟨i + 1,by omega,by omega,ZU ?_ ?_ ?_⟩
     ·simp [go_sem,hst]
     ·simp [go_sem,hst,jgR,lose,ZV,List.take_length]
     ·simp [go_sem,hst]
    | false =>
     have hoe : oneE (st i).j r = Yb (st i).j.l b := by rw [hoE,if_neg (by simp [h0]),if_neg hnf,if_neg (by rw [← hc]; simp)]
     clear hoE hc
     refine Vf rfl ?_
     refine wG tK ?_ (by simp only [go_sem,hwv]; try exact rfl) (by simp [go_sem,hwv])
     generalize Yb (st i).j.l b = E at *
     generalize Yj (st i).j.l b (st i).j.version = L at *
     by_cases hE : E = 0
     ·rw [if_pos hE] at hap
      have hst := hgood (hoe.trans hE)
      clear hbad hgood
      refine wC Tryz.func36 (hf := (hap)) (hk := ?_)
      refine wG tK ?_
      refine Vt rfl ?_
      refine wR ?_
      refine wN tK 3 ?_
      refine wR ?_
      refine wN tK 4 ?_
      refine Yl (le_killB 177 9 (by simp only [go_sem]; exact rfl) (by simp only [go_sem,kill]; exact rfl)) ?_
      refine wNq tK 3 ?_ ?_
      ·simp [rowsOf,ZA]; omega
      refine wR ?_
      refine wN tK 6 ?_
      refine Yl (le_killB 214 9 (by simp only [go_sem]; exact rfl) (by simp only [go_sem,kill]; exact rfl)) ?_
      refine wGq tK ?_ ?_
      ·simp [rowsOf,ZV]; omega
      refine Yl (le_drop 214) ?_
      refine Yl (le_mvB 185 214 9 (by simp only [go_sem]; exact rfl) (by simp only [go_sem]; try exact rfl) (by simp only [go_sem]; try exact rfl) (by simp only [go_sem]; exact rfl) (by simp only [go_sem,hdel]; exact rfl) (by simp only [go_sem,hdel]; exact rfl) rfl (by simp only [go_sem]; try exact rfl) (by simp only [go_sem,mv1,kill]; exact rfl) (by simp only [go_sem,mv1,kill]; exact rfl)) ?_
      refine wC Tryz.func21 (hf := (hfd2)) (hk := ?_)
      refine wG tK ?_
      refine ZL (fun k : Nat => k ≤ (fids b).length) (fun k => (fids b).length - k) (fun k => [(29,.any),(190,.int .i64 k),(191,.any),(192,.any),(193,.any),(194,.any),(195,.any),(196,.any)]) (fun k => [(35,.map (mB (oursP (st i).j.ours ((fids b).take k))))]) 0 (by omega) ?_ fun k hk => ?_
      ·simp only [go_sem]
       exact ZU (by simp [go_sem]) (by simp [go_sem,oursP]) (by simp [go_sem])
      simp only [go_sem]
      refine wG tK ?_
      refine wD (fun h => ?_) (fun h => ?_)
      ·have hlk : k < (fids b).length := by simp at h; omega
       have hgk : ((fids b).map ZI).getD k [] = ZI ((fids b).getD k default) := Fam.getD hlk
       have htk : oursP (st i).j.ours ((fids b).take (k + 1)) = Zp (oursP (st i).j.ours ((fids b).take k)) ((fids b).getD k default) true := by rw [ZT hlk,oursP_snoc]
       have hwk : IntKind.i64.wrap ((k : Int) + 1) = ((k + 1 : Nat) : Int) := by rw [Eng.wrap_small (by omega) (by omega)]; rfl
       generalize (fids b).getD k default = f at *
       refine wGq tK ?_ ?_ (by simp only [go_sem,hgk,ZI,hwk]; try exact rfl)
       ·simp [hgk,ZI,hlk,AV.deepB,AV.pureB]
       refine ZB ⟨k + 1,by omega,by omega,ZU ?_ ?_ ?_⟩
       ·simp [go_sem]
       ·simp [go_sem,htk]
       ·simp [go_sem]
      ·have e : k = (fids b).length := by simp at h; omega
       subst e
       rw [List.take_length]
       refine wG tK ?_
       cases h1 : Zm r.act with
       | true =>
        have ho : own1 (st i).j r = Zp (st i).j.own r.act.fid (st i).j.next := by unfold own1; rw [if_pos h1]
        rw [h1] at hst
        refine Vt rfl ?_
        refine wG tK ?_ (by simp only [go_sem,hwn]; try exact rfl) (by simp [go_sem,hwn])
        refine Vf rfl ?_
        refine wG tK ?_ (by simp only [go_sem,how']; try exact rfl) (by simp [go_sem,how'])
        refine ZB ⟨i + 1,by omega,by omega,ZU ?_ ?_ ?_⟩
        ·simp [go_sem,hst]
        ·simp [go_sem,hst,jgR,ZV,hrow,hbF,ho,h1]
        ·simp [go_sem,hst]
       | false =>
        have ho : own1 (st i).j r = (st i).j.own := own1_not h1
        rw [h1] at hst
        refine Vf rfl ?_
        refine wG tK ?_ (by simp only [go_sem,hwn]; try exact rfl) (by simp [go_sem,hwn])
        refine Vf rfl ?_
        refine wG tK ?_ (by simp only [go_sem,how']; try exact rfl) (by simp [go_sem,how'])
        refine ZB ⟨i + 1,by omega,by omega,ZU ?_ ?_ ?_⟩
        ·simp [go_sem,hst]
        ·simp [go_sem,hst,jgR,ZV,hrow,hbF,ho,h1]
        ·simp [go_sem,hst]
     ·rw [if_neg hE] at hap
      refine wC Tryz.func36 (hf := (hap)) (hk := ?_)
      refine wG tK ?_
      refine wDF (hb := by simp [hE]) (hk := ?_)
      refine wG tK ?_
      have hst := hbad _ hoe (by omega)
      refine wDT (hb := by simp <;> omega) (hk := ?_)
      refine wR ?_
      refine wN tK 5 ?_
      refine Yl (le_killB 214 9 (by simp only [go_sem]; exact rfl) (by simp only [go_sem,kill]; exact rfl)) ?_
      refine wGq tK ?_ ?_ (by simp only [go_sem,how']; try exact rfl)
      ·simp [rowsOf,ZV]; omega
      refine ZB ⟨i + 1,by omega,by omega,ZU ?_ ?_ ?_⟩
      ·simp [go_sem,hst]
      ·simp [go_sem,hst,jgR,lose,ZV,List.take_length]
      ·simp [go_sem,hst]
 ·have e : i = log.length := by simp at h; omega
  subst e
  refine wG tK ?_
  refine ZZ 214 rfl (verdictRow_pure _) ?_
  simp only [go_sem]
  refine ZZ 177 rfl (actRow_pure _) ?_
  simp only [go_sem]
  refine wG tK ?_
  refine wT ?_
  simp [judgedA]
end La
