/- Texts of this claim, part 13: RApply. No condition. -/
import Derived.Test.YtfiiingppbkpkaaGreatXR11
import Derived.Test.YtfiiingppbkpkaaGreatXR12
import Derived.Test.YtfiiingppbkpkaaGreatXR7
set_option maxRecDepth 10000
set_option maxHeartbeats 4000000
set_option linter.unusedSimpArgs false
set_option linter.unusedVariables false
namespace La
open Go Go.Eng Go.Proofs
theorem gtr_less (a b : List UInt8) : (!(Op.bytesLess a b || a == b)) = Op.bytesLess b a := by
 rw [less_iff,less_iff,Bool.eq_iff_iff]
 simp only [Bool.not_eq_true',Bool.or_eq_false_iff,decide_eq_false_iff_not,beq_eq_false_iff_ne,ne_eq,decide_eq_true_eq]
 constructor
 ·rintro ⟨h1,h2⟩
  by_cases h3 : b < a
  ·exact h3
  ·exact absurd (stri h1 h3) h2
 ·intro h
  exact ⟨fun h1 => sirr _ (strans h h1),fun h1 => by subst h1; exact sirr _ h⟩
theorem nrm_bytes (l : List UInt8) : Eng.nrmR (l.map ZY) = l.map ZY := by
 rw [nrmR_map,List.map_map]
 exact List.map_congr_left fun x _ => rfl
theorem nrm_ents (l : List Entry) : Eng.nrmR (l.map ZE) = l.map ZE := by
 rw [nrmR_map,List.map_map]
 exact List.map_congr_left fun x _ => rfl
theorem renter_ok (n : Node) (s : List UInt8) (f : Int) (hn : n.entries.length ≤ 10000000) : FnOK Tryz.prog 62 [.agg (ZN n),.str s,.int .i64 f] [] (fun r _ => r = .agg (ZN (rEnterN n s f))) := by
 have hle := rleave_ok n s (by omega)
 have hll : (rLeaveE n.entries s).length ≤ n.entries.length := List.length_filter_le _ _
 unfold rEnterN rEnterE
 unfold rLeaveN at hle
 generalize rLeaveE n.entries s = es at *
 have hz : entT s f (es.take es.length) = entT s f es := by rw [List.take_length]
 unfold ZN at hle ⊢
 simp only at hle ⊢
 rw [← hz]
 refine ZF tK (Tryz.func62) rfl (fun C => ?_)
 simp only [Tryz.ntmps62,Tryz.results62,go_sem]
 refine wG tK ?_
 refine wC Tryz.func64 (hf := (hle)) (hk := ?_)
 refine wG tK ?_
 refine Yl (Ze 38 135 2 (by simp only [go_sem]; try exact rfl)) ?_
 simp only [go_sem]
 refine ZL (fun i : Nat => i ≤ es.length) (fun i => es.length - i) (fun i => [(7,.osl 38 2 0 (entT s f (es.take i)).2.length),(8,.bool (entT s f (es.take i)).1),(10,.any),(17,.int .i64 i),(18,.any),(19,.any),(20,.any),(21,.any),(22,.any),(23,.any),(24,.any),(25,.any),(26,.any),(27,.any),(28,.any),(29,.any),(30,.any),(31,.any),(32,.any),(33,.any),(34,.any),(35,.any),(36,.any),(37,.any),(38,.any),(39,.any)]) (fun i => [(38,.cells 135 2 ((entT s f (es.take i)).2.map ZE))]) 0 (by omega) ?_ fun i hi => ?_
 ·simp only [go_sem]
  exact ZU (by simp [go_sem,entT]) (by simp [go_sem,entT]) (by simp [go_sem])
 simp only [go_sem]
 refine wG tK ?_
 refine wD (fun h => ?_) (fun h => ?_)
 ·have hlt : i < es.length := by simp at h; omega
  have hg : (es.map ZE).getD i [] = ZE (es.getD i default) := Fam.getD hlt
  have hw := wi1 (i := i) (by omega)
  have htk : entT s f (es.take (i + 1)) = entS s f (entT s f (es.take i)) (es.getD i default) := by rw [ZT hlt,entT_snoc]
  have hl2 := entT_len s f (es.take i)
  rw [List.length_take] at hl2
  generalize es.getD i default = e at *
  generalize entT s f (es.take i) = q at *
  unfold entS at htk
  have hgt := gtr_less e.name s
  refine wGq tK ?_ ?_ (by simp only [go_sem,hg,ZE]; try exact rfl)
  ·simp [hg,ZE,hlt]
  cases hb : (!q.1 && Op.bytesLess s e.name) with
  | true =>
   rw [hb,if_pos rfl] at htk
   refine wDT (hb := by rw [hgt]; simpa [cond_and] using hb) (hk := ?_)
   have htq : List.take q.2.length (q.2.map ZE) = q.2.map ZE := List.take_of_length_le (by simp)
   have htq2 : List.take (q.2.length + 1) (q.2.map ZE ++ [[AV.str s,AV.int .i64 f]]) = q.2.map ZE ++ [[AV.str s,AV.int .i64 f]] := List.take_of_length_le (by simp)
   refine wGq tK ?_ ?_ (by simp only [go_sem,hw]; try exact rfl)
   ·simp [rowsOf,refs,htq,htq2]
    exact ⟨by omega,by omega,fun x _ y hy => by simp only [ZE,List.mem_cons,List.not_mem_nil,or_false] at hy; rcases hy with rfl | rfl <;> simp [refs]⟩
   refine ZB ⟨i + 1,by omega,by omega,ZU ?_ ?_ ?_⟩
   ·simp [go_sem,htk]
   ·simp [go_sem,htk,htq2,ZE]
   ·simp [go_sem]
  | false =>
   rw [hb,if_neg Bool.false_ne_true] at htk
   have htq : List.take q.2.length (q.2.map ZE) = q.2.map ZE := List.take_of_length_le (by simp)
   refine wDF (hb := by rw [hgt]; simpa [cond_and] using hb) (hk := ?_)
   refine wGq tK ?_ ?_ (by simp only [go_sem,hw]; try exact rfl)
   ·simp [rowsOf,refs,htq]
    omega
   refine ZB ⟨i + 1,by omega,by omega,ZU ?_ ?_ ?_⟩
   ·simp [go_sem,htk]
   ·simp [go_sem,htk,ZE]
   ·simp [go_sem]
 ·have e : i = es.length := by simp at h; omega
  subst e
  have hl2 := entT_len s f (es.take es.length)
  rw [List.length_take] at hl2
  rw [hz] at hl2 ⊢
  clear hz
  generalize entT s f es = q at *
  have htq : List.take q.2.length (q.2.map ZE) = q.2.map ZE := List.take_of_length_le (by simp)
  refine wG tK ?_
  refine wD (fun h => ?_) (fun h => ?_)
  ·have hq : q.1 = false := by simpa using h
   rw [if_neg (by simp [hq])]
   refine wGq tK ?_ ?_
   ·simp [rowsOf,refs,htq]
    omega
   rw [show q.2.map ZE ++ [[AV.str s,AV.int .i64 f]] = (q.2 ++ [(⟨s,f⟩ : Entry)]).map ZE by simp [ZE]]
   refine ZZ 47 rfl (entryRow_pure _) ?_
   simp only [go_sem]
   refine wT ?_
   simp [ZE]
   exact List.take_of_length_le (by simp)
  ·have hq : q.1 = true := by simpa using h
   rw [if_pos hq]
   refine wG tK ?_
   refine ZZ 38 rfl (entryRow_pure _) ?_
   simp only [go_sem]
   refine wT ?_
   simp
theorem apply1_ok (n : Node) (v : Int) : FnOK Tryz.prog 58 [.agg (ZN n),.rp [.int .i64 v] 0] [] (fun r _ => r = .agg (ZN { n with version := v })) := by
 unfold ZN
 refine ZF tK (Tryz.func58) rfl (fun C => ?_)
 simp only [Tryz.ntmps58,Tryz.results58,go_sem]
 refine wG tK ?_
 refine wT ?_
 rfl
theorem rdir_raw (l : List Node) (k : Int) (hu : Up l) : FnOK Tryz.prog 59 [.rm (mN (mapD l)),.int .i64 k] [] (fun r _ => Eng.nrm r = .tup [.agg (ZN (Yg l k)),.int .i64 (dirE l k)]) := by
 have hg : Zg (mN (mapD l)) k = (Yf l k).map fun n => AV.agg (ZN n) := by rw [mN_get,mapD_get hu]
 unfold Yg dirE
 refine ZF tK (Tryz.func59) rfl (fun C => ?_)
 simp only [Tryz.ntmps59,Tryz.results59,go_sem]
 cases e : Yf l k with
 | none =>
  rw [e] at hg
  simp only [Option.map_none] at hg
  refine wG tK ?_ (by simp only [go_sem,hg]; try exact rfl) (by simp [go_sem,hg])
  refine wD (fun h => ?_) (fun h => ?_)
  ·refine wG tK ?_
   refine wT ?_
   rfl
  ·cases h
 | some n =>
  rw [e] at hg
  simp only [Option.map_some] at hg
  refine wG tK ?_ (by simp only [go_sem,hg,ZN]; try exact rfl) (by simp [go_sem,hg,ZN])
  refine wD (fun h => ?_) (fun h => ?_)
  ·cases h
  refine wG tK ?_
  refine wD (fun h => ?_) (fun h => ?_)
  ·have hd : n.dir = false := by simpa using h
   refine wG tK ?_
   refine wT ?_
   simp [hd,Eng.nrm,Eng.nrmL,ZN,nrm_bytes,nrm_ents]
  ·have hd : n.dir = true := by simpa using h
   refine wG tK ?_
   refine wT ?_
   simp [hd,Eng.nrm,Eng.nrmL,ZN,nrm_bytes,nrm_ents]
theorem rdir_ok (l : List Node) (k : Int) (hu : Up l) : FnOK Tryz.prog 59 [.rm (mN (mapD l)),.int .i64 k] [] (fun r _ => r = .tup [.agg (ZN (Yg l k)),.int .i64 (dirE l k)]) := fn_nrmP (rdir_raw l k hu)
theorem isE_entryN (n : Node) (s : List UInt8) : isE n.entries s = (entryN n s).isSome := by
 unfold entryN; split
 ·rename_i h; rw [h]; rfl
 ·rename_i h; simpa using h
theorem rroom_ok (n : Node) (s : List UInt8) (he : EUp n.entries) (hn : n.entries.length ≤ 100000000) (hs : s.length ≤ 100000000) : FnOK Tryz.prog 60 [.agg (ZN n),.str s] [] (fun r _ => r = .int .i64 (roomE n s)) := by
 have h1 := rentry_ok n s hn
 rw [rEntry_entryN he] at h1
 have hi := isE_entryN n s
 unfold roomE
 unfold ZN at h1 ⊢
 have hnm := rname_ok s hs
 generalize nameB s = nb at hnm ⊢
 refine ZF tK (Tryz.func60) rfl (fun C => ?_)
 simp only [Tryz.ntmps60,Tryz.results60,go_sem]
 refine wG tK ?_
 cases e : entryN n s with
 | some f =>
  rw [e] at h1 hi
  refine wC Tryz.func63 (hf := (h1)) (hk := ?_)
  refine wG tK ?_
  refine wCC Tryz.func96 (hf := fun hb => (hnm)) (hk := ?_)
  refine wG tK ?_
  refine wD (fun h => ?_) (fun h => ?_)
  ·refine wG tK ?_
   refine wT ?_
   simp [hi]
  ·simp at h
 | none =>
  rw [e] at h1 hi
  refine wC Tryz.func63 (hf := (h1)) (hk := ?_)
  refine wG tK ?_
  refine wCC Tryz.func96 (hf := fun hb => (hnm)) (hk := ?_)
  cases nb with
  | false =>
   refine wG tK ?_
   refine wD (fun h => ?_) (fun h => ?_)
   ·refine wG tK ?_
    refine wT ?_
    simp
   ·simp at h
  | true =>
   refine wG tK ?_
   refine wD (fun h => ?_) (fun h => ?_)
   ·simp at h
   refine wG tK ?_
   refine wD (fun h => ?_) (fun h => ?_)
   ·have : 6 ≤ n.entries.length := by simp at h; omega
    refine wG tK ?_
    refine wT ?_
    simp [hi,this]
   ·have : ¬ 6 ≤ n.entries.length := by simp at h; omega
    refine wG tK ?_
    refine wT ?_
    simp [hi,this]
structure RFit (l : List Node) (a : Act) : Prop where
 ri : Ri l
 ent : ∀ n,n ∈ l → n.entries.length ≤ 9999990
 len : l.length ≤ 100000000
 all : (allF (mapD l)).length ≤ 90000000
 name : a.name.length ≤ 100000000
 toName : a.toName.length ≤ 100000000
 data : a.data.length ≤ 100000000
theorem RFit.find {l : List Node} {a : Act} (h : RFit l a) (k : Int) : (Yg l k).entries.length ≤ 9999990 := by
 unfold Yg
 cases e : Yf l k with
 | none => simp [Yz]
 | some n => exact h.ent n ((ZO h.ri.up).1 e).1
open Classical in
theorem rapply_ok (l : List Node) (a : Act) (v : Int) (hf : RFit l a) : FnOK Tryz.prog 36 [.rm (mN (mapD l)),.agg (ZA a),.int .i64 v] [] (fun r _ => r = rApplyA l a v) := by
 have hgf : ∀ k,Zg (mN (mapD l)) k = (Yf l k).map fun n => AV.agg (ZN n) := fun k => by rw [mN_get,mapD_get hf.ri.up]
 have hdir := rdir_ok l a.dir hf.ri.up
 have hdir2 := hdir
 unfold ZN at hdir2
 have hee := hf.ri.find a.dir
 have hel := hf.find a.dir
 unfold rApplyA
 refine ZF tK (Tryz.func36) rfl (fun C => ?_)
 simp only [Tryz.ntmps36,Tryz.results36,go_sem]
 refine wR ?_
 refine wN tK 2 ?_ (h := by simp only [go_sem,ZA]; try exact rfl) (hp := by simp [go_sem,ZA])
 refine ZZ 4 rfl (rfl) ?_
 refine ZZ 5 rfl (rfl) ?_
 simp only [go_sem]
 refine wG tK ?_
 by_cases k1 : a.kind = 1
 ·have hE : Ya l a = makeE l a := by unfold Ya; rw [if_pos k1]
  have hL : rApplyL l a v = makeL l a v := by unfold rApplyL; rw [if_pos k1]
  refine wDT (hb := by simp [k1]) (hk := ?_)
  refine wG tK ?_
  refine wDT (hb := by simp [k1]) (hk := ?_)
  refine wG tK ?_
  refine wC Tryz.func59 (hf := (hdir2)) (hk := ?_)
  refine wG tK ?_
  refine wD (fun h => ?_) (fun h => ?_)
  ·have hd : dirE l a.dir ≠ 0 := by simpa using h
   have he : Ya l a = dirE l a.dir := by rw [hE]; unfold makeE; rw [if_neg hd]
   rw [he,if_neg hd]
   refine wG tK ?_
   refine wT ?_
   rfl
  have hd : dirE l a.dir = 0 := by simpa using h
  refine wG tK ?_
  refine wC Tryz.func60 (hf := (rroom_ok (Yg l a.dir) a.name hee (by omega) hf.name)) (hk := ?_)
  refine wG tK ?_
  refine wD (fun h => ?_) (fun h => ?_)
  ·have hr : roomE (Yg l a.dir) a.name ≠ 0 := by simpa using h
   have he : Ya l a = roomE (Yg l a.dir) a.name := by rw [hE]; unfold makeE; rw [if_pos hd,if_neg hr]
   rw [he,if_neg hr]
   refine wG tK ?_
   refine wT ?_
   rfl
  have hr : roomE (Yg l a.dir) a.name = 0 := by simpa using h
  have hg1 := hgf a.fid
  have hat := isAt_eq l a.fid
  cases hff : Yf l a.fid with
  | some x =>
   rw [hff] at hg1 hat
   simp only [Option.map_some] at hg1
   have he : Ya l a = 13 := by rw [hE]; unfold makeE; rw [if_pos hd,if_pos hr,hat]; simp
   rw [he]
   refine wG tK ?_ (by simp only [go_sem,hg1,ZN,cond_true,cond_false]; try exact rfl) (by simp [go_sem,hg1,ZN,cond_true,cond_false])
   refine wD (fun h => ?_) (fun h => ?_)
   ·refine wG tK ?_
    refine wT ?_
    simp
   ·cases h
  | none =>
   rw [hff] at hg1 hat
   simp only [Option.map_none] at hg1
   refine wG tK ?_ (by simp only [go_sem,hg1,cond_true,cond_false]; try exact rfl) (by simp [go_sem,hg1,cond_true,cond_false])
   refine wD (fun h => ?_) (fun h => ?_)
   ·have h0 : a.fid = 0 := by simpa using h
    have he : Ya l a = 13 := by rw [hE]; unfold makeE; rw [if_pos hd,if_pos hr,hat]; simp [h0]
    rw [he]
    refine wG tK ?_
    refine wT ?_
    simp
   have h0 : a.fid ≠ 0 := by simpa using h
   refine wG tK ?_ (by simp only [go_sem,mN_len,mapD_len hf.ri.up]; try exact rfl) (by simp [go_sem,mN_len,mapD_len hf.ri.up])
   refine wD (fun h => ?_) (fun h => ?_)
   ·have h24 : l.length ≥ 24 := by simp at h; omega
    have he : Ya l a = 5 := by rw [hE]; unfold makeE; rw [if_pos hd,if_pos hr,hat,if_neg (by simp [h0]),if_pos h24]
    rw [he]
    refine wG tK ?_
    refine wT ?_
    simp
   have h24 : ¬ l.length ≥ 24 := by simp at h; omega
   have he0 : makeE l a = 0 := by unfold makeE; rw [if_pos hd,if_pos hr,hat,if_neg (by simp [h0]),if_neg h24]
   have he : Ya l a = 0 := by rw [hE,he0]
   have hLL : rApplyL l a v = Yu (Yu l { Ye (Yg l a.dir) a.name a.fid with version := v }) (madeN a v) := by rw [hL]; unfold makeL; rw [if_pos he0]
   have hent := renter_ok (Yg l a.dir) a.name a.fid (by omega)
   rw [rEnterN_enterN hee (roomE_free hr).2] at hent
   have hp1 : Zp (mapD l) (Yg l a.dir).fid { Ye (Yg l a.dir) a.name a.fid with version := v } = mapD (Yu l { Ye (Yg l a.dir) a.name a.fid with version := v }) := mapD_put hf.ri.up { Ye (Yg l a.dir) a.name a.fid with version := v }
   have hw1 := with_ok (mapD l) { Ye (Yg l a.dir) a.name a.fid with version := v } (mapD_rise l)
   rw [show ({ Ye (Yg l a.dir) a.name a.fid with version := v } : Node).fid = (Yg l a.dir).fid from rfl,hp1] at hw1
   have hw2 := with_ok (mapD (Yu l { Ye (Yg l a.dir) a.name a.fid with version := v })) (madeN a v) (mapD_rise _)
   rw [mapD_put (putN_up hf.ri.up _).1] at hw2
   rw [he,if_pos rfl,hLL]
   unfold ZN at hent hw1 hw2
   simp only [madeN] at hw2
   refine wG tK ?_
   refine ZW ZM ?_
   refine ZS rfl ?_
   refine sN tK 7 ?_
   refine sC Tryz.func62 (hf := (hent)) (hk := ?_)
   refine sC Tryz.func58 (hf := (apply1_ok (Ye (Yg l a.dir) a.name a.fid) v)) (hk := ?_)
   refine sC Tryz.func61 (hf := (hw1)) (hk := ?_)
   refine sN tK 6 ?_
   refine sB tK ?_
   refine sC Tryz.func58 (hf := (by exact FnOK.nrm rfl (apply1_ok ⟨a.fid,a.kind == 2,[],[],0⟩ v))) (hk := ?_)
   refine sC Tryz.func61 (hf := (hw2)) (hk := ?_)
   refine sN tK 2 ?_
   refine sE ?_
   refine wKd ?_
   refine wG tK ?_
   refine wT ?_
   rfl
 refine wDF (hb := by simp [k1]) (hk := ?_)
 refine wG tK ?_
 by_cases k2 : a.kind = 2
 ·have hE : Ya l a = makeE l a := by unfold Ya; rw [if_neg k1,if_pos k2]
  have hL : rApplyL l a v = makeL l a v := by unfold rApplyL; rw [if_neg k1,if_pos k2]
  refine wDT (hb := by simp [k2]) (hk := ?_)
  refine wG tK ?_
  refine wC Tryz.func59 (hf := (hdir2)) (hk := ?_)
  refine wG tK ?_
  refine wD (fun h => ?_) (fun h => ?_)
  ·have hd : dirE l a.dir ≠ 0 := by simpa using h
   have he : Ya l a = dirE l a.dir := by rw [hE]; unfold makeE; rw [if_neg hd]
   rw [he,if_neg hd]
   refine wG tK ?_
   refine wT ?_
   rfl
  have hd : dirE l a.dir = 0 := by simpa using h
  refine wG tK ?_
  refine wC Tryz.func60 (hf := (rroom_ok (Yg l a.dir) a.name hee (by omega) hf.name)) (hk := ?_)
  refine wG tK ?_
  refine wD (fun h => ?_) (fun h => ?_)
  ·have hr : roomE (Yg l a.dir) a.name ≠ 0 := by simpa using h
   have he : Ya l a = roomE (Yg l a.dir) a.name := by rw [hE]; unfold makeE; rw [if_pos hd,if_neg hr]
   rw [he,if_neg hr]
   refine wG tK ?_
   refine wT ?_
   rfl
  have hr : roomE (Yg l a.dir) a.name = 0 := by simpa using h
  have hg1 := hgf a.fid
  have hat := isAt_eq l a.fid
  cases hff : Yf l a.fid with
  | some x =>
   rw [hff] at hg1 hat
   simp only [Option.map_some] at hg1
   have he : Ya l a = 13 := by rw [hE]; unfold makeE; rw [if_pos hd,if_pos hr,hat]; simp
   rw [he]
   refine wG tK ?_ (by simp only [go_sem,hg1,ZN,cond_true,cond_false]; try exact rfl) (by simp [go_sem,hg1,ZN,cond_true,cond_false])
   refine wD (fun h => ?_) (fun h => ?_)
   ·refine wG tK ?_
    refine wT ?_
    simp
   ·cases h
  | none =>
   rw [hff] at hg1 hat
   simp only [Option.map_none] at hg1
   refine wG tK ?_ (by simp only [go_sem,hg1,cond_true,cond_false]; try exact rfl) (by simp [go_sem,hg1,cond_true,cond_false])
   refine wD (fun h => ?_) (fun h => ?_)
   ·have h0 : a.fid = 0 := by simpa using h
    have he : Ya l a = 13 := by rw [hE]; unfold makeE; rw [if_pos hd,if_pos hr,hat]; simp [h0]
    rw [he]
    refine wG tK ?_
    refine wT ?_
    simp
   have h0 : a.fid ≠ 0 := by simpa using h
   refine wG tK ?_ (by simp only [go_sem,mN_len,mapD_len hf.ri.up]; try exact rfl) (by simp [go_sem,mN_len,mapD_len hf.ri.up])
   refine wD (fun h => ?_) (fun h => ?_)
   ·have h24 : l.length ≥ 24 := by simp at h; omega
    have he : Ya l a = 5 := by rw [hE]; unfold makeE; rw [if_pos hd,if_pos hr,hat,if_neg (by simp [h0]),if_pos h24]
    rw [he]
    refine wG tK ?_
    refine wT ?_
    simp
   have h24 : ¬ l.length ≥ 24 := by simp at h; omega
   have he0 : makeE l a = 0 := by unfold makeE; rw [if_pos hd,if_pos hr,hat,if_neg (by simp [h0]),if_neg h24]
   have he : Ya l a = 0 := by rw [hE,he0]
   have hLL : rApplyL l a v = Yu (Yu l { Ye (Yg l a.dir) a.name a.fid with version := v }) (madeN a v) := by rw [hL]; unfold makeL; rw [if_pos he0]
   have hent := renter_ok (Yg l a.dir) a.name a.fid (by omega)
   rw [rEnterN_enterN hee (roomE_free hr).2] at hent
   have hp1 : Zp (mapD l) (Yg l a.dir).fid { Ye (Yg l a.dir) a.name a.fid with version := v } = mapD (Yu l { Ye (Yg l a.dir) a.name a.fid with version := v }) := mapD_put hf.ri.up { Ye (Yg l a.dir) a.name a.fid with version := v }
   have hw1 := with_ok (mapD l) { Ye (Yg l a.dir) a.name a.fid with version := v } (mapD_rise l)
   rw [show ({ Ye (Yg l a.dir) a.name a.fid with version := v } : Node).fid = (Yg l a.dir).fid from rfl,hp1] at hw1
   have hw2 := with_ok (mapD (Yu l { Ye (Yg l a.dir) a.name a.fid with version := v })) (madeN a v) (mapD_rise _)
   rw [mapD_put (putN_up hf.ri.up _).1] at hw2
   rw [he,if_pos rfl,hLL]
   unfold ZN at hent hw1 hw2
   simp only [madeN] at hw2
   refine wG tK ?_
   refine ZW ZM ?_
   refine ZS rfl ?_
   refine sN tK 7 ?_
   refine sC Tryz.func62 (hf := (hent)) (hk := ?_)
   refine sC Tryz.func58 (hf := (apply1_ok (Ye (Yg l a.dir) a.name a.fid) v)) (hk := ?_)
   refine sC Tryz.func61 (hf := (hw1)) (hk := ?_)
   refine sN tK 6 ?_
   refine sB tK ?_
   refine sC Tryz.func58 (hf := (by exact FnOK.nrm rfl (apply1_ok ⟨a.fid,a.kind == 2,[],[],0⟩ v))) (hk := ?_)
   refine sC Tryz.func61 (hf := (hw2)) (hk := ?_)
   refine sN tK 2 ?_
   refine sE ?_
   refine wKd ?_
   refine wG tK ?_
   refine wT ?_
   rfl
 refine wDF (hb := by simp [k2]) (hk := ?_)
 refine wG tK ?_
 have hkE : Ya l a = if a.kind = 3 then storeE l a else if a.kind = 4 then removeE l a else if a.kind = 5 then rRenameE l a else 1 := by unfold Ya; rw [if_neg k1,if_neg k2]
 have hkL : rApplyL l a v = if a.kind = 3 then storeL l a v else if a.kind = 4 then removeL l a v else if a.kind = 5 then rRenameL l a v else l := by unfold rApplyL; rw [if_neg k1,if_neg k2]
 by_cases k3 : a.kind = 3
 ·have hE : Ya l a = storeE l a := by rw [hkE,if_pos k3]
  have hL : rApplyL l a v = storeL l a v := by rw [hkL,if_pos k3]
  refine wDT (hb := by simp [k3]) (hk := ?_)
  have hg1 := hgf a.fid
  cases hff : Yf l a.fid with
  | none =>
   rw [hff] at hg1
   simp only [Option.map_none] at hg1
   have he : Ya l a = 12 := by rw [hE]; unfold storeE; rw [hff]
   rw [he]
   refine wG tK ?_ (by simp only [go_sem,hg1]; try exact rfl) (by simp [go_sem,hg1])
   refine wD (fun h => ?_) (fun h => ?_)
   ·refine wG tK ?_
    refine wT ?_
    simp
   ·cases h
  | some x =>
   rw [hff] at hg1
   simp only [Option.map_some] at hg1
   have hgn : Yg l a.fid = x := by unfold Yg; rw [hff]; rfl
   have hsE : storeE l a = if x.dir then 9 else if a.data.length > 20 then 4 else 0 := by unfold storeE; rw [hff]
   refine wG tK ?_ (by simp only [go_sem,hg1,ZN]; try exact rfl) (by simp [go_sem,hg1,ZN])
   refine wD (fun h => ?_) (fun h => ?_)
   ·cases h
   refine wG tK ?_
   refine wD (fun h => ?_) (fun h => ?_)
   ·have hd : x.dir = true := by simpa using h
    have he : Ya l a = 9 := by rw [hE,hsE,if_pos hd]
    rw [he]
    refine wG tK ?_
    refine wT ?_
    simp
   have hd : x.dir = false := by simpa using h
   refine wG tK ?_
   refine wD (fun h => ?_) (fun h => ?_)
   ·have h20 : a.data.length > 20 := by simp at h; omega
    have he : Ya l a = 4 := by rw [hE,hsE,if_neg (by simp [hd]),if_pos h20]
    rw [he]
    refine wG tK ?_
    refine wT ?_
    simp
   have h20 : ¬ a.data.length > 20 := by simp at h; omega
   have he0 : storeE l a = 0 := by rw [hsE,if_neg (by simp [hd]),if_neg h20]
   have he : Ya l a = 0 := by rw [hE,he0]
   have hLL : rApplyL l a v = Yu l { x with data := a.data,version := v } := by rw [hL]; unfold storeL; rw [if_pos he0,hgn]
   have hw1 := with_ok (mapD l) { x with data := a.data,version := v } (mapD_rise l)
   rw [mapD_put hf.ri.up] at hw1
   unfold ZN at hw1
   rw [he,if_pos rfl,hLL]
   refine wG tK ?_
   refine wC Tryz.func58 (hf := (apply1_ok { x with data := a.data } v)) (hk := ?_)
   refine wC Tryz.func61 (hf := (hw1)) (hk := ?_)
   refine wG tK ?_
   refine wT ?_
   rfl
 refine wDF (hb := by simp [k3]) (hk := ?_)
 rw [if_neg k3] at hkE hkL
 refine wG tK ?_
 have hen := rentry_ok (Yg l a.dir) a.name (by omega)
 rw [rEntry_entryN hee] at hen
 have hg1 := hgf a.fid
 by_cases k4 : a.kind = 4
 ·have hE : Ya l a = removeE l a := by rw [hkE,if_pos k4]
  have hL : rApplyL l a v = removeL l a v := by rw [hkL,if_pos k4]
  have hN : namedE l a ≠ 0 → Ya l a = namedE l a := fun h => by rw [hE]; unfold removeE; rw [if_neg h]
  refine wDT (hb := by simp [k4]) (hk := ?_)
  refine wG tK ?_
  refine wDT (hb := by simp [k4]) (hk := ?_)
  refine wG tK ?_
  refine wC Tryz.func59 (hf := (hdir2)) (hk := ?_)
  refine wG tK ?_
  refine wD (fun h => ?_) (fun h => ?_)
  ·have hd : dirE l a.dir ≠ 0 := by simpa using h
   have hne : namedE l a = dirE l a.dir := by unfold namedE; rw [if_neg hd]
   rw [hN (by rw [hne]; exact hd),hne,if_neg hd]
   refine wG tK ?_
   refine wT ?_
   rfl
  have hd : dirE l a.dir = 0 := by simpa using h
  have hlv := rleave_ok (Yg l a.dir) a.name (by omega)
  have hw1 := with_ok (mapD l) { Yv (Yg l a.dir) a.name with version := v } (mapD_rise l)
  rw [mapD_put hf.ri.up] at hw1
  unfold ZN at hw1 hlv hen
  refine wG tK ?_
  cases hent : entryN (Yg l a.dir) a.name with
  | none =>
   rw [hent] at hen
   have hne : namedE l a = 6 := by unfold namedE; rw [if_pos hd,hent]
   rw [hN (by rw [hne]; decide),hne]
   refine wC Tryz.func63 (hf := (hen)) (hk := ?_)
   refine wG tK ?_
   refine wD (fun h => ?_) (fun h => ?_)
   ·refine wG tK ?_
    refine wT ?_
    simp
   ·cases h
  | some f =>
  rw [hent] at hen
  refine wC Tryz.func63 (hf := (hen)) (hk := ?_)
  refine wG tK ?_
  refine wD (fun h => ?_) (fun h => ?_)
  ·cases h
  refine wG tK ?_
  refine wD (fun h => ?_) (fun h => ?_)
  ·have hff : f ≠ a.fid := by simpa using h
   have hne : namedE l a = 13 := by unfold namedE; rw [if_pos hd,hent]; simp [hff]
   rw [hN (by rw [hne]; decide),hne]
   refine wG tK ?_
   refine wT ?_
   simp
  have hff : f = a.fid := by simpa using h
  subst hff
  have hn0 : namedE l a = 0 := by unfold namedE; rw [if_pos hd,hent]; simp
  cases hff : Yf l a.fid with
  | none =>
   rw [hff] at hg1
   simp only [Option.map_none] at hg1
   have he : Ya l a = 12 := by rw [hE]; unfold removeE; rw [if_pos hn0,hff]
   rw [he]
   refine wG tK ?_ (by simp only [go_sem,hg1]; try exact rfl) (by simp [go_sem,hg1])
   refine wDT (hb := by simp [k4]) (hk := ?_)
   refine wG tK ?_
   refine wD (fun h => ?_) (fun h => ?_)
   ·refine wG tK ?_
    refine wT ?_
    simp
   ·cases h
  | some x =>
   rw [hff] at hg1
   simp only [Option.map_some] at hg1
   have hrE : removeE l a = if x.entries.length > 0 then 10 else 0 := by unfold removeE; rw [if_pos hn0,hff]
   refine wG tK ?_ (by simp only [go_sem,hg1,ZN]; try exact rfl) (by simp [go_sem,hg1,ZN])
   refine wDT (hb := by simp [k4]) (hk := ?_)
   refine wG tK ?_
   refine wD (fun h => ?_) (fun h => ?_)
   ·cases h
   refine wG tK ?_
   refine wD (fun h => ?_) (fun h => ?_)
   ·have hx : x.entries.length > 0 := by simp at h; omega
    have he : Ya l a = 10 := by rw [hE,hrE,if_pos hx]
    rw [he]
    refine wG tK ?_
    refine wT ?_
    simp
   have hx : ¬ x.entries.length > 0 := by simp at h; simp [h]
   have he0 : removeE l a = 0 := by rw [hrE,if_neg hx]
   have he : Ya l a = 0 := by rw [hE,he0]
   have hLL : rApplyL l a v = dropN (Yu l { Yv (Yg l a.dir) a.name with version := v }) a.fid := by rw [hL]; unfold removeL; rw [if_pos he0]
   rw [he,if_pos rfl,hLL]
   have hw2 := without_ok (mapD (Yu l { Yv (Yg l a.dir) a.name with version := v })) a.fid (mapD_rise _)
   rw [mapD_del (putN_up hf.ri.up _).1] at hw2
   refine wG tK ?_
   refine ZW ZM ?_
   refine ZS rfl ?_
   refine sN tK 5 ?_
   refine sC Tryz.func64 (hf := (hlv)) (hk := ?_)
   refine sC Tryz.func58 (hf := (apply1_ok (Yv (Yg l a.dir) a.name) v)) (hk := ?_)
   refine sC Tryz.func61 (hf := (hw1)) (hk := ?_)
   refine sN tK 2 ?_
   refine sC Tryz.func65 (hf := (hw2)) (hk := ?_)
   refine sN tK 2 ?_
   refine sE ?_
   refine wKd ?_
   refine wG tK ?_
   refine wT ?_
   rfl
 refine wDF (hb := by simp [k4]) (hk := ?_)
 refine wG tK ?_
 rw [if_neg k4] at hkE hkL
 by_cases k5 : a.kind = 5
 ·have hE : Ya l a = rRenameE l a := by rw [hkE,if_pos k5]
  have hL : rApplyL l a v = rRenameL l a v := by rw [hkL,if_pos k5]
  have hN : namedE l a ≠ 0 → Ya l a = namedE l a := fun h => by rw [hE]; unfold rRenameE; rw [if_neg h]
  refine wDT (hb := by simp [k5]) (hk := ?_)
  refine wG tK ?_
  refine wC Tryz.func59 (hf := (hdir2)) (hk := ?_)
  refine wG tK ?_
  refine wD (fun h => ?_) (fun h => ?_)
  ·have hd : dirE l a.dir ≠ 0 := by simpa using h
   have hne : namedE l a = dirE l a.dir := by unfold namedE; rw [if_neg hd]
   rw [hN (by rw [hne]; exact hd),hne,if_neg hd]
   refine wG tK ?_
   refine wT ?_
   rfl
  have hd : dirE l a.dir = 0 := by simpa using h
  have hlv := rleave_ok (Yg l a.dir) a.name (by omega)
  have hw1 := with_ok (mapD l) { Yv (Yg l a.dir) a.name with version := v } (mapD_rise l)
  rw [mapD_put hf.ri.up] at hw1
  unfold ZN at hw1 hlv hen
  refine wG tK ?_
  cases hent : entryN (Yg l a.dir) a.name with
  | none =>
   rw [hent] at hen
   have hne : namedE l a = 6 := by unfold namedE; rw [if_pos hd,hent]
   rw [hN (by rw [hne]; decide),hne]
   refine wC Tryz.func63 (hf := (hen)) (hk := ?_)
   refine wG tK ?_
   refine wD (fun h => ?_) (fun h => ?_)
   ·refine wG tK ?_
    refine wT ?_
    simp
   ·cases h
  | some f =>
  rw [hent] at hen
  refine wC Tryz.func63 (hf := (hen)) (hk := ?_)
  refine wG tK ?_
  refine wD (fun h => ?_) (fun h => ?_)
  ·cases h
  refine wG tK ?_
  refine wD (fun h => ?_) (fun h => ?_)
  ·have hff : f ≠ a.fid := by simpa using h
   have hne : namedE l a = 13 := by unfold namedE; rw [if_pos hd,hent]; simp [hff]
   rw [hN (by rw [hne]; decide),hne]
   refine wG tK ?_
   refine wT ?_
   simp
  have hff : f = a.fid := by simpa using h
  subst hff
  have hn0 : namedE l a = 0 := by unfold namedE; rw [if_pos hd,hent]; simp
  have hdt := rdir_ok l a.to hf.ri.up
  unfold ZN at hdt
  have htE := hf.ri.to a
  have htl : (toN l a).entries.length ≤ 9999990 := by
   unfold toN
   split
   ·have := leaveE_len (Yg l a.dir).entries a.name
    show (leaveE (Yg l a.dir).entries a.name).length ≤ _
    omega
   ·exact hf.find a.to
  have hlt := rleave_ok (Yg l a.to) a.name (by have := hf.find a.to; omega)
  unfold ZN at hlt
  have hrm := rroom_ok (toN l a) a.toName htE (by omega) hf.toName
  unfold ZN at hrm
  have hat := isAt_eq l a.fid
  cases hff : Yf l a.fid with
  | none =>
   rw [hff] at hg1 hat
   simp only [Option.map_none] at hg1
   refine wG tK ?_ (by simp only [go_sem,hg1]; try exact rfl) (by simp [go_sem,hg1])
   refine wDF (hb := by simp [k5]) (hk := ?_)
   refine wG tK ?_
   refine wC Tryz.func59 (hf := (hdt)) (hk := ?_)
   refine wG tK ?_
   refine wD (fun h => ?_) (fun h => ?_)
   ·have hd2 : dirE l a.to ≠ 0 := by simpa using h
    have he : Ya l a = dirE l a.to := by rw [hE]; unfold rRenameE; rw [if_pos hn0,if_neg hd2]
    rw [he,if_neg hd2]
    refine wG tK ?_
    refine wT ?_
    rfl
   have hd2 : dirE l a.to = 0 := by simpa using h
   refine wG tK ?_
   by_cases hsd : a.to = a.dir
   ·rw [show toN l a = Yv (Yg l a.to) a.name from by unfold toN; rw [if_pos hsd,hsd]] at hrm
    refine wDT (hb := by simp [hsd]) (hk := ?_)
    refine wG tK ?_
    refine wC Tryz.func64 (hf := (hlt)) (hk := ?_)
    refine wG tK ?_
    refine wC Tryz.func60 (hf := (hrm)) (hk := ?_)
    refine wG tK ?_
    refine wD (fun h => ?_) (fun h => ?_)
    ·have hr : roomE (toN l a) a.toName ≠ 0 := by first | (rw [hT]; simpa using h) | (simpa [toN,hsd] using h)
     have he : Ya l a = roomE (toN l a) a.toName := by rw [hE]; unfold rRenameE; rw [if_pos hn0,if_pos hd2,if_neg hr]
     rw [he,if_neg hr]
     refine wG tK ?_
     refine wT ?_
     simp [toN,hsd]
    have hr : roomE (toN l a) a.toName = 0 := by first | (rw [hT]; simpa using h) | (simpa [toN,hsd] using h)
    have he : Ya l a = 12 := by rw [hE]; unfold rRenameE; rw [if_pos hn0,if_pos hd2,if_pos hr,hat]; simp
    rw [he]
    refine wG tK ?_
    refine wD (fun h => ?_) (fun h => ?_)
    ·refine wG tK ?_
     refine wT ?_
     simp
    ·cases h
   ·rw [show toN l a = Yg l a.to from by unfold toN; rw [if_neg hsd]] at hrm
    refine wDF (hb := by simp [hsd]) (hk := ?_)
    refine wG tK ?_
    refine wC Tryz.func60 (hf := (hrm)) (hk := ?_)
    refine wG tK ?_
    refine wD (fun h => ?_) (fun h => ?_)
    ·have hr : roomE (toN l a) a.toName ≠ 0 := by first | (rw [hT]; simpa using h) | (simpa [toN,hsd] using h)
     have he : Ya l a = roomE (toN l a) a.toName := by rw [hE]; unfold rRenameE; rw [if_pos hn0,if_pos hd2,if_neg hr]
     rw [he,if_neg hr]
     refine wG tK ?_
     refine wT ?_
     simp [toN,hsd]
    have hr : roomE (toN l a) a.toName = 0 := by first | (rw [hT]; simpa using h) | (simpa [toN,hsd] using h)
    have he : Ya l a = 12 := by rw [hE]; unfold rRenameE; rw [if_pos hn0,if_pos hd2,if_pos hr,hat]; simp
    rw [he]
    refine wG tK ?_
    refine wD (fun h => ?_) (fun h => ?_)
    ·refine wG tK ?_
     refine wT ?_
     simp
    ·cases h
  | some x =>
   rw [hff] at hg1 hat
   simp only [Option.map_some] at hg1
   have hwi := rwithin_ok (mapD l) a.to a.fid hf.all
   refine wG tK ?_ (by simp only [go_sem,hg1,ZN]; try exact rfl) (by simp [go_sem,hg1,ZN])
   refine wDF (hb := by simp [k5]) (hk := ?_)
   refine wG tK ?_
   refine wC Tryz.func59 (hf := (hdt)) (hk := ?_)
   refine wG tK ?_
   refine wD (fun h => ?_) (fun h => ?_)
   ·have hd2 : dirE l a.to ≠ 0 := by simpa using h
    have he : Ya l a = dirE l a.to := by rw [hE]; unfold rRenameE; rw [if_pos hn0,if_neg hd2]
    rw [he,if_neg hd2]
    refine wG tK ?_
    refine wT ?_
    rfl
   have hd2 : dirE l a.to = 0 := by simpa using h
   refine wG tK ?_
   by_cases hsd : a.to = a.dir
   ·have hT : toN l a = Yv (Yg l a.to) a.name := by unfold toN; rw [if_pos hsd,hsd]
    rw [hT] at hrm
    refine wDT (hb := by simp [hsd]) (hk := ?_)
    refine wG tK ?_
    refine wC Tryz.func64 (hf := (hlt)) (hk := ?_)
    refine wG tK ?_
    refine wC Tryz.func60 (hf := (hrm)) (hk := ?_)
    refine wG tK ?_
    refine wD (fun h => ?_) (fun h => ?_)
    ·have hr : roomE (toN l a) a.toName ≠ 0 := by first | (rw [hT]; simpa using h) | (simpa [toN,hsd] using h)
     have he : Ya l a = roomE (toN l a) a.toName := by rw [hE]; unfold rRenameE; rw [if_pos hn0,if_pos hd2,if_neg hr]
     rw [he,if_neg hr]
     refine wG tK ?_
     refine wT ?_
     simp [toN,hsd]
    have hr : roomE (toN l a) a.toName = 0 := by first | (rw [hT]; simpa using h) | (simpa [toN,hsd] using h)
    refine wG tK ?_
    refine wD (fun h => ?_) (fun h => ?_)
    ·cases h
    refine wG tK ?_
    refine wC Tryz.func66 (hf := (hwi)) (hk := ?_)
    refine wG tK ?_
    refine wD (fun h => ?_) (fun h => ?_)
    ·have he : Ya l a = 11 := by rw [hE]; unfold rRenameE; rw [if_pos hn0,if_pos hd2,if_pos hr,hat,if_pos (show (some x).isSome = true from rfl),if_pos h]
     rw [he]
     refine wG tK ?_
     refine wT ?_
     simp
    have he0 : rRenameE l a = 0 := by unfold rRenameE; rw [if_pos hn0,if_pos hd2,if_pos hr,hat,if_pos (show (some x).isSome = true from rfl),if_neg (by rw [h]; simp)]
    have he : Ya l a = 0 := by rw [hE,he0]
    have hLL : rApplyL l a v = Yu (if a.to = a.dir then l else Yu l { Yv (Yg l a.dir) a.name with version := v }) { Ye (toN l a) a.toName a.fid with version := v } := by rw [hL]; unfold rRenameL; rw [if_pos he0]
    refine wG tK ?_
    have hent := renter_ok (Yv (Yg l a.to) a.name) a.toName a.fid (by rw [← hT]; omega)
    rw [rEnterN_enterN (by rw [← hT]; exact htE) (by rw [← hT]; exact (roomE_free hr).2)] at hent
    have hw2 := with_ok (mapD l) { Ye (Yv (Yg l a.to) a.name) a.toName a.fid with version := v } (mapD_rise _)
    rw [mapD_put hf.ri.up] at hw2
    unfold ZN at hent hw2
    rw [if_pos hsd,hT] at hLL
    rw [he,if_pos rfl,hLL]
    refine wDF (hb := by simp [hsd]) (hk := ?_)
    refine wG tK ?_
    refine wC Tryz.func62 (hf := (hent)) (hk := ?_)
    refine wC Tryz.func58 (hf := (apply1_ok (Ye (Yv (Yg l a.to) a.name) a.toName a.fid) v)) (hk := ?_)
    refine wC Tryz.func61 (hf := (hw2)) (hk := ?_)
    refine wG tK ?_
    refine wT ?_
    rfl
   ·have hT : toN l a = Yg l a.to := by unfold toN; rw [if_neg hsd]
    rw [hT] at hrm
    refine wDF (hb := by simp [hsd]) (hk := ?_)
    refine wG tK ?_
    refine wC Tryz.func60 (hf := (hrm)) (hk := ?_)
    refine wG tK ?_
    refine wD (fun h => ?_) (fun h => ?_)
    ·have hr : roomE (toN l a) a.toName ≠ 0 := by first | (rw [hT]; simpa using h) | (simpa [toN,hsd] using h)
     have he : Ya l a = roomE (toN l a) a.toName := by rw [hE]; unfold rRenameE; rw [if_pos hn0,if_pos hd2,if_neg hr]
     rw [he,if_neg hr]
     refine wG tK ?_
     refine wT ?_
     simp [toN,hsd]
    have hr : roomE (toN l a) a.toName = 0 := by first | (rw [hT]; simpa using h) | (simpa [toN,hsd] using h)
    refine wG tK ?_
    refine wD (fun h => ?_) (fun h => ?_)
    ·cases h
    refine wG tK ?_
    refine wC Tryz.func66 (hf := (hwi)) (hk := ?_)
    refine wG tK ?_
    refine wD (fun h => ?_) (fun h => ?_)
    ·have he : Ya l a = 11 := by rw [hE]; unfold rRenameE; rw [if_pos hn0,if_pos hd2,if_pos hr,hat,if_pos (show (some x).isSome = true from rfl),if_pos h]
     rw [he]
     refine wG tK ?_
     refine wT ?_
     simp
    have he0 : rRenameE l a = 0 := by unfold rRenameE; rw [if_pos hn0,if_pos hd2,if_pos hr,hat,if_pos (show (some x).isSome = true from rfl),if_neg (by rw [h]; simp)]
    have he : Ya l a = 0 := by rw [hE,he0]
    have hLL : rApplyL l a v = Yu (if a.to = a.dir then l else Yu l { Yv (Yg l a.dir) a.name with version := v }) { Ye (toN l a) a.toName a.fid with version := v } := by rw [hL]; unfold rRenameL; rw [if_pos he0]
    refine wG tK ?_
    have hent := renter_ok (Yg l a.to) a.toName a.fid (by rw [← hT]; omega)
    rw [rEnterN_enterN (by rw [← hT]; exact htE) (by rw [← hT]; exact (roomE_free hr).2)] at hent
    have hw2 := with_ok (mapD (Yu l { Yv (Yg l a.dir) a.name with version := v })) { Ye (Yg l a.to) a.toName a.fid with version := v } (mapD_rise _)
    rw [mapD_put (putN_up hf.ri.up _).1] at hw2
    unfold ZN at hent hw2
    rw [if_neg hsd,hT] at hLL
    rw [he,if_pos rfl,hLL]
    refine wDT (hb := by simpa using hsd) (hk := ?_)
    refine wG tK ?_
    refine wC Tryz.func64 (hf := (hlv)) (hk := ?_)
    refine wC Tryz.func58 (hf := (apply1_ok (Yv (Yg l a.dir) a.name) v)) (hk := ?_)
    refine wC Tryz.func61 (hf := (hw1)) (hk := ?_)
    refine wG tK ?_
    refine wC Tryz.func62 (hf := (hent)) (hk := ?_)
    refine wC Tryz.func58 (hf := (apply1_ok (Ye (Yg l a.to) a.toName a.fid) v)) (hk := ?_)
    refine wC Tryz.func61 (hf := (hw2)) (hk := ?_)
    refine wG tK ?_
    refine wT ?_
    rfl
 refine wDF (hb := by simp [k5]) (hk := ?_)
 have he : Ya l a = 1 := by rw [hkE,if_neg k5]
 rw [he]
 refine wG tK ?_
 refine wT ?_
 simp
end La
