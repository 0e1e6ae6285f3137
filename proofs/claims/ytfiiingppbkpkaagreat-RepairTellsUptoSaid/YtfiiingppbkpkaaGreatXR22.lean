/- The law RepairTells is true of the program: its statement RepairTellsUptoSaid, in this seat's Rows. No condition. -/
import Derived.Test.YtfiiingppbkpkaaGreatXR21
set_option maxRecDepth 10000
set_option maxHeartbeats 4000000
set_option linter.unusedSimpArgs false
set_option linter.unusedVariables false
namespace Go.Proofs.YtfiiingppbkpkaaGreat.repairTells
open Go Go.ChangeShapes Go.WideShapes Go.ChangeAt Go.RowKit Go.Eng
theorem contract (H : Type) (enc : TypeId × Value → H) (W : World) (base : Nat) (args : Array Value) (ds gs : List (DataW H)) (before : List MemPlace)
  (hval : ∀ (j : Nat) t v,Tryz.f4.params[j]? = some t → args[j]? = some v → Value.okWide Tryz.prog W .any base t v)
  (hW : DataW.Whole enc Tryz.prog Tryz.f4.params.toList Rows.repairTellsSpec.vars false W args.toList ds gs before) (hk : Rows.uptoSmall H (ds ++ gs) = true) :
  Calls Tryz.prog 4 args W fun e W' => ∃ v,e = .returned v ∧ Rows.repairTellsSpec.post enc Tryz.prog Tryz.f4 false true false false W args v W' := by
 have hW' := hW
 obtain ⟨p,q,hA0,hV,rfl,hfz,hnd⟩ := hW
 have hA : DataW.TrodAll enc Tryz.prog W 0 (fun _ => true) true Tryz.f4.params.toList args.toList ds p := hA0
 rw [Tryz.params4] at hA hval
 obtain ⟨v0,vs0,d0,ds0,p0,q0,hargs,rfl,rfl,h0,r0⟩ := trodAll_cons hA
 obtain ⟨v1,vs1,d1,ds1,p1,q1,rfl,rfl,rfl,h1,r1⟩ := trodAll_cons r0
 obtain ⟨v2,vs2,d2,ds2,p2,q2,rfl,rfl,rfl,h2,r2⟩ := trodAll_cons r1
 obtain ⟨v3,vs3,d3,ds3,p3,q3,rfl,rfl,rfl,h3,r3⟩ := trodAll_cons r2
 obtain ⟨v4,vs4,d4,ds4,p4,q4,rfl,rfl,rfl,h4,r4⟩ := trodAll_cons r3
 obtain ⟨rfl,rfl,rfl⟩ := trodAll_nil r4
 obtain rfl : args = #[v0,v1,v2,v3,v4] := by cases args; simp_all
 obtain ⟨rfl,rfl⟩ := trodVars_none hV
 have hk2 : Rows.uptoBulkAll [d0,d1,d2,d3,d4] ≤ 1048576 := of_decide_eq_true hk
 simp only [Rows.uptoBulkAll] at hk2
 obtain ⟨x0,o0,s0,c0⟩ := La.open_arg (La.rep_recs) h0
 obtain ⟨a0,len0,cap0,rfl⟩ := okWide_slice Tryz.underlying27 (hval 0 27 v0 rfl rfl)
 have R0 := La.rdc_one c0 (fun _ h => nomatch h)
 obtain ⟨x1,o1,s1,c1⟩ := La.open_arg (La.rep_i 3 Tryz.underlying3 rfl) h1
 obtain ⟨b1,rfl⟩ := okWide_int Tryz.underlying3 (hval 1 3 v1 rfl rfl)
 have R1 := La.rdc_one c1 (fun _ h => nomatch h)
 obtain ⟨x2,o2,s2,c2⟩ := La.open_arg (La.rep_ints) h2
 obtain ⟨a2,len2,cap2,rfl⟩ := okWide_slice Tryz.underlying22 (hval 2 22 v2 rfl rfl)
 have R2 := La.rdc_one c2 (fun _ h => nomatch h)
 obtain ⟨x3,o3,s3,c3⟩ := La.open_arg (La.rep_steps) h3
 obtain ⟨a3,len3,cap3,rfl⟩ := okWide_slice Tryz.underlying23 (hval 3 23 v3 rfl rfl)
 have R3 := La.rdc_one c3 (fun _ h => nomatch h)
 obtain ⟨x4,o4,s4,c4⟩ := La.open_arg (La.rep_i 3 Tryz.underlying3 rfl) h4
 obtain ⟨b4,rfl⟩ := okWide_int Tryz.underlying3 (hval 4 3 v4 rfl rfl)
 have R4 := La.rdc_one c4 (fun _ h => nomatch h)
 refine (calls_of_fn (La.repTells_ok x0 x1 x2 x3 x4 (La.recs_len (by omega)) (La.smallL_of (by omega)) (La.recsFit_of (by omega)) (La.ints_len (by omega)) (La.steps_ok (by omega))) (w := W) (vs := [.slice a0 len0 cap0,.int .i64 b1,.slice a2 len2 cap2,.slice a3 len3 cap3,.int .i64 b4]) rfl (S := fun b => b < W.heap.size) (fun j x h => ?_) (fun _ h => h) ⟨fun _ h => h.elim,trivial⟩).mono fun e W' ⟨v,μ,S',he,hv,hf⟩ => ?_
 ·rcases j with _ | _ | _ | _ | _ | j
  ·simp only [List.getElem?_cons_zero,List.getElem?_cons_succ,Option.some.injEq] at h; subst h; exact R0
  ·simp only [List.getElem?_cons_zero,List.getElem?_cons_succ,Option.some.injEq] at h; subst h; exact R1
  ·simp only [List.getElem?_cons_zero,List.getElem?_cons_succ,Option.some.injEq] at h; subst h; exact R2
  ·simp only [List.getElem?_cons_zero,List.getElem?_cons_succ,Option.some.injEq] at h; subst h; exact R3
  ·simp only [List.getElem?_cons_zero,List.getElem?_cons_succ,Option.some.injEq] at h; subst h; exact R4
  ·simp at h
 subst he
 obtain rfl := hv.inv_bool
 exact ⟨_,rfl,post_true La.laid La.rowed La.full (by rw [Tryz.params4]; decide) rfl Tryz.underlying4 rfl hW' hf rfl rfl rfl⟩
theorem lifted (os : Os) (started : os.Started) (H : Type) (enc : TypeId × Value → H) (F : Stop.Interp) :
  ReturnsInHanded {} Tryz.checked os 4 .any ((Rows.OpenSpec.upto Rows.repairTellsSpec).pre6 enc Tryz.prog Tryz.f4 Rows.repairTellsUptoRow.domain false) (((Rows.OpenSpec.upto Rows.repairTellsSpec).at F).post enc Tryz.prog Tryz.f4 false true false false) := by
 refine returnsInHanded_of_cond (C := Tryz.checked) (s := Rows.OpenSpec.upto Rows.repairTellsSpec) (k := Rows.uptoSmall) rfl La.own started (by kernel_rfl) Tryz.func4
  (OpenSpec.witness (enc := enc) (C := Tryz.checked) (s := Rows.OpenSpec.upto Rows.repairTellsSpec) (k := Rows.uptoSmall) rfl false ⟨#[],#[.slice none 0 0,.int .i64 0,.slice none 0 0,.slice none 0 0,.int .i64 0],[]⟩ 8 (by kernel_rfl) (by kernel_rfl) (by kernel_rfl)
   (x := ([.nil,.lit (.int .i64 0),.nil,.nil,.lit (.int .i64 0)],[],[])) (by kernel_rfl) rfl (by kernel_rfl)) ?_
 intro W base args ds gs before hval hW _ hk _
 exact contract H enc W base args ds gs before hval hW hk
theorem over : Rows.repairTellsUptoRow.holds Tryz.pinned (Rows.OpenSpec.upto Rows.repairTellsSpec) :=
 OpenClaim.holds_of_cond 4 Tryz.f4 rfl rfl rfl rfl rfl rfl rfl ⟨rfl,rfl,rfl,rfl,rfl⟩ rfl rfl rfl rfl rfl (by kernel_rfl) Tryz.func4 (by kernel_rfl)
  (of_decide_eq_true (by kernel_rfl)) (by unfold Func.isWrapper; first | (rw [if_pos (by decide +kernel)]; kernel_rfl) | (rw [if_neg (by decide +kernel)]; exact ⟨rfl,rfl⟩))
  (fun os started H enc _ F => lifted os started H enc F)
theorem proved : Rows.RepairTellsUptoSaid :=
 over
end Go.Proofs.YtfiiingppbkpkaaGreat.repairTells
