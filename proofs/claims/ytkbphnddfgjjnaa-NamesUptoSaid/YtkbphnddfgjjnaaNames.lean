/- The law Names is true of the program: its statement NamesUptoSaid, in this seat's Rows. No condition. -/
import Derived.Test.YtkbphnddfgjjnaaBas
namespace La
open Go Go.Eng Go.Proofs
set_option maxRecDepth 10000
set_option linter.unusedSimpArgs false

def upTo15 : List Int := [0, 1, 2, 3, 4, 5, 6, 7, 8, 9, 10, 11, 12, 13, 14]
theorem upTo15_get : ∀ i : Nat, i < 15 → upTo15.getD i 0 = i := by decide
def consts : List Int := [24, 6, 20, 8, 40, 1, 2, 3, 4, 5, 3, 24, 3, 80, 1, 2, 3, 4, 5, 6, 7, 8, 9, 10, 1, 2, 3, 4, 0, 20, 6]

theorem names_ok : FnOK Try.prog 9 [] [] (fun r _ => r = .bool true) := by
  refine fn_of_cw tabOK (Go.Proofs.Try.func9) rfl (fun C => ?_)
  simp only [Go.Proofs.Try.ntmps9, Go.Proofs.Try.results9, go_sem, Nat.reduceAdd, Nat.reduceMul, Nat.reduceSub, Nat.reduceEqDiff, Int.reduceNeg, Int.reduceToNat, Int.reduceAdd, Int.reduceSub]
  refine cw_go tabOK 99 (by simp only [go_sem, Nat.reduceAdd, Nat.reduceMul, Nat.reduceSub, Nat.reduceEqDiff, Int.reduceNeg, Int.reduceToNat, Int.reduceAdd, Int.reduceSub]; exact rfl) (by simp [go_sem]) ?_
  obtain ⟨rows, e1, hl, hg0⟩ := rows_as (l := [[AV.int IntKind.i64 0], [AV.int IntKind.i64 1], [AV.int IntKind.i64 2], [AV.int IntKind.i64 3], [AV.int IntKind.i64 4], [AV.int IntKind.i64 5], [AV.int IntKind.i64 6], [AV.int IntKind.i64 7], [AV.int IntKind.i64 8], [AV.int IntKind.i64 9], [AV.int IntKind.i64 10], [AV.int IntKind.i64 11], [AV.int IntKind.i64 12], [AV.int IntKind.i64 13], [AV.int IntKind.i64 14]]) upTo15 rfl
  rw [e1]
  clear e1
  have hl : rows.length = 15 := hl
  refine cw_loopS (fun i : Nat => i ≤ 15) (fun i => 15 - i) (fun i => [(2, .any), (3, .any), (10, .int .i64 i), (11, .any), (12, .any), (13, .any), (14, .any), (15, .any), (16, .any), (17, .any), (18, .any)]) (fun _ => []) 0 (by omega) ?_ fun i hi => ?_
  · simp only [go_sem, Nat.reduceAdd, Nat.reduceMul, Nat.reduceSub, Nat.reduceEqDiff, Int.reduceNeg, Int.reduceToNat, Int.reduceAdd, Int.reduceSub]
    exact le_anyH rfl (by simp [leAny])
  simp only [go_sem, Nat.reduceAdd, Nat.reduceMul, Nat.reduceSub, Nat.reduceEqDiff, Int.reduceNeg, Int.reduceToNat, Int.reduceAdd, Int.reduceSub]
  refine cw_go tabOK 99 (by simp only [go_sem, Nat.reduceAdd, Nat.reduceMul, Nat.reduceSub, Nat.reduceEqDiff, Int.reduceNeg, Int.reduceToNat, Int.reduceAdd, Int.reduceSub]; exact rfl) (by simp [go_sem]) ?_
  refine cw_cond (by simp only [go_sem, Nat.reduceAdd, Nat.reduceMul, Nat.reduceSub, Nat.reduceEqDiff, Int.reduceNeg, Int.reduceToNat, Int.reduceAdd, Int.reduceSub]; exact rfl) trivial (fun h => ?_) (fun h => ?_)
  · have hlt : i < 15 := by simp at h; omega
    have hg := hg0 i hlt
    rw [upTo15_get i hlt] at hg
    refine cw_go tabOK 99 (by simp only [go_sem, Nat.reduceAdd, Nat.reduceMul, Nat.reduceSub, Nat.reduceEqDiff, Int.reduceNeg, Int.reduceToNat, Int.reduceAdd, Int.reduceSub, hg]; exact rfl) ?_ ?_
    · simp [hl]; omega
    refine cw_cond (by simp only [go_sem, Nat.reduceAdd, Nat.reduceMul, Nat.reduceSub, Nat.reduceEqDiff, Int.reduceNeg, Int.reduceToNat, Int.reduceAdd, Int.reduceSub]; exact rfl) trivial (fun h => ?_) (fun h => ?_)
    · simp at h
    · refine cw_go tabOK 99 (by simp only [go_sem, Nat.reduceAdd, Nat.reduceMul, Nat.reduceSub, Nat.reduceEqDiff, Int.reduceNeg, Int.reduceToNat, Int.reduceAdd, Int.reduceSub]; exact rfl) ?_ ?_
      · trivial
      refine cw_back ⟨i + 1, by omega, by omega, le_anyH rfl ?_⟩
      simp [leAny]
      exact wrap_small (by omega) (by omega)
  · refine cw_go tabOK 99 (by simp only [go_sem, Nat.reduceAdd, Nat.reduceMul, Nat.reduceSub, Nat.reduceEqDiff, Int.reduceNeg, Int.reduceToNat, Int.reduceAdd, Int.reduceSub]; exact rfl) (by simp [go_sem]) ?_
    have e2 : i = 15 := by have := hi; simp at h; omega
    subst e2
    obtain ⟨r1, f1, hl1, hg1⟩ := rows_as (l := [[AV.int IntKind.i64 24], [AV.int IntKind.i64 6], [AV.int IntKind.i64 20], [AV.int IntKind.i64 8], [AV.int IntKind.i64 40], [AV.int IntKind.i64 1], [AV.int IntKind.i64 2], [AV.int IntKind.i64 3], [AV.int IntKind.i64 4], [AV.int IntKind.i64 5], [AV.int IntKind.i64 3], [AV.int IntKind.i64 24], [AV.int IntKind.i64 3], [AV.int IntKind.i64 80], [AV.int IntKind.i64 1], [AV.int IntKind.i64 2], [AV.int IntKind.i64 3], [AV.int IntKind.i64 4], [AV.int IntKind.i64 5], [AV.int IntKind.i64 6], [AV.int IntKind.i64 7], [AV.int IntKind.i64 8], [AV.int IntKind.i64 9], [AV.int IntKind.i64 10], [AV.int IntKind.i64 1], [AV.int IntKind.i64 2], [AV.int IntKind.i64 3], [AV.int IntKind.i64 4], [AV.int IntKind.i64 0], [AV.int IntKind.i64 20], [AV.int IntKind.i64 6]]) consts rfl
    rw [f1]
    clear f1
    have hl1 : r1.length = 31 := hl1
    refine cw_loopS (fun i : Nat => i ≤ 31) (fun i => 31 - i) (fun i => [(6, .any), (23, .int .i64 i), (24, .any), (25, .any), (26, .any), (27, .any), (28, .any), (29, .any), (30, .any), (31, .any), (32, .any), (33, .any), (34, .any), (35, .any)]) (fun _ => []) 0 (by omega) ?_ fun i hi => ?_
    · simp only [go_sem, Nat.reduceAdd, Nat.reduceMul, Nat.reduceSub, Nat.reduceEqDiff, Int.reduceNeg, Int.reduceToNat, Int.reduceAdd, Int.reduceSub]
      exact le_anyH rfl (by simp [leAny])
    simp only [go_sem, Nat.reduceAdd, Nat.reduceMul, Nat.reduceSub, Nat.reduceEqDiff, Int.reduceNeg, Int.reduceToNat, Int.reduceAdd, Int.reduceSub]
    refine cw_go tabOK 99 (by simp only [go_sem, Nat.reduceAdd, Nat.reduceMul, Nat.reduceSub, Nat.reduceEqDiff, Int.reduceNeg, Int.reduceToNat, Int.reduceAdd, Int.reduceSub]; exact rfl) (by simp [go_sem]) ?_
    refine cw_cond (by simp only [go_sem, Nat.reduceAdd, Nat.reduceMul, Nat.reduceSub, Nat.reduceEqDiff, Int.reduceNeg, Int.reduceToNat, Int.reduceAdd, Int.reduceSub]; exact rfl) trivial (fun h => ?_) (fun h => ?_)
    · have hlt : i < 31 := by simp at h; omega
      have hg := hg1 i hlt
      refine cw_go tabOK 99 (by simp only [go_sem, Nat.reduceAdd, Nat.reduceMul, Nat.reduceSub, Nat.reduceEqDiff, Int.reduceNeg, Int.reduceToNat, Int.reduceAdd, Int.reduceSub]; exact rfl) (by simp [go_sem]) ?_
      refine cw_drawn tabOK mixed (by simp only [go_sem, Nat.reduceAdd, Nat.reduceMul, Nat.reduceSub, Nat.reduceEqDiff, Int.reduceNeg, Int.reduceToNat, Int.reduceAdd, Int.reduceSub, hg]; exact rfl) ?_ (by simp only [go_sem, Nat.reduceAdd, Nat.reduceMul, Nat.reduceSub, Nat.reduceEqDiff, Int.reduceNeg, Int.reduceToNat, Int.reduceAdd, Int.reduceSub, hg]; exact rfl) (by kernel_rfl) ?_
      · simp [hl1]; omega
      refine cw_go tabOK 99 (by simp only [go_sem, Nat.reduceAdd, Nat.reduceMul, Nat.reduceSub, Nat.reduceEqDiff, Int.reduceNeg, Int.reduceToNat, Int.reduceAdd, Int.reduceSub]; exact rfl) (by simp [go_sem]) ?_
      refine cw_cond (by simp only [go_sem, Nat.reduceAdd, Nat.reduceMul, Nat.reduceSub, Nat.reduceEqDiff, Int.reduceNeg, Int.reduceToNat, Int.reduceAdd, Int.reduceSub]; exact rfl) trivial (fun h => ?_) (fun h => ?_)
      · simp at h
      · refine cw_go tabOK 99 (by simp only [go_sem, Nat.reduceAdd, Nat.reduceMul, Nat.reduceSub, Nat.reduceEqDiff, Int.reduceNeg, Int.reduceToNat, Int.reduceAdd, Int.reduceSub]; exact rfl) ?_ ?_
        · trivial
        refine cw_back ⟨i + 1, by omega, by omega, le_anyH rfl ?_⟩
        simp [leAny]
        exact wrap_small (by omega) (by omega)
    · refine cw_go tabOK 99 (by simp only [go_sem, Nat.reduceAdd, Nat.reduceMul, Nat.reduceSub, Nat.reduceEqDiff, Int.reduceNeg, Int.reduceToNat, Int.reduceAdd, Int.reduceSub]; exact rfl) (by simp [go_sem]) ?_
      refine cw_ret ⟨_, _, (by simp only [go_sem, Nat.reduceAdd, Nat.reduceMul, Nat.reduceSub, Nat.reduceEqDiff, Int.reduceNeg, Int.reduceToNat, Int.reduceAdd, Int.reduceSub]; exact rfl), by simp [go_sem], ?_⟩
      rfl
end La
namespace Go.Proofs.Ytkbphnddfgjjnaa.names
set_option maxRecDepth 100000
open Go Go.ChangeShapes Go.WideShapes Go.ChangeAt Go.RowKit Go.Eng

theorem contract (H : Type) (enc : TypeId × Value → H) (W : World) (base : Nat) (args : Array Value) (ds gs : List (DataW H)) (before : List MemPlace)
    (hval : ∀ (j : Nat) t v, Try.f9.params[j]? = some t → args[j]? = some v → Value.okWide Try.prog W .any base t v)
    (hW : DataW.Whole enc Try.prog Try.f9.params.toList Rows.namesSpec.vars false W args.toList ds gs before) :
    Calls Try.prog 9 args W fun e W' => ∃ v, e = .returned v ∧ Rows.namesSpec.post enc Try.prog Try.f9 false true false false W args v W' := by
  have hW' := hW
  obtain ⟨p, q, hA0, hV, rfl, hfz, hnd⟩ := hW
  have hA : DataW.TrodAll enc Try.prog W 0 (fun _ => true) true Try.f9.params.toList args.toList ds p := hA0
  rw [Try.params9] at hA
  obtain ⟨e1, rfl, rfl⟩ := trodAll_nil hA
  obtain rfl : args = #[] := by cases args; simp_all
  obtain ⟨rfl, rfl⟩ := trodVars_none hV
  refine (calls_of_fn La.names_ok (w := W) (vs := []) rfl (S := fun _ => False) (fun j x h => by simp at h) (fun _ h => h.elim)).mono fun e W' ⟨v, μ, S', he, hv, hf⟩ => ?_
  subst he
  obtain rfl := hv.inv_bool
  exact ⟨_, rfl, post_true La.laid La.rowed La.full (by rw [Try.params9]; decide) rfl Try.underlying4 rfl hW' hf rfl rfl rfl⟩

theorem lifted (os : Os) (started : os.Started) (H : Type) (enc : TypeId × Value → H) (F : Stop.Interp) :
    ReturnsInHanded {} Try.checked os 9 .any ((Rows.OpenSpec.upto Rows.namesSpec).pre6 enc Try.prog Try.f9 Rows.namesUptoRow.domain false) (((Rows.OpenSpec.upto Rows.namesSpec).at F).post enc Try.prog Try.f9 false true false false) := by
  refine returnsInHanded_of_cond (C := Try.checked) (s := Rows.OpenSpec.upto Rows.namesSpec) (k := Rows.uptoSmall) rfl La.own started (by kernel_rfl) Try.func9
    (OpenSpec.witness (enc := enc) (C := Try.checked) (s := Rows.OpenSpec.upto Rows.namesSpec) (k := Rows.uptoSmall) rfl false ⟨#[], #[], []⟩ 8 (by kernel_rfl) (by kernel_rfl) (by kernel_rfl)
      (x := ([], [], [])) (by kernel_rfl) rfl (by kernel_rfl)) ?_
  intro W base args ds gs before hval hW _ hk _
  exact contract H enc W base args ds gs before hval hW

theorem over : Rows.namesUptoRow.holds Try.pinned (Rows.OpenSpec.upto Rows.namesSpec) :=
  OpenClaim.holds_of_cond 9 Try.f9 rfl rfl rfl rfl rfl rfl rfl ⟨rfl, rfl, rfl, rfl, rfl⟩ rfl rfl rfl rfl rfl (by kernel_rfl) Try.func9 (by kernel_rfl)
    (of_decide_eq_true (by kernel_rfl)) (by unfold Func.isWrapper; first | (rw [if_pos (by decide +kernel)]; kernel_rfl) | (rw [if_neg (by decide +kernel)]; exact ⟨rfl, rfl⟩))
    (fun os started H enc _ F => lifted os started H enc F)

theorem proved : Rows.NamesUptoSaid :=
  over
end Go.Proofs.Ytkbphnddfgjjnaa.names
