/- Facts of this seat's program, and its rows of numbers. No condition. -/
import Derived.Test.YtldpfleilffanaaTab
import Derived.Test.YtldpfleilffanaaMod
import Derived.Test.YtldpfleilffanaaEngQ
import Derived.Test.YtldpfleilffanaaRows
import Derived.JoinedCond
import Derived.ReadAgain
namespace La
open Go Go.Eng Go.Proofs

theorem mixed : (Try.prog).follows .mixedOrders = true := by kernel_rfl
theorem own : ownKnob Try.prog.godebug = none := by kernel_rfl
theorem laid : laidOutB Try.prog = true := by kernel_rfl
theorem rowed : mapsRowed Try.prog = true := by kernel_rfl
theorem full : ∀ t e, t < Try.prog.types.size → Try.prog.underlying t = some (.slice e) → 0 < Try.prog.cellsOf e := slices_full_of _ (by kernel_rfl)

theorem rows_as {l : List (List AV)} (L : List Int) (h : L.map (fun n => [AV.int .i64 n]) = l) : ∃ rows, l = rows ∧ rows.length = L.length ∧ ∀ i, i < L.length → rows.getD i [] = [.int .i64 (L.getD i 0)] := by
  subst h
  refine ⟨_, rfl, by simp, fun i hi => ?_⟩
  rw [List.getD_eq_getElem?_getD, List.getElem?_map, List.getD_eq_getElem?_getD, List.getElem?_eq_getElem hi]; rfl
end La
