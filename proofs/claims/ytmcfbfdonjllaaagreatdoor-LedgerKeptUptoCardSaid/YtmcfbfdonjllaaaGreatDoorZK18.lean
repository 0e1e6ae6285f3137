/- Texts of this claim, part 18: RJud. No condition. -/
import Derived.Test.YtmcfbfdonjllaaaGreatDoorZK17
import Derived.Test.YtmcfbfdonjllaaaGreatDoorZK10
set_option maxRecDepth 10000
set_option maxHeartbeats 4000000
set_option linter.unusedSimpArgs false
set_option linter.unusedVariables false
namespace La
open Go Go.Eng Go.Proofs
theorem qH {α:Type} {n:Int} {v:α} (kvs:List (Int×α)) (k:Int):bF (bY kvs n v) k=if k=n then some v else bF kvs k:=by
 induction kvs with
 | nil=>
  simp only[bY,bF]
  by_cases e:n=k
  ·rw[if_pos e,if_pos e.symm]
  ·rw[if_neg e,if_neg (λh=>e h.symm)]
 | cons p r ih=>
  simp only[bY];split
  ·rename_i hp;simp only[bF]
   by_cases e:n=k
   ·rw[if_pos e,if_pos e.symm]
   ·rw[if_neg e,if_neg (λh=>e h.symm),if_neg z7]
  ·split
   ·simp only[bF]
    by_cases e:n=k
    ·rw[if_pos e,if_pos e.symm]
    ·rw[if_neg e,if_neg (λh:k=n=>e h.symm)]
   ·simp only[bF]
    by_cases e:p.1=k
    ·rw[if_pos e,if_neg z7,if_pos e]
    ·rw[if_neg e,ih,if_neg e]
end La
