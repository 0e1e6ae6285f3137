/- Texts of this claim, part 16: RApply. No condition. -/
import Derived.Test.YtmcfbfdonjllaaaGreatDoorZK15
set_option maxRecDepth 10000
set_option maxHeartbeats 4000000
set_option linter.unusedSimpArgs false
set_option linter.unusedVariables false
namespace La
open Go Go.Eng Go.Proofs
structure RFit (l:List Node) (a:Act):Prop where
 ri:Ri l
 ent:∀n,n∈l->n.entries.length≤9999990
 len:l.length≤100000000
 all:(GY (qG l)).length≤90000000
 name:a.name.length≤100000000
 toName:a.toName.length≤100000000
 data:a.data.length≤100000000
end La
