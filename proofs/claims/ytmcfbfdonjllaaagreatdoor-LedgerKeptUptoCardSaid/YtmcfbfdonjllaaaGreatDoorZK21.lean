/- Texts of this claim, part 21: RAct. No condition. -/
import Derived.Test.YtmcfbfdonjllaaaGreatDoorZK20
set_option maxRecDepth 10000
set_option maxHeartbeats 4000000
set_option linter.unusedSimpArgs false
set_option linter.unusedVariables false
namespace La
open Go Go.Eng Go.Proofs
variable {Fa:Prop}
end La
