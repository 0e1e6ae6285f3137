/- Texts of this claim, part 20: RJud. No condition. -/
import Derived.Test.YtmcfbfdonjllaaaGreatDoorYW17
set_option maxRecDepth 10000
set_option maxHeartbeats 4000000
set_option linter.unusedSimpArgs false
set_option linter.unusedVariables false
namespace La
open Go Go.Eng Go.Proofs
end La
