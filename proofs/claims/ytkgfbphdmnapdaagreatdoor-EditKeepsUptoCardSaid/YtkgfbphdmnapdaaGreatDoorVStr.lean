/- What the conditions of these functions are, reckoned by the reading; printed by program. -/
import Derived.Test.YtkgfbphdmnapdaaGreatDoorNm
import Derived.KernelRfl
set_option maxRecDepth 100000
set_option linter.unusedVariables false
namespace Go.Proofs.YtkgfbphdmnapdaaGreatDoor
open Go Go.Vc

end Go.Proofs.YtkgfbphdmnapdaaGreatDoor
