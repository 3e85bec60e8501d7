/-
  Package scope: Open, Bound, Element.
-/
import Derived.Test.YtkgfbphdmnapdaaGreatDoorScope
set_option linter.unusedVariables false
set_option linter.unusedSimpArgs false
namespace Go.Proofs.YtkgfbphdmnapdaaGreatDoor
open Go Go.Vc Go.Lib

section
variable {w : World}

end
end Go.Proofs.YtkgfbphdmnapdaaGreatDoor

