/-
  Chapter 1's helpers of the statements: Same, Spare, Kept.
-/
import Derived.Test.YtkgfbphdmnapdaaGreatDoorVRef01
import Derived.Test.YtkgfbphdmnapdaaGreatDoorBase
namespace Go.Proofs.YtkgfbphdmnapdaaGreatDoor
open Go Go.Vc

section
variable {w : World}

end

end Go.Proofs.YtkgfbphdmnapdaaGreatDoor

