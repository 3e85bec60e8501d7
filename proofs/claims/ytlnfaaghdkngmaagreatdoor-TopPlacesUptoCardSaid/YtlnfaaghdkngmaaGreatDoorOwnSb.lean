/-
  What ties the card, part 2.
-/
import Derived.Test.YtlnfaaghdkngmaaGreatDoorRows
import Derived.LaidByTextLater
import Derived.SevenTiedAt
import Derived.Deep.DeepHandedRow
import Derived.JoinedCond
import Derived.Stop.Joined
import Derived.ProofKit
set_option maxRecDepth 100000
namespace Go.Proofs.YtlnfaaghdkngmaaGreatDoor
open Go
theorem sHall : ([27, 28, 27, 9].all fun u => !Tryz.prog.wantsStandIn u) = true := by kernel_rfl
theorem sGoes : false = Rows.topPlacesUptoRow.goesBy Tryz.pinned.checked.prog := by kernel_rfl
end Go.Proofs.YtlnfaaghdkngmaaGreatDoor
