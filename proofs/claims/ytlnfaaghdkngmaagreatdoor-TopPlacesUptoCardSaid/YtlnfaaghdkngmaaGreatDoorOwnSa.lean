/-
  What ties the card, part 1.
-/
import Derived.Test.YtlnfaaghdkngmaaGreatDoorRows
import Derived.LaidByTextLater
import Derived.SevenTiedAt
import Derived.Deep.DeepHandedRow
import Derived.JoinedCond
import Derived.Stop.Joined
import Derived.ProofKit
set_option maxRecDepth 100000
namespace Go.Proofs.YtlnfaaghdkngmaaGreatDoor
open Go
theorem sWf : Rows.topPlacesUptoRow.wfByText (Rows.OpenSpec.upto Rows.topPlacesSpec) = true := by kernel_rfl
theorem sMain : Tryz.pinned.checked.prog.mainIs = some (true, "3a0bf9a078ea10de296726696762c660bcb27b87321e2123f6863c70079e8844".toList) := by kernel_rfl
theorem sLooks : true = Tryz.pinned.checked.prog.looks [] := by kernel_rfl
end Go.Proofs.YtlnfaaghdkngmaaGreatDoor
