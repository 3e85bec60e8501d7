/-
  What ties the card, part 1.
-/
import Derived.Test.YtjlgopfceebdcaaGreatDoorRows
import Derived.LaidByTextLater
import Derived.SevenTiedAt
import Derived.Deep.DeepHandedRow
import Derived.JoinedCond
import Derived.Stop.Joined
import Derived.ProofKit
set_option maxRecDepth 100000
namespace Go.Proofs.YtjlgopfceebdcaaGreatDoor
open Go
theorem sWf : Rows.topValuesUptoRow.wfByText (Rows.OpenSpec.upto Rows.topValuesSpec) = true := by kernel_rfl
theorem sMain : Tryz.pinned.checked.prog.mainIs = some (true, "ad03e893fa0a53a4fbe0031d192dba7c4e74b1d8c8cc080f85ce51f42831f212".toList) := by kernel_rfl
theorem sLooks : true = Tryz.pinned.checked.prog.looks [] := by kernel_rfl
end Go.Proofs.YtjlgopfceebdcaaGreatDoor
