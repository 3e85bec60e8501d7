/-
  What closes the row, part 1.
-/
import Derived.Test.YtlnfaaghdkngmaaGreatDoorRows
import Derived.LaidByTextLater
import Derived.SevenTiedAt
import Derived.Deep.DeepHandedRow
import Derived.JoinedCond
import Derived.Stop.Joined
import Derived.ProofKit
set_option maxRecDepth 100000
namespace Go.Proofs.YtlnfaaghdkngmaaGreatDoor
open Go
theorem oFn : Tryz.pinned.checked.prog.funcNamed Rows.topPlacesUptoRow.func = some 3 := by kernel_rfl
theorem oInst : Tryz.f3.isInstance Tryz.pinned.checked.prog Rows.topPlacesUptoRow.origin Rows.topPlacesUptoRow.targs := of_decide_eq_true (by kernel_rfl)
theorem oWrap : Tryz.f3.isWrapper Tryz.pinned.checked.prog Rows.topPlacesUptoRow.wrapper Rows.topPlacesUptoRow.mainSum := by unfold Func.isWrapper; first | (rw [if_pos (by decide +kernel)]; kernel_rfl) | (rw [if_neg (by decide +kernel)]; exact ⟨rfl, rfl⟩)
end Go.Proofs.YtlnfaaghdkngmaaGreatDoor
