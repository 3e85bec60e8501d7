/- What the statement needs, part 8. -/
import Derived.Test.YtlnfaaghdkngmaaGreatDoorZ7
set_option linter.unusedSectionVars false
set_option linter.unusedVariables false
set_option linter.unusedSimpArgs false
set_option maxRecDepth 100000
open List
section
namespace Go.Proofs.YtlnfaaghdkngmaaGreatDoor
open Go Go.Vc
noncomputable def readsRun : Bool := match (evC Tryz.prog evTab.get orc 300).2 ZxN [] .lf 64 with
 | some (.bool true, _, _) => true
 | _ => false
theorem reads_run : readsRun = true := by kernel_rfl
end Go.Proofs.YtlnfaaghdkngmaaGreatDoor
end
