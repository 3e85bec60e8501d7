/- ReadsE -/
import Derived.Test.YtmnbgcgealpcbaaGreatDoorEvi
import Derived.KernelRfl
/-
  reads(): run whole by the evaluator, and read off.
-/
set_option maxRecDepth 100000
namespace Go.Proofs.YtmnbgcgealpcbaaGreatDoor
open Go Go.Vc
noncomputable def readsRun : Bool := match (evC Tryz.prog evTab.get orc 300).2 fn_top_reads [] .lf 64 with
  | some (.bool true, _, _) => true
  | _ => false
theorem reads_run : readsRun = true := by kernel_rfl
end Go.Proofs.YtmnbgcgealpcbaaGreatDoor

