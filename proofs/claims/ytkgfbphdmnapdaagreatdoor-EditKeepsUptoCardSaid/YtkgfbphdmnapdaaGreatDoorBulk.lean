/-
  What the bound of a statement 'Upto' says of the lengths of what came in.
-/
import Derived.Test.YtkgfbphdmnapdaaGreatDoorRows
import Derived.Test.YtkgfbphdmnapdaaGreatDoorLift
namespace Go.Proofs.YtkgfbphdmnapdaaGreatDoor
open Go Go.Vc Go.WideShapes

theorem bulk_pos {H : Type} (d : DataW H) : 1 ≤ Rows.uptoBulk d := by
  cases d with
  | lit l => cases l <;> simp [Rows.uptoBulk]
  | _ => simp [Rows.uptoBulk]
theorem bulk_all {H : Type} {l : List (DataW H)} (hk : Rows.uptoSmall H l = true) : Rows.uptoBulkAll l ≤ 1048576 := of_decide_eq_true hk
end Go.Proofs.YtkgfbphdmnapdaaGreatDoor

