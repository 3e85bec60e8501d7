/-
  The tie, part 1: the words of the program.
-/
import Derived.Test.YtlnfaaghdkngmaaGreatDoorRows
import Derived.LaidByTextLater
import Derived.SevenTiedAt
import Derived.LaidSub
import Derived.LaidOnce
set_option maxRecDepth 100000
namespace Go.Proofs.YtlnfaaghdkngmaaGreatDoor
open Go
theorem ownW : Tryz.prog.worded (varsWordLater true) = true := by kernel_rfl
theorem ownW2 : Tryz.prog.worded (varsWordLater !true) = false := by kernel_rfl
theorem ownR : Tryz.prog.worded rootWordLater = true := by kernel_rfl
theorem ownG : (Tryz.prog.funcNamed "gosem.cut.vars").isSome = true := by kernel_rfl
end Go.Proofs.YtlnfaaghdkngmaaGreatDoor
