/-
  Package scope: what is declared, what a prefix stands for, the name of an element.
-/
import Derived.Test.YtkgfbphdmnapdaaGreatDoorVScope
import Derived.Test.YtkgfbphdmnapdaaGreatDoorChrB
import Derived.Test.YtkgfbphdmnapdaaGreatDoorRowE
set_option linter.unusedVariables false
set_option linter.unusedSimpArgs false
namespace Go.Vc
open Go Go.Lib
abbrev Pr := ByteArray × ByteArray
def pr (x : Pr) : List Value := [.string x.1, .string x.2]
theorem beqS (x y : ByteArray) : (x.toList == y.toList) = decide (x = y) := by
  rw [toList_bl, toList_bl, Bool.eq_iff_iff, beq_iff_eq, decide_eq_true_eq]
  exact ⟨bl_ext, fun h => by rw [h]⟩
def mkB (l : List UInt8) : ByteArray := ⟨l.toArray⟩
theorem bl_mkB (l : List UInt8) : bl (mkB l) = l := by simp [bl, mkB]
end Go.Vc
namespace Go.Proofs.YtkgfbphdmnapdaaGreatDoor
open Go Go.Vc Go.Lib

section
variable {w : World}

end
end Go.Proofs.YtkgfbphdmnapdaaGreatDoor

