/-
  Plain facts: numbers as bytes, the sum of bytes, and that one byte turned turns the sum.
-/
import Derived.Test.YtkgfbphdmnapdaaGreatDoorRows2
namespace Go.Vc
open Go

/-! ## Numbers as bytes, the highest first -/

/-! ## The sum -/

/-! ## Words of 32 and 64 bits -/

end Go.Vc

