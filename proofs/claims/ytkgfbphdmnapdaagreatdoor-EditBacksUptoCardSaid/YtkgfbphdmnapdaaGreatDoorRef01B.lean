/-
  Chapter 1's helpers of the statements: Same, Spare, Kept.
-/
import Derived.Test.YtkgfbphdmnapdaaGreatDoorVRef01
import Derived.Test.YtkgfbphdmnapdaaGreatDoorBase
namespace Go.Proofs.YtkgfbphdmnapdaaGreatDoor
open Go Go.Vc

section
variable {w : World}

/-- What Spare answers holds the bytes. -/
theorem spare_bytes {p : Option Addr} {l c : Nat} {bs : List UInt8} (h : Row w T_uint8 1 p (l + 1) c (bcells (bs ++ [165]))) (hl : bs.length = l) : Bytes w p l bs := by
  have hs := h.sl
  refine ⟨by simp [bcells, hl], ?_⟩
  obtain ⟨a, hpa, hc⟩ := hs.at (by omega)
  refine .inr ⟨a, hpa, ?_⟩
  have := cellsAt_take l hc
  have e : (bcells (bs ++ [165])).take l = bcells bs := by
    rw [show bcells (bs ++ [165]) = bcells bs ++ [Value.int .u8 165] from by simp [bcells]]
    exact List.take_left' (by simp [bcells, hl])
  rwa [e] at this
end

end Go.Proofs.YtkgfbphdmnapdaaGreatDoor

