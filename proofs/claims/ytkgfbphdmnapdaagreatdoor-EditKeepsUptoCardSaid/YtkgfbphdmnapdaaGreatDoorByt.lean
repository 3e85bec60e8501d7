/-
  Small words on rows of bytes (of no one package).
-/
import Derived.Test.YtkgfbphdmnapdaaGreatDoorBase
import Derived.Test.YtkgfbphdmnapdaaGreatDoorCrc
namespace Go.Vc
open Go Go.RowKit

end Go.Vc
namespace Go.Proofs.YtkgfbphdmnapdaaGreatDoor
open Go Go.Vc

section
variable {w : World}
theorem cutB {q : Option Addr} {m d : Nat} {b : List UInt8} (h : Bytes w q m b) {i j : Nat} (hij : i ≤ j) (hj : j ≤ m) (hd : m ≤ d) {oi oj : Option Int} (e1 : oi.getD 0 = (i : Int)) (e2 : oj.getD m = (j : Int)) {K : Option Addr → Nat → Nat → Prop}
    (k : ∀ q', Bytes w q' (j - i) ((b.drop i).take (j - i)) → (q' = none → j - i = 0) → K q' (j - i) (d - i)) : slS q m d 1 oi oj none K := by
  refine slS_sl (i := i) (j := j) h e1 e2 hij hj hd fun q' hq _ => ?_
  have hq' : Bytes w q' (j - i) ((b.drop i).take (j - i)) := by
    have e : ((bcells b).drop (i * 1)).take ((j - i) * 1) = bcells ((b.drop i).take (j - i)) := by
      unfold bcells; rw [Nat.mul_one, Nat.mul_one, ← List.map_drop, ← List.map_take]
    rw [e] at hq; exact hq
  refine k q' hq' fun h0 => ?_
  by_cases hz : j - i = 0
  · exact hz
  · obtain ⟨a, ha, _⟩ := Sl.at hq' hz; rw [h0] at ha; cases ha

end

end Go.Proofs.YtkgfbphdmnapdaaGreatDoor

