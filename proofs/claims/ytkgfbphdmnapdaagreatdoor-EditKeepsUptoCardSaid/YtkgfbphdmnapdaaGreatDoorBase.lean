/-
  What every package of this program wants: rows of bytes and of bools, literals, copies of slices.
-/
import Derived.Test.YtkgfbphdmnapdaaGreatDoorNm
import Derived.Test.YtkgfbphdmnapdaaGreatDoorRows2
import Derived.KernelRfl
import Derived.Lib.SlBytesConst
namespace Go.Proofs.YtkgfbphdmnapdaaGreatDoor
open Go Go.Vc

/-- A literal of several values. -/
theorem newRow {w : World} {e : TypeId} {cs : List Value} {sz n : Nat} {K : Nat → World → Prop} (hn : cs.length = n * sz) (hm : n ≤ maxLen)
    (k : ∀ b w', Row w' e sz (some ⟨b, 0, none⟩) n n cs → w.heap.size ≤ b → Chg No w w' → K b w') : newB w (.cells ⟨cs⟩ e) K :=
  (Hp.start w No).newB fun b w' H hb hc => k b w' (H.asRow 0 rfl (rest := []) (by simp) hn (Nat.le_refl _) hm hn) hb hc

end Go.Proofs.YtkgfbphdmnapdaaGreatDoor

