/-
  Rows among the blocks known: an append onto one of them.
-/
import Derived.Test.YtkgfbphdmnapdaaGreatDoorBase
namespace Go.Vc
open Go Go.RowKit

section
variable {w0 w w' : World} {S : Nat → Prop} {Γ Γ' : List Blk} {b : Nat} {cs xs rest : List Value} {e : TypeId} {l c sz : Nat}

/-- Fewer blocks known. -/
theorem Hp.sub (H : Hp w0 S w Γ) (h : Γ'.Sublist Γ) : Hp w0 S w Γ' :=
  ⟨H.chg, fun p hp => H.is p (h.subset hp), List.Pairwise.sublist (h.map (·.b)) H.nd, fun p hp => H.own p (h.subset hp)⟩
end
end Go.Vc

