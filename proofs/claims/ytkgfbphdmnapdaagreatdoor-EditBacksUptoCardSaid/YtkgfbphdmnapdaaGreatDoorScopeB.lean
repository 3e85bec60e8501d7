/-
  Package scope: Open, Bound, Element.
-/
import Derived.Test.YtkgfbphdmnapdaaGreatDoorScope
set_option linter.unusedVariables false
set_option linter.unusedSimpArgs false
namespace Go.Proofs.YtkgfbphdmnapdaaGreatDoor
open Go Go.Vc Go.Lib

section
variable {w : World}

/-- What stands in a name that is answered. -/
theorem nameAns {w0 w1 : World} {b : Nat} {Γ : List Blk} {u l : ByteArray} {cs : List Value} {e : TypeId} {K : ByteArray → ByteArray → World → Prop} (i : Nat) (H : Hp w0 No w1 Γ) (hi : Γ[i]? = some ⟨b, cs, e⟩) (hl : cs.length = 2) (k : ∀ w', Chg No w0 w' → K u l w') :
    stN w1 ⟨b, 0, none⟩ ⟨[.string u, .string l]⟩ 2 fun w4 => ldStr w4 ⟨b, 0, none⟩ fun r0 => ldStr w4 ⟨b, 1, none⟩ fun r1 => K r0 r1 w4 := by
  refine H.stN i hi (off := 0) rfl (by omega) (one1_pr (u, l)) fun w4 H4 _ => ?_
  have e5 : splice cs 0 (pr (u, l)) = pr (u, l) := splice_all (by rw [hl]; rfl)
  have hlt := (List.getElem?_eq_some_iff.1 hi).1
  have hg : (Γ.set i ⟨b, splice cs 0 (pr (u, l)), e⟩)[i]? = some ⟨b, pr (u, l), e⟩ := by rw [List.getElem?_set_self hlt, e5]
  refine H4.ldStr i hg (off := 0) rfl ?_
  refine H4.ldStr i hg (off := 1) rfl ?_
  exact k w4 H4.chg

theorem openP_drop {L : List Pr} {i : Nat} {x : Pr} (h : L[i]? = some x) (had : List ByteArray) (B : List Pr) : openP (L.drop i) had B = match decl x with
    | none => openP (L.drop (i + 1)) had B
    | some p => if wrongZ p x.2 ≠ 0 then ([], wrongZ p x.2) else if memB p had = true then ([], 27) else openP (L.drop (i + 1)) (had ++ [p]) (putP B p x.2) := by
  obtain ⟨g1, g2⟩ := List.getElem?_eq_some_iff.1 h
  rw [List.drop_eq_getElem_cons g1, g2]; rfl

end
end Go.Proofs.YtkgfbphdmnapdaaGreatDoor

