/-
  Sorting, plain: what swaps within a part do; a merge by turning; blocks.
-/
set_option linter.unusedVariables false
set_option linter.unusedSimpArgs false
set_option linter.unusedSectionVars false
namespace Go.Vc
section
variable {α : Type} [Inhabited α]
/-- A list as a function of the place. -/
def pf (X : List α) : Nat → α := fun k => X.getD k default
theorem pf_get {X : List α} {i : Nat} (h : i < X.length) : X[i]? = some (pf X i) := by
  unfold pf; rw [List.getD_eq_getElem?_getD, List.getElem?_eq_getElem h]; rfl
variable {a b c d : Nat} {X Y Z : List α}
/-! ### An order -/
variable {lt : α → α → Bool}
/-! ### Turning -/
end
end Go.Vc

