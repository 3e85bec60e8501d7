/-
  What the bound of a statement 'Upto' says of what came in, measured: slices within slices, strings.
-/
import Derived.Test.YtkgfbphdmnapdaaGreatDoorBulk
namespace Go.Proofs.YtkgfbphdmnapdaaGreatDoor
open Go Go.Vc Go.WideShapes

section
variable {H : Type} {enc : TypeId × Value → H} {P : Program} {w : World}
/-- As 'Rd', and a measure of it that the bound bounds. -/
def RdM (P : Program) (w : World) (t : TypeId) {α : Type} (f : α → List Value) (good : α → Prop) (mea : α → Nat) : Prop :=
  ∀ (H : Type) (enc : TypeId × Value → H) (fuel : Nat) (cs : List Value) (x : DataW H × List MemPlace), DataW.trod enc P w 0 (fun _ => true) true fuel t cs = some x →
    (∀ n ∈ DataW.weights P t x.1, n ≤ reachBytes) → ∃ a, cs = f a ∧ good a ∧ mea a ≤ Rows.uptoBulk x.1
theorem RdM.of {t : TypeId} {α : Type} {f : α → List Value} {good : α → Prop} (h : Rd P w t f good) : RdM P w t f good (fun _ => 1) := by
  intro H enc fuel cs x hx hw
  obtain ⟨a, ha, ga⟩ := h H enc fuel cs x hx hw
  exact ⟨a, ha, ga, bulk_pos _⟩
theorem bulkAll_sum {H : Type} : ∀ (l : List (DataW H)), Rows.uptoBulkAll l = (l.map Rows.uptoBulk).sum
  | [] => by simp [Rows.uptoBulkAll]
  | x :: r => by simp [Rows.uptoBulkAll, bulkAll_sum r]
theorem sum_le_sum : ∀ {a b : List Nat}, a.length = b.length → (∀ (i : Nat) (x y : Nat), a[i]? = some x → b[i]? = some y → x ≤ y) → a.sum ≤ b.sum
  | [], [], _, _ => Nat.le_refl _
  | [], _ :: _, h, _ => by simp at h
  | _ :: _, [], h, _ => by simp at h
  | x :: a, y :: b, h, k => by
    have h1 := k 0 x y rfl rfl
    have h2 := sum_le_sum (a := a) (b := b) (by simpa using h) (fun i u v hu hv => k (i + 1) u v (by simpa using hu) (by simpa using hv))
    simp only [List.sum_cons]
    omega
theorem RdM.open {t : TypeId} {α : Type} {f : α → List Value} {good : α → Prop} {mea : α → Nat} (h : RdM P w t f good mea) {v : Value} {d : DataW H} {ps : List MemPlace} (ho : DataW.Trod enc P w 0 (fun _ => true) true t v d ps)
    (hw : ∀ n ∈ DataW.weights P t d, n ≤ reachBytes) : ∃ a, v.cells.toList = f a ∧ good a ∧ mea a ≤ Rows.uptoBulk d := by
  obtain ⟨fuel, hf⟩ := ho
  exact h H enc fuel _ _ hf hw
end
end Go.Proofs.YtkgfbphdmnapdaaGreatDoor

