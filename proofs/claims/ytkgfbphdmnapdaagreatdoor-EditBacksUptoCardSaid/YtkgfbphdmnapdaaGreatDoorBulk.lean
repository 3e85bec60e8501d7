/-
  What the bound of a statement 'Upto' says of the lengths of what came in.
-/
import Derived.Test.YtkgfbphdmnapdaaGreatDoorRows
import Derived.Test.YtkgfbphdmnapdaaGreatDoorLift
namespace Go.Proofs.YtkgfbphdmnapdaaGreatDoor
open Go Go.Vc Go.WideShapes

theorem bulk_pos {H : Type} (d : DataW H) : 1 ≤ Rows.uptoBulk d := by
  cases d with
  | lit l => cases l <;> simp [Rows.uptoBulk]
  | _ => simp [Rows.uptoBulk]
theorem bulk_count {H : Type} : ∀ (l : List (DataW H)), l.length ≤ Rows.uptoBulkAll l
  | [] => by simp
  | x :: r => by
    have := bulk_pos x; have := bulk_count r
    simp only [Rows.uptoBulkAll, List.length_cons]; omega
theorem bulk_slice {H : Type} {enc : TypeId × Value → H} {P : Program} {w : World} {t e : TypeId} {p : Option Addr} {l c : Nat} {d : DataW H} {ps : List MemPlace} (ht : P.underlying t = some (.slice e))
    (ho : DataW.Trod enc P w 0 (fun _ => true) true t (.slice p l c) d ps) : l ≤ Rows.uptoBulk d := by
  obtain ⟨fuel, hf⟩ := ho
  rcases DataW.trod_slice ht hf with ⟨h, _⟩ | ⟨a, len, cap, elems, rest, n, _, h, hxe, _, _, _, hel, _, _, _⟩
  · simp [Value.cells] at h
    omega
  · simp [Value.cells] at h
    obtain ⟨_, rfl, _⟩ := h
    have hd : d = .slice (elems.map (·.1)) (rest.map (·.1)) := by first | exact congrArg Prod.fst hxe | simpa using hxe | (cases hxe; rfl)
    subst hd
    have := bulk_count (elems.map (·.1))
    rw [List.length_map, hel] at this
    simp only [Rows.uptoBulk]
    omega
theorem bulk_string {H : Type} {enc : TypeId × Value → H} {P : Program} {w : World} {t : TypeId} {s : ByteArray} {d : DataW H} {ps : List MemPlace} (ht : P.underlying t = some .string)
    (ho : DataW.Trod enc P w 0 (fun _ => true) true t (.string s) d ps) : s.size + 1 ≤ Rows.uptoBulk d := by
  obtain ⟨fuel, hf⟩ := ho
  obtain ⟨s2, h1, hx, _⟩ := DataW.trod_string ht hf
  have e : s = s2 := by simpa [Value.cells] using h1
  subst e
  have hd : d = .lit (.string s.data.toList) := by first | exact hx | exact congrArg Prod.fst hx
  subst hd
  simp only [Rows.uptoBulk]
  have : s.data.toList.length = s.size := rfl
  omega
theorem bulk_all {H : Type} {l : List (DataW H)} (hk : Rows.uptoSmall H l = true) : Rows.uptoBulkAll l ≤ 1048576 := of_decide_eq_true hk
end Go.Proofs.YtkgfbphdmnapdaaGreatDoor

