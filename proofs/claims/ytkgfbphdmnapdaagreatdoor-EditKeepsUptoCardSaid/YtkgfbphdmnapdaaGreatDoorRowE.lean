/-
  Rows of pieces of several cells that are the call's own: a piece is written, the end is cleared.
-/
import Derived.Test.YtkgfbphdmnapdaaGreatDoorBase
namespace Go.Vc
open Go Go.RowKit

section
variable {w : World} {α : Type} {f : α → List Value} {sz : Nat} {e : TypeId}
/-- clear(s[i:]), then s[:i]. -/
theorem clr_row {P : Program} {t : TypeId} {by_ : Nat} {z : Array Value} (T : SlT P t e sz by_ z) (hz1 : one1 z.toList) {p : Option Addr} {l c i : Nat} {A Z : List Value} (hr : Row w e sz p l c (A ++ Z)) (hA : A.length = i * sz) (hi : i < l) {K : World → Prop}
    (k : ∀ w', Row w' e sz p i c A → Chg (isB p) w w' → K w') :
    slS p l c sz (some (i : Int)) none none fun q m d => clrJ P t (.slice q m d) w K := by
  obtain ⟨b, rest, rfl, hh, hle, hmax, hlen⟩ := hr.some0 (by omega)
  obtain ⟨ti, v, hti, hz, hsz, hby, hv⟩ := T.info
  refine ⟨i, l, c, rfl, rfl, rfl, by omega, hle, Nat.le_refl _, ?_⟩
  rw [if_neg (show ¬ c = i by omega)]
  simp only [Option.map_some, Addr.add_mk, Nat.zero_add]
  obtain ⟨m, hm⟩ : ∃ m, l - i = m + 1 := ⟨l - i - 1, by omega⟩
  have hl := hr.len
  rw [List.length_append, hA] at hl
  have hZ : Z.length = (l - i) * sz := by rw [Nat.sub_mul]; omega
  have hbig : i * sz + (l - i) * sz ≤ (A ++ Z ++ rest).length := by
    rw [List.length_append, List.length_append, hA, hZ]; omega
  generalize hcs : A ++ Z ++ rest = cs at *
  have hzl : ((List.replicate (l - i) z.toList).flatten).length = (l - i) * sz := by
    rw [List.length_flatten, List.map_replicate, List.sum_replicate_nat, Array.length_toList, T.hz]
  have hone : one1 (List.replicate (l - i) z.toList).flatten := by
    intro x hx
    obtain ⟨y, hy, hxy⟩ := List.mem_flatten.1 hx
    rw [(List.mem_replicate.1 hy).2] at hxy
    exact hz1 x hxy
  have hcan : ∀ j, j < ((List.replicate (l - i) z.toList).flatten).length → canW w ((⟨b, i * sz, none⟩ : Addr).add (0 + j)) := by
    intro j hj
    rw [hzl] at hj
    rw [Addr.add_mk]
    exact ⟨⟨cs[i * sz + (0 + j)]'(by omega), by rw [cell_of_row w b _ _ e (0, 0) hh]; simp⟩, frozen_of_row w b _ _ e hh⟩
  have hrun := run_storeCells (P := P) _ 0 w ⟨b, i * sz, none⟩ hone hcan
  refine ⟨setCells w ⟨b, i * sz, none⟩ 0 (List.replicate (l - i) z.toList).flatten, fun ty => ?_, ?_⟩
  · have hzc : (Builtin.zeroCells v.cells (m + 1)).toList = (List.replicate (l - i) z.toList).flatten := by
      unfold Builtin.zeroCells
      rw [hv, zrow_eq z (m + 1), hm]
    rw [hm] at hrun ⊢
    rw [hm] at hzc
    simp only [Builtin.clear_, List.getElem?_toArray, List.getElem?_cons_zero, Sem.run_bind, run_underlying T.hu, Result.andThen_ok, zeroValue, typeInfo, run_program, hti, hz, Sem.run_pure, hzc, hrun]
  · rw [setCells_row _ 0 (i * sz) cs w hh (by rw [hzl]; omega)]
    have e1 : cs.take (i * sz + 0) ++ (List.replicate (l - i) z.toList).flatten ++ cs.drop (i * sz + 0 + (List.replicate (l - i) z.toList).flatten.length) = A ++ ((List.replicate (l - i) z.toList).flatten ++ rest) := by
      rw [← hcs, hzl, Nat.add_zero, List.append_assoc A Z rest, ← hA, List.take_left, List.append_assoc]
      congr 2
      rw [← List.drop_drop, List.drop_left, ← hZ, List.drop_left]
    rw [e1]
    have H := (Hp.start w (isB (some ⟨b, 0, none⟩))).add hh (by simp) (fun _ => ⟨_, rfl, rfl⟩)
    have H' := H.row 0 rfl (A ++ ((List.replicate (l - i) z.toList).flatten ++ rest))
    simp only [List.set_cons_zero] at H'
    refine k _ (H'.asRow 0 rfl rfl hA (by omega) hmax ?_) H'.chg
    rw [← hlen, ← hcs]
    simp only [List.length_append, hzl, hZ]; omega
end
end Go.Vc

