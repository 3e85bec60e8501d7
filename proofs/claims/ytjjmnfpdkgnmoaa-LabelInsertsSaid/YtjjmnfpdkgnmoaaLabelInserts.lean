/-
  The statement 'LabelInserts' of this seat: whatever the input, the law returns true, and the input reads as it did. No condition.
-/
import Derived.Test.YtjjmnfpdkgnmoaaLabIns
import Derived.Test.YtjjmnfpdkgnmoaaRd12
import Derived.Test.YtjjmnfpdkgnmoaaRows
import Derived.ProofKit
import Derived.OpenShut
import Derived.ShutString
import Derived.ChangeOld
import Derived.Below
import Derived.SizedLaws
set_option linter.unusedVariables false
set_option linter.unusedSimpArgs false
namespace Go.Proofs.Ytjjmnfpdkgnmoaa
open Go Go.Vc Go.ChangeShapes Go.WideShapes Go.ChangeAt Go.RowKit Go.ChangeMaps

theorem labelInserts_own : ownKnob Try.prog.godebug = none := by kernel_rfl
theorem labelInserts_laid : laidOutB Try.prog = true := by kernel_rfl

set_option maxRecDepth 100000 in
theorem labelInserts_lifted (os : Os) (started : os.Started) (H : Type) (enc : TypeId × Value → H) :
    ReturnsInHanded {} Try.checked os 6 .any (Rows.labelInsertsSpec.pre6 enc Try.prog Try.f6 Rows.labelInsertsRow.domain false) (Rows.labelInsertsSpec.post enc Try.prog Try.f6 false true false false) := by
  refine returnsInHanded_of_change_sized (C := Try.checked) labelInserts_own started (by kernel_rfl) Try.func6
    (ChangeSpec.witness6 (enc := enc) (C := Try.checked) false ⟨#[], #[.slice none 0 0, .slice none 0 0], []⟩ 8 (by kernel_rfl) (by kernel_rfl) (by kernel_rfl) (by kernel_rfl)) ?_
  intro W base args ds gs before hval0 hW hcnd hz _
  have hval : ∀ (j : Nat) t v, Try.f6.params[j]? = some t → args[j]? = some v → Value.okWide Try.prog W .any base t v := hval0
  have hW' := hW
  obtain ⟨p, q, hA0, hV, rfl, hfz, hnd⟩ := hW
  have hA : DataW.TrodAll enc Try.prog W 0 (fun _ => true) true Try.f6.params.toList args.toList ds p := hA0
  rw [Try.params6] at hA hval
  have hz2 : ((DataW.weightsEach Try.prog ([22, 22] : List TypeId) (ds ++ gs)).all (· ≤ reachBytes)) = true := by rw [show ([22, 22] : List TypeId) = Try.f6.params.toList ++ Rows.labelInsertsSpec.plain.varTypes Try.prog from by kernel_rfl]; exact hz
  obtain ⟨v0, vs0, d0, ds0, p0, q0, hargs, rfl, rfl, h0, r0⟩ := trodAll_cons hA
  obtain ⟨v1, vs1, d1, ds1, p1, q1, rfl, rfl, rfl, h1, r1⟩ := trodAll_cons r0
  obtain ⟨rfl, rfl, rfl⟩ := trodAll_nil r1
  obtain rfl : args = #[v0, v1] := by cases args; simp_all
  obtain ⟨rfl, rfl⟩ := trodVars_none hV
  have lt0 : ∀ x ∈ p0, x.block < W.heap.size := by obtain ⟨m, hm⟩ := h0; exact DataW.trod_lt m _ _ _ hm
  have hw0 : ∀ n ∈ DataW.weights Try.prog 22 d0, n ≤ reachBytes := fun n hn => of_decide_eq_true (List.all_eq_true.1 hz2 n (DataW.weights_mem_each (j := 0) rfl rfl n hn))
  obtain ⟨ap0, al0, ac0, rfl⟩ := okWide_slice (show Try.prog.underlying 22 = some (.slice 3) from by kernel_rfl) (hval 0 22 v0 rfl rfl)
  obtain ⟨⟨bp0, bl0, bc0, bx0⟩, e0, g0⟩ := Rd.open (w := W) rd_sl_int h0 hw0
  obtain ⟨rfl, rfl, rfl⟩ : ap0 = bp0 ∧ al0 = bl0 ∧ ac0 = bc0 := by have e : [Value.slice ap0 al0 ac0] = [Value.slice bp0 bl0 bc0] := e0; simpa using e
  have lt1 : ∀ x ∈ p1, x.block < W.heap.size := by obtain ⟨m, hm⟩ := h1; exact DataW.trod_lt m _ _ _ hm
  have hw1 : ∀ n ∈ DataW.weights Try.prog 22 d1, n ≤ reachBytes := fun n hn => of_decide_eq_true (List.all_eq_true.1 hz2 n (DataW.weights_mem_each (j := 1) rfl rfl n hn))
  obtain ⟨ap1, al1, ac1, rfl⟩ := okWide_slice (show Try.prog.underlying 22 = some (.slice 3) from by kernel_rfl) (hval 1 22 v1 rfl rfl)
  obtain ⟨⟨bp1, bl1, bc1, bx1⟩, e1, g1⟩ := Rd.open (w := W) rd_sl_int h1 hw1
  obtain ⟨rfl, rfl, rfl⟩ : ap1 = bp1 ∧ al1 = bl1 ∧ ac1 = bc1 := by have e : [Value.slice ap1 al1 ac1] = [Value.slice bp1 bl1 bc1] := e1; simpa using e
  clear hA0 hval0
  have key := LabelInserts_ok (w := W) g0 g1
  unfold callJ at key
  refine Calls.mono key fun e W' h => ?_
  obtain ⟨r, rfl, rfl, hc⟩ := h
  have bel := hc.below
  exact ⟨_, rfl, _, _, _, [], _, [], hW', trodAll_mk1 (shut_bool (show Try.prog.underlying 4 = some .bool from by kernel_rfl) _), (trodAll_cons_mk (Below.trod labelInserts_laid (by kernel_rfl) (of_decide_eq_true (by kernel_rfl)) h0 bel lt0) (trodAll_cons_mk (Below.trod labelInserts_laid (by kernel_rfl) (of_decide_eq_true (by kernel_rfl)) h1 bel lt1) trodAll_mk0)), rfl, bel.frame _, fun h => by cases h⟩

theorem labelInserts_over : Rows.labelInsertsRow.holds Try.pinned (OpenSpec.ofChange Rows.labelInsertsSpec) :=
  OpenClaim.holds_of_wide 6 Try.f6 rfl rfl rfl rfl rfl rfl rfl ⟨rfl, rfl, rfl, rfl, rfl⟩ rfl rfl rfl rfl rfl (by kernel_rfl) Try.func6 (by kernel_rfl)
    (of_decide_eq_true (by kernel_rfl)) (by unfold Func.isWrapper; first | (rw [if_pos (by decide +kernel)]; kernel_rfl) | (rw [if_neg (by decide +kernel)]; exact ⟨rfl, rfl⟩))
    (fun os started H enc _ => labelInserts_lifted os started H enc)

/-- THE STATEMENT -/
theorem labelInserts_said : Rows.LabelInsertsSaid := labelInserts_over
#print axioms labelInserts_said

end Go.Proofs.Ytjjmnfpdkgnmoaa
