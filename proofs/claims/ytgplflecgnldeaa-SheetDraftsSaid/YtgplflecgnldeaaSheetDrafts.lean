/-
  The statement 'SheetDrafts' of this seat: whatever the input, the law returns true, and the input reads as it did. No condition.
-/
import Derived.Test.YtgplflecgnldeaaAwake15
import Derived.Test.YtgplflecgnldeaaRd15
import Derived.Test.YtgplflecgnldeaaRows
import Derived.ProofKit
import Derived.OpenShut
import Derived.ShutString
import Derived.ChangeOld
import Derived.Below
import Derived.SizedLaws
set_option linter.unusedVariables false
set_option linter.unusedSimpArgs false
namespace Go.Proofs.Ytgplflecgnldeaa
open Go Go.Vc Go.ChangeShapes Go.WideShapes Go.ChangeAt Go.RowKit Go.ChangeMaps

theorem sheetDrafts_own : ownKnob Try.prog.godebug = none := by kernel_rfl
theorem sheetDrafts_laid : laidOutB Try.prog = true := by kernel_rfl

set_option maxRecDepth 100000 in
theorem sheetDrafts_lifted (os : Os) (started : os.Started) (H : Type) (enc : TypeId × Value → H) :
    ReturnsInHanded {} Try.checked os 3 .any (Rows.sheetDraftsSpec.pre6 enc Try.prog Try.f3 Rows.sheetDraftsRow.domain false) (Rows.sheetDraftsSpec.post enc Try.prog Try.f3 false true false false) := by
  refine returnsInHanded_of_change_sized (C := Try.checked) sheetDrafts_own started (by kernel_rfl) Try.func3
    (ChangeSpec.witness6 (enc := enc) (C := Try.checked) false ⟨#[], #[.int .i64 0], []⟩ 8 (by kernel_rfl) (by kernel_rfl) (by kernel_rfl) (by kernel_rfl)) ?_
  intro W base args ds gs before hval0 hW hcnd hz _
  have hval : ∀ (j : Nat) t v, Try.f3.params[j]? = some t → args[j]? = some v → Value.okWide Try.prog W .any base t v := hval0
  have hW' := hW
  obtain ⟨p, q, hA0, hV, rfl, hfz, hnd⟩ := hW
  have hA : DataW.TrodAll enc Try.prog W 0 (fun _ => true) true Try.f3.params.toList args.toList ds p := hA0
  rw [Try.params3] at hA hval
  have hz2 : ((DataW.weightsEach Try.prog ([3] : List TypeId) (ds ++ gs)).all (· ≤ reachBytes)) = true := by rw [show ([3] : List TypeId) = Try.f3.params.toList ++ Rows.sheetDraftsSpec.plain.varTypes Try.prog from by kernel_rfl]; exact hz
  obtain ⟨v0, vs0, d0, ds0, p0, q0, hargs, rfl, rfl, h0, r0⟩ := trodAll_cons hA
  obtain ⟨rfl, rfl, rfl⟩ := trodAll_nil r0
  obtain rfl : args = #[v0] := by cases args; simp_all
  obtain ⟨rfl, rfl⟩ := trodVars_none hV
  have lt0 : ∀ x ∈ p0, x.block < W.heap.size := by obtain ⟨m, hm⟩ := h0; exact DataW.trod_lt m _ _ _ hm
  have hw0 : ∀ n ∈ DataW.weights Try.prog 3 d0, n ≤ reachBytes := fun n hn => of_decide_eq_true (List.all_eq_true.1 hz2 n (DataW.weights_mem_each (j := 0) rfl rfl n hn))
  obtain ⟨n0, rfl⟩ := okWide_int (show Try.prog.underlying 3 = some (.int .i64) from by kernel_rfl) (hval 0 3 v0 rfl rfl)
  obtain ⟨a0, e0, g0⟩ := Rd.open (w := W) rd_int h0 hw0
  obtain rfl : n0 = a0 := by simpa [Value.cells] using e0
  clear hA0 hval0
  have key := SheetDrafts_ok (w := W) g0
  unfold callJ at key
  refine Calls.mono key fun e W' h => ?_
  obtain ⟨r, rfl, rfl, hc⟩ := h
  have bel := hc.below
  exact ⟨_, rfl, _, _, _, [], _, [], hW', trodAll_mk1 (shut_bool (show Try.prog.underlying 4 = some .bool from by kernel_rfl) _), (trodAll_cons_mk (Below.trod sheetDrafts_laid (by kernel_rfl) (of_decide_eq_true (by kernel_rfl)) h0 bel lt0) trodAll_mk0), rfl, bel.frame _, fun h => by cases h⟩

theorem sheetDrafts_over : Rows.sheetDraftsRow.holds Try.pinned (OpenSpec.ofChange Rows.sheetDraftsSpec) :=
  OpenClaim.holds_of_wide 3 Try.f3 rfl rfl rfl rfl rfl rfl rfl ⟨rfl, rfl, rfl, rfl, rfl⟩ rfl rfl rfl rfl rfl (by kernel_rfl) Try.func3 (by kernel_rfl)
    (of_decide_eq_true (by kernel_rfl)) (by unfold Func.isWrapper; first | (rw [if_pos (by decide +kernel)]; kernel_rfl) | (rw [if_neg (by decide +kernel)]; exact ⟨rfl, rfl⟩))
    (fun os started H enc _ => sheetDrafts_lifted os started H enc)

/-- THE STATEMENT -/
theorem sheetDrafts_said : Rows.SheetDraftsSaid := sheetDrafts_over
#print axioms sheetDrafts_said

end Go.Proofs.Ytgplflecgnldeaa
