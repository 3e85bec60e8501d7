/-
  The statement 'SheetLasts' of this seat: whatever the input, the law returns true, and the input reads as it did. No condition.
-/
import Derived.Test.YtgplflecgnldeaaLasts15
import Derived.Test.YtgplflecgnldeaaRd15
import Derived.Test.YtgplflecgnldeaaRows
import Derived.ProofKit
import Derived.OpenShut
import Derived.ShutString
import Derived.ChangeOld
import Derived.Below
import Derived.SizedLaws
set_option linter.unusedVariables false
set_option linter.unusedSimpArgs false
namespace Go.Proofs.Ytgplflecgnldeaa
open Go Go.Vc Go.ChangeShapes Go.WideShapes Go.ChangeAt Go.RowKit Go.ChangeMaps

theorem sheetLasts_own : ownKnob Try.prog.godebug = none := by kernel_rfl
theorem sheetLasts_laid : laidOutB Try.prog = true := by kernel_rfl

set_option maxRecDepth 100000 in
theorem sheetLasts_lifted (os : Os) (started : os.Started) (H : Type) (enc : TypeId × Value → H) :
    ReturnsInHanded {} Try.checked os 8 .any (Rows.sheetLastsSpec.pre6 enc Try.prog Try.f8 Rows.sheetLastsRow.domain false) (Rows.sheetLastsSpec.post enc Try.prog Try.f8 false true false false) := by
  refine returnsInHanded_of_change_sized (C := Try.checked) sheetLasts_own started (by kernel_rfl) Try.func8
    (ChangeSpec.witness6 (enc := enc) (C := Try.checked) false ⟨#[], #[.int .i64 0, .int .u64 0, .int .u64 0, .int .i64 0, .slice none 0 0], []⟩ 8 (by kernel_rfl) (by kernel_rfl) (by kernel_rfl) (by kernel_rfl)) ?_
  intro W base args ds gs before hval0 hW hcnd hz _
  have hval : ∀ (j : Nat) t v, Try.f8.params[j]? = some t → args[j]? = some v → Value.okWide Try.prog W .any base t v := hval0
  have hW' := hW
  obtain ⟨p, q, hA0, hV, rfl, hfz, hnd⟩ := hW
  have hA : DataW.TrodAll enc Try.prog W 0 (fun _ => true) true Try.f8.params.toList args.toList ds p := hA0
  rw [Try.params8] at hA hval
  have hz2 : ((DataW.weightsEach Try.prog ([3, 31, 31, 3, 72] : List TypeId) (ds ++ gs)).all (· ≤ reachBytes)) = true := by rw [show ([3, 31, 31, 3, 72] : List TypeId) = Try.f8.params.toList ++ Rows.sheetLastsSpec.plain.varTypes Try.prog from by kernel_rfl]; exact hz
  obtain ⟨v0, vs0, d0, ds0, p0, q0, hargs, rfl, rfl, h0, r0⟩ := trodAll_cons hA
  obtain ⟨v1, vs1, d1, ds1, p1, q1, rfl, rfl, rfl, h1, r1⟩ := trodAll_cons r0
  obtain ⟨v2, vs2, d2, ds2, p2, q2, rfl, rfl, rfl, h2, r2⟩ := trodAll_cons r1
  obtain ⟨v3, vs3, d3, ds3, p3, q3, rfl, rfl, rfl, h3, r3⟩ := trodAll_cons r2
  obtain ⟨v4, vs4, d4, ds4, p4, q4, rfl, rfl, rfl, h4, r4⟩ := trodAll_cons r3
  obtain ⟨rfl, rfl, rfl⟩ := trodAll_nil r4
  obtain rfl : args = #[v0, v1, v2, v3, v4] := by cases args; simp_all
  obtain ⟨rfl, rfl⟩ := trodVars_none hV
  have lt0 : ∀ x ∈ p0, x.block < W.heap.size := by obtain ⟨m, hm⟩ := h0; exact DataW.trod_lt m _ _ _ hm
  have hw0 : ∀ n ∈ DataW.weights Try.prog 3 d0, n ≤ reachBytes := fun n hn => of_decide_eq_true (List.all_eq_true.1 hz2 n (DataW.weights_mem_each (j := 0) rfl rfl n hn))
  obtain ⟨n0, rfl⟩ := okWide_int (show Try.prog.underlying 3 = some (.int .i64) from by kernel_rfl) (hval 0 3 v0 rfl rfl)
  obtain ⟨a0, e0, g0⟩ := Rd.open (w := W) rd_int h0 hw0
  obtain rfl : n0 = a0 := by simpa [Value.cells] using e0
  have lt1 : ∀ x ∈ p1, x.block < W.heap.size := by obtain ⟨m, hm⟩ := h1; exact DataW.trod_lt m _ _ _ hm
  have hw1 : ∀ n ∈ DataW.weights Try.prog 31 d1, n ≤ reachBytes := fun n hn => of_decide_eq_true (List.all_eq_true.1 hz2 n (DataW.weights_mem_each (j := 1) rfl rfl n hn))
  obtain ⟨n1, rfl⟩ := okWide_int (show Try.prog.underlying 31 = some (.int .u64) from by kernel_rfl) (hval 1 31 v1 rfl rfl)
  obtain ⟨a1, e1, g1⟩ := Rd.open (w := W) rd_uint64 h1 hw1
  obtain rfl : n1 = a1 := by simpa [Value.cells] using e1
  have lt2 : ∀ x ∈ p2, x.block < W.heap.size := by obtain ⟨m, hm⟩ := h2; exact DataW.trod_lt m _ _ _ hm
  have hw2 : ∀ n ∈ DataW.weights Try.prog 31 d2, n ≤ reachBytes := fun n hn => of_decide_eq_true (List.all_eq_true.1 hz2 n (DataW.weights_mem_each (j := 2) rfl rfl n hn))
  obtain ⟨n2, rfl⟩ := okWide_int (show Try.prog.underlying 31 = some (.int .u64) from by kernel_rfl) (hval 2 31 v2 rfl rfl)
  obtain ⟨a2, e2, g2⟩ := Rd.open (w := W) rd_uint64 h2 hw2
  obtain rfl : n2 = a2 := by simpa [Value.cells] using e2
  have lt3 : ∀ x ∈ p3, x.block < W.heap.size := by obtain ⟨m, hm⟩ := h3; exact DataW.trod_lt m _ _ _ hm
  have hw3 : ∀ n ∈ DataW.weights Try.prog 3 d3, n ≤ reachBytes := fun n hn => of_decide_eq_true (List.all_eq_true.1 hz2 n (DataW.weights_mem_each (j := 3) rfl rfl n hn))
  obtain ⟨n3, rfl⟩ := okWide_int (show Try.prog.underlying 3 = some (.int .i64) from by kernel_rfl) (hval 3 3 v3 rfl rfl)
  obtain ⟨a3, e3, g3⟩ := Rd.open (w := W) rd_int h3 hw3
  obtain rfl : n3 = a3 := by simpa [Value.cells] using e3
  have lt4 : ∀ x ∈ p4, x.block < W.heap.size := by obtain ⟨m, hm⟩ := h4; exact DataW.trod_lt m _ _ _ hm
  have hw4 : ∀ n ∈ DataW.weights Try.prog 72 d4, n ≤ reachBytes := fun n hn => of_decide_eq_true (List.all_eq_true.1 hz2 n (DataW.weights_mem_each (j := 4) rfl rfl n hn))
  obtain ⟨ap4, al4, ac4, rfl⟩ := okWide_slice (show Try.prog.underlying 72 = some (.slice 4) from by kernel_rfl) (hval 4 72 v4 rfl rfl)
  obtain ⟨⟨bp4, bl4, bc4, bx4⟩, e4, g4⟩ := Rd.open (w := W) rd_sl_bool h4 hw4
  obtain ⟨rfl, rfl, rfl⟩ : ap4 = bp4 ∧ al4 = bl4 ∧ ac4 = bc4 := by simpa [Value.cells, SlV.cells, BV.cells] using e4
  clear hA0 hval0
  have key := SheetLasts_ok (w := W) g0 g1 g2 g3 g4
  unfold callJ at key
  refine Calls.mono key fun e W' h => ?_
  obtain ⟨r, rfl, rfl, hc⟩ := h
  have bel := hc.below
  exact ⟨_, rfl, _, _, _, [], _, [], hW', trodAll_mk1 (shut_bool (show Try.prog.underlying 4 = some .bool from by kernel_rfl) _), (trodAll_cons_mk (Below.trod sheetLasts_laid (by kernel_rfl) (of_decide_eq_true (by kernel_rfl)) h0 bel lt0) (trodAll_cons_mk (Below.trod sheetLasts_laid (by kernel_rfl) (of_decide_eq_true (by kernel_rfl)) h1 bel lt1) (trodAll_cons_mk (Below.trod sheetLasts_laid (by kernel_rfl) (of_decide_eq_true (by kernel_rfl)) h2 bel lt2) (trodAll_cons_mk (Below.trod sheetLasts_laid (by kernel_rfl) (of_decide_eq_true (by kernel_rfl)) h3 bel lt3) (trodAll_cons_mk (Below.trod sheetLasts_laid (by kernel_rfl) (of_decide_eq_true (by kernel_rfl)) h4 bel lt4) trodAll_mk0))))), rfl, bel.frame _, fun h => by cases h⟩

theorem sheetLasts_over : Rows.sheetLastsRow.holds Try.pinned (OpenSpec.ofChange Rows.sheetLastsSpec) :=
  OpenClaim.holds_of_wide 8 Try.f8 rfl rfl rfl rfl rfl rfl rfl ⟨rfl, rfl, rfl, rfl, rfl⟩ rfl rfl rfl rfl rfl (by kernel_rfl) Try.func8 (by kernel_rfl)
    (of_decide_eq_true (by kernel_rfl)) (by unfold Func.isWrapper; first | (rw [if_pos (by decide +kernel)]; kernel_rfl) | (rw [if_neg (by decide +kernel)]; exact ⟨rfl, rfl⟩))
    (fun os started H enc _ => sheetLasts_lifted os started H enc)

/-- THE STATEMENT -/
theorem sheetLasts_said : Rows.SheetLastsSaid := sheetLasts_over
#print axioms sheetLasts_said

end Go.Proofs.Ytgplflecgnldeaa
