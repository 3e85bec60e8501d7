/-
  The statement 'ReferNumbers' of this seat: whatever the input, the law returns true, and the input reads as it did. No condition.
-/
import Derived.Test.YtdjehimkijlhgaaDoorLaws02B
import Derived.Test.YtdjehimkijlhgaaDoorRd02
import Derived.Test.YtdjehimkijlhgaaDoorTabs01
import Derived.Test.YtdjehimkijlhgaaDoorTie
import Derived.Test.YtdjehimkijlhgaaDoorCards
import Derived.Test.YtdjehimkijlhgaaDoorRows
import Derived.ProofKit
import Derived.OpenShut
import Derived.ShutString
import Derived.ChangeOld
import Derived.Below
import Derived.SizedLaws
import Derived.Handed
import Derived.LaidLaws
import Derived.Lay
import Derived.LaidOnce
import Derived.SevenTiedAt
set_option linter.unusedVariables false
set_option linter.unusedSimpArgs false
namespace Go.Proofs.YtdjehimkijlhgaaDoor
open Go Go.Vc Go.ChangeShapes Go.WideShapes Go.ChangeAt Go.RowKit Go.ChangeMaps

theorem referNumbers_own : ownKnob Tryd.prog.godebug = none := by kernel_rfl
theorem referNumbers_laid : laidOutB Tryd.prog = true := by kernel_rfl

set_option maxRecDepth 100000 in
theorem referNumbers_lifted (os : Os) (started : os.Started) (H : Type) (enc : TypeId × Value → H) :
    ReturnsInHanded {} Tryd.checked os 5 .any (fun w args => (Rows.referNumbersSpec.pre enc Tryd.prog Tryd.f5 [] false w args ∧ laidMetH Tryd.prog Rows.referNumbersRow.laid w) ∧ sizedMet enc Tryd.prog Tryd.f5 (OpenSpec.ofChange Rows.referNumbersSpec) false w args) (Rows.referNumbersSpec.post enc Tryd.prog Tryd.f5 false true false false) := by
  refine returnsInHanded_of_change_and (C := Tryd.checked) (X := fun w _ => laidMetH Tryd.prog Rows.referNumbersRow.laid w) (fun _ _ _ hh h => h.of_heap hh) referNumbers_own started (by kernel_rfl) Tryd.func5
    (ChangeSpec.witness_shaped (enc := enc) (C := Tryd.checked) (os := os) (X := fun w _ => laidMetH Tryd.prog Rows.referNumbersRow.laid w) false (World.laidAll Tryd.prog os Rows.referNumbersRow.laid) #[.int .i64 0, .int .u8 0, .bool false] 8 (World.laidAll_os _ _ _)
      (World.shaped_of_ZipB (by kernel_rfl) (by kernel_rfl)) (by kernel_rfl) (by kernel_rfl) (by kernel_rfl)
      (by rw [MakeChecks.laidMetH_plain _ _ _ (by kernel_rfl)]; exact laidMet_laidAll _ (by kernel_rfl) (by kernel_rfl))) ?_
  intro W base args ds gs before hval0 hW hcnd hz hL _
  rw [MakeChecks.laidMetH_plain _ _ _ (by kernel_rfl)] at hL
  have hT : Tabs W := tabs_of_laid hL
  have hval : ∀ (j : Nat) t v, Tryd.f5.params[j]? = some t → args[j]? = some v → Value.okWide Tryd.prog W .any base t v := hval0
  have hW' := hW
  obtain ⟨p, q, hA0, hV, rfl, hfz, hnd⟩ := hW
  have hA : DataW.TrodAll enc Tryd.prog W 0 (fun _ => true) true Tryd.f5.params.toList args.toList ds p := hA0
  rw [Tryd.params5] at hA hval
  have hz2 : ((DataW.weightsEach Tryd.prog ([3, 5, 4] : List TypeId) (ds ++ gs)).all (· ≤ reachBytes)) = true := by rw [show ([3, 5, 4] : List TypeId) = Tryd.f5.params.toList ++ Rows.referNumbersSpec.plain.varTypes Tryd.prog from by kernel_rfl]; exact hz
  obtain ⟨v0, vs0, d0, ds0, p0, q0, hargs, rfl, rfl, h0, r0⟩ := trodAll_cons hA
  obtain ⟨v1, vs1, d1, ds1, p1, q1, rfl, rfl, rfl, h1, r1⟩ := trodAll_cons r0
  obtain ⟨v2, vs2, d2, ds2, p2, q2, rfl, rfl, rfl, h2, r2⟩ := trodAll_cons r1
  obtain ⟨rfl, rfl, rfl⟩ := trodAll_nil r2
  obtain rfl : args = #[v0, v1, v2] := by cases args; simp_all
  obtain ⟨rfl, rfl⟩ := trodVars_none hV
  have lt0 : ∀ x ∈ p0, x.block < W.heap.size := by obtain ⟨m, hm⟩ := h0; exact DataW.trod_lt m _ _ _ hm
  have hw0 : ∀ n ∈ DataW.weights Tryd.prog 3 d0, n ≤ reachBytes := fun n hn => of_decide_eq_true (List.all_eq_true.1 hz2 n (DataW.weights_mem_each (j := 0) rfl rfl n hn))
  obtain ⟨n0, rfl⟩ := okWide_int (show Tryd.prog.underlying 3 = some (.int .i64) from by kernel_rfl) (hval 0 3 v0 rfl rfl)
  obtain ⟨a0, e0, g0⟩ := Rd.open (w := W) rd_int h0 hw0
  obtain rfl : n0 = a0 := by simpa [Value.cells] using e0
  have lt1 : ∀ x ∈ p1, x.block < W.heap.size := by obtain ⟨m, hm⟩ := h1; exact DataW.trod_lt m _ _ _ hm
  have hw1 : ∀ n ∈ DataW.weights Tryd.prog 5 d1, n ≤ reachBytes := fun n hn => of_decide_eq_true (List.all_eq_true.1 hz2 n (DataW.weights_mem_each (j := 1) rfl rfl n hn))
  obtain ⟨n1, rfl⟩ := okWide_int (show Tryd.prog.underlying 5 = some (.int .u8) from by kernel_rfl) (hval 1 5 v1 rfl rfl)
  obtain ⟨a1, e1, g1⟩ := Rd.open (w := W) rd_uint8 h1 hw1
  obtain rfl : n1 = a1 := by simpa [Value.cells] using e1
  have lt2 : ∀ x ∈ p2, x.block < W.heap.size := by obtain ⟨m, hm⟩ := h2; exact DataW.trod_lt m _ _ _ hm
  have hw2 : ∀ n ∈ DataW.weights Tryd.prog 4 d2, n ≤ reachBytes := fun n hn => of_decide_eq_true (List.all_eq_true.1 hz2 n (DataW.weights_mem_each (j := 2) rfl rfl n hn))
  obtain ⟨n2, rfl⟩ := okWide_bool (show Tryd.prog.underlying 4 = some .bool from by kernel_rfl) (hval 2 4 v2 rfl rfl)
  obtain ⟨a2, e2, g2⟩ := Rd.open (w := W) rd_bool h2 hw2
  obtain rfl : n2 = a2 := by simpa [Value.cells] using e2
  clear hA0 hval0
  have key := ReferNumbers_ok (w := W) hT g0 g1 g2
  unfold callJ at key
  refine Calls.mono key fun e W' h => ?_
  obtain ⟨r, rfl, rfl, hc⟩ := h
  have bel := hc.below
  exact ⟨_, rfl, _, _, _, [], _, [], hW', trodAll_mk1 (shut_bool (show Tryd.prog.underlying 4 = some .bool from by kernel_rfl) _), (trodAll_cons_mk (Below.trod referNumbers_laid (by kernel_rfl) (of_decide_eq_true (by kernel_rfl)) h0 bel lt0) (trodAll_cons_mk (Below.trod referNumbers_laid (by kernel_rfl) (of_decide_eq_true (by kernel_rfl)) h1 bel lt1) (trodAll_cons_mk (Below.trod referNumbers_laid (by kernel_rfl) (of_decide_eq_true (by kernel_rfl)) h2 bel lt2) trodAll_mk0))), rfl, bel.frame _, fun h => by cases h⟩

theorem referNumbers_over : Rows.referNumbersRow.holds Tryd.pinned (OpenSpec.ofChange Rows.referNumbersSpec) :=
  OpenClaim.holds_of_wide 5 Tryd.f5 rfl rfl rfl rfl rfl rfl rfl ⟨rfl, rfl, rfl, rfl, rfl⟩ rfl rfl rfl rfl rfl (by kernel_rfl) Tryd.func5 (by kernel_rfl)
    (of_decide_eq_true (by kernel_rfl)) (by unfold Func.isWrapper; first | (rw [if_pos (by decide +kernel)]; kernel_rfl) | (rw [if_neg (by decide +kernel)]; exact ⟨rfl, rfl⟩))
    (fun os started H enc _ => referNumbers_lifted os started H enc)

/-- THE STATEMENT: the row, tied to the program's text (the tie is given). -/
theorem referNumbers_said : Rows.ReferNumbersCardSaid :=
  Claim7.holds_tied_plain_at .later [] [.data, .pinned] true (true, "b76dafc02d026486eeba44913605adad04f4792189d6fedf4100f9365a8f2c98") true referNumbers_over (fun _ h => by cases h) (by kernel_rfl) (fun _ h => by cases h) referNumbers_row_tie rfl ⟨rfl, rfl⟩ (by kernel_rfl) rfl
    (fun f fn hf hfn => by
      obtain rfl : f = 5 := Option.some.inj ((show Tryd.prog.funcNamed "lectern/lecternlaw02.ReferNumbers" = some 5 by kernel_rfl).symm.trans hf) |>.symm
      obtain rfl : fn = Tryd.f5 := (Option.some.inj (Tryd.func5.symm.trans hfn)).symm
      exact ⟨by kernel_rfl, fun j t ht => by
        rw [Tryd.params5] at ht
        have hm : t ∈ [3, 5, 4] := by simpa using Array.mem_of_getElem? ht
        have hall : ([3, 5, 4].all fun u => !Tryd.prog.wantsStandIn u) = true := by kernel_rfl
        exact (show Tryd.prog.wantsStandIn t = false by simpa using List.all_eq_true.1 hall t hm)⟩)
    (by kernel_rfl)
#print axioms referNumbers_said

end Go.Proofs.YtdjehimkijlhgaaDoor
