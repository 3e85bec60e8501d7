/-
  The statement 'CharNames' of this seat: whatever the input, the law returns true, and the input reads as it did. No condition.
-/
import Derived.Test.YtpcoekemdgmicaaDoorLaws01
import Derived.Test.YtpcoekemdgmicaaDoorRd01
import Derived.Test.YtpcoekemdgmicaaDoorTabs01
import Derived.Test.YtpcoekemdgmicaaDoorTie
import Derived.Test.YtpcoekemdgmicaaDoorCards
import Derived.Test.YtpcoekemdgmicaaDoorRows
import Derived.ProofKit
import Derived.OpenShut
import Derived.ShutString
import Derived.ChangeOld
import Derived.Below
import Derived.SizedLaws
import Derived.Handed
import Derived.LaidLaws
import Derived.Lay
import Derived.LaidOnce
import Derived.SevenTiedAt
set_option linter.unusedVariables false
set_option linter.unusedSimpArgs false
namespace Go.Proofs.YtpcoekemdgmicaaDoor
open Go Go.Vc Go.ChangeShapes Go.WideShapes Go.ChangeAt Go.RowKit Go.ChangeMaps

theorem charNames_own : ownKnob Tryd.prog.godebug = none := by kernel_rfl
theorem charNames_laid : laidOutB Tryd.prog = true := by kernel_rfl

set_option maxRecDepth 100000 in
theorem charNames_lifted (os : Os) (started : os.Started) (H : Type) (enc : TypeId × Value → H) :
    ReturnsInHanded {} Tryd.checked os 5 .any (fun w args => (Rows.charNamesSpec.pre enc Tryd.prog Tryd.f5 [] false w args ∧ laidMetH Tryd.prog Rows.charNamesRow.laid w) ∧ sizedMet enc Tryd.prog Tryd.f5 (OpenSpec.ofChange Rows.charNamesSpec) false w args) (Rows.charNamesSpec.post enc Tryd.prog Tryd.f5 false true false false) := by
  refine returnsInHanded_of_change_and (C := Tryd.checked) (X := fun w _ => laidMetH Tryd.prog Rows.charNamesRow.laid w) (fun _ _ _ hh h => h.of_heap hh) charNames_own started (by kernel_rfl) Tryd.func5
    (ChangeSpec.witness_shaped (enc := enc) (C := Tryd.checked) (os := os) (X := fun w _ => laidMetH Tryd.prog Rows.charNamesRow.laid w) false (World.laidAll Tryd.prog os Rows.charNamesRow.laid) #[.string ByteArray.empty] 8 (World.laidAll_os _ _ _)
      (World.shaped_of_ZipB (by kernel_rfl) (by kernel_rfl)) (by kernel_rfl) (by kernel_rfl) (by kernel_rfl)
      (by rw [MakeChecks.laidMetH_plain _ _ _ (by kernel_rfl)]; exact laidMet_laidAll _ (by kernel_rfl) (by kernel_rfl))) ?_
  intro W base args ds gs before hval0 hW hcnd hz hL _
  rw [MakeChecks.laidMetH_plain _ _ _ (by kernel_rfl)] at hL
  have hT : Tabs W := tabs_of_laid hL
  have hval : ∀ (j : Nat) t v, Tryd.f5.params[j]? = some t → args[j]? = some v → Value.okWide Tryd.prog W .any base t v := hval0
  have hW' := hW
  obtain ⟨p, q, hA0, hV, rfl, hfz, hnd⟩ := hW
  have hA : DataW.TrodAll enc Tryd.prog W 0 (fun _ => true) true Tryd.f5.params.toList args.toList ds p := hA0
  rw [Tryd.params5] at hA hval
  have hz2 : ((DataW.weightsEach Tryd.prog ([9] : List TypeId) (ds ++ gs)).all (· ≤ reachBytes)) = true := by rw [show ([9] : List TypeId) = Tryd.f5.params.toList ++ Rows.charNamesSpec.plain.varTypes Tryd.prog from by kernel_rfl]; exact hz
  obtain ⟨v0, vs0, d0, ds0, p0, q0, hargs, rfl, rfl, h0, r0⟩ := trodAll_cons hA
  obtain ⟨rfl, rfl, rfl⟩ := trodAll_nil r0
  obtain rfl : args = #[v0] := by cases args; simp_all
  obtain ⟨rfl, rfl⟩ := trodVars_none hV
  have lt0 : ∀ x ∈ p0, x.block < W.heap.size := by obtain ⟨m, hm⟩ := h0; exact DataW.trod_lt m _ _ _ hm
  have hw0 : ∀ n ∈ DataW.weights Tryd.prog 9 d0, n ≤ reachBytes := fun n hn => of_decide_eq_true (List.all_eq_true.1 hz2 n (DataW.weights_mem_each (j := 0) rfl rfl n hn))
  obtain ⟨n0, rfl⟩ := okWide_string (show Tryd.prog.underlying 9 = some .string from by kernel_rfl) (hval 0 9 v0 rfl rfl)
  obtain ⟨a0, e0, g0⟩ := Rd.open (w := W) rd_string h0 hw0
  obtain rfl : n0 = a0 := by simpa [Value.cells] using e0
  clear hA0 hval0
  have key := CharNames_ok (w := W) hT g0
  unfold callJ at key
  refine Calls.mono key fun e W' h => ?_
  obtain ⟨r, rfl, rfl, hc⟩ := h
  have bel := hc.below
  exact ⟨_, rfl, _, _, _, [], _, [], hW', trodAll_mk1 (shut_bool (show Tryd.prog.underlying 4 = some .bool from by kernel_rfl) _), (trodAll_cons_mk (Below.trod charNames_laid (by kernel_rfl) (of_decide_eq_true (by kernel_rfl)) h0 bel lt0) trodAll_mk0), rfl, bel.frame _, fun h => by cases h⟩

theorem charNames_over : Rows.charNamesRow.holds Tryd.pinned (OpenSpec.ofChange Rows.charNamesSpec) :=
  OpenClaim.holds_of_wide 5 Tryd.f5 rfl rfl rfl rfl rfl rfl rfl ⟨rfl, rfl, rfl, rfl, rfl⟩ rfl rfl rfl rfl rfl (by kernel_rfl) Tryd.func5 (by kernel_rfl)
    (of_decide_eq_true (by kernel_rfl)) (by unfold Func.isWrapper; first | (rw [if_pos (by decide +kernel)]; kernel_rfl) | (rw [if_neg (by decide +kernel)]; exact ⟨rfl, rfl⟩))
    (fun os started H enc _ => charNames_lifted os started H enc)

/-- THE STATEMENT: the row, tied to the program's text (the tie is given). -/
theorem charNames_said : Rows.CharNamesCardSaid :=
  Claim7.holds_tied_plain_at .later [] [.data, .pinned] true (true, "c7d04c6c225ee5b0c2ad9ed4453fc000461da7db6817e67eb47b702c6e64a6a6") false charNames_over (fun _ h => by cases h) (by kernel_rfl) (fun _ h => by cases h) charNames_row_tie rfl ⟨rfl, rfl⟩ (by kernel_rfl) rfl
    (fun f fn hf hfn => by
      obtain rfl : f = 5 := Option.some.inj ((show Tryd.prog.funcNamed "lectern/lecternlaw01.CharNames" = some 5 by kernel_rfl).symm.trans hf) |>.symm
      obtain rfl : fn = Tryd.f5 := (Option.some.inj (Tryd.func5.symm.trans hfn)).symm
      exact ⟨by kernel_rfl, fun j t ht => by
        rw [Tryd.params5] at ht
        have hm : t ∈ [9] := by simpa using Array.mem_of_getElem? ht
        have hall : ([9].all fun u => !Tryd.prog.wantsStandIn u) = true := by kernel_rfl
        exact (show Tryd.prog.wantsStandIn t = false by simpa using List.all_eq_true.1 hall t hm)⟩)
    (by kernel_rfl)
#print axioms charNames_said

end Go.Proofs.YtpcoekemdgmicaaDoor
