/-
  The statement 'ReferReads' of this seat: whatever the input, the law returns true, and the input reads as it did. No condition.
-/
import Derived.Test.YtdjehimkijlhgaaGreatDoorLaws02C
import Derived.Test.YtdjehimkijlhgaaGreatDoorRd02
import Derived.Test.YtdjehimkijlhgaaGreatDoorTabs01
import Derived.Test.YtdjehimkijlhgaaGreatDoorTie
import Derived.Test.YtdjehimkijlhgaaGreatDoorCards
import Derived.Test.YtdjehimkijlhgaaGreatDoorRows
import Derived.ProofKit
import Derived.OpenShut
import Derived.ShutString
import Derived.ChangeOld
import Derived.Below
import Derived.SizedLaws
import Derived.Handed
import Derived.LaidLaws
import Derived.Lay
import Derived.LaidOnce
import Derived.SevenTiedAt
set_option linter.unusedVariables false
set_option linter.unusedSimpArgs false
namespace Go.Proofs.YtdjehimkijlhgaaGreatDoor
open Go Go.Vc Go.ChangeShapes Go.WideShapes Go.ChangeAt Go.RowKit Go.ChangeMaps

theorem referReads_own : ownKnob Tryz.prog.godebug = none := by kernel_rfl
theorem referReads_laid : laidOutB Tryz.prog = true := by kernel_rfl

set_option maxRecDepth 100000 in
theorem referReads_lifted (os : Os) (started : os.Started) (H : Type) (enc : TypeId × Value → H) :
    ReturnsInHanded {} Tryz.checked os 3 .any (fun w args => (Rows.referReadsSpec.pre enc Tryz.prog Tryz.f3 [] false w args ∧ laidMetH Tryz.prog Rows.referReadsRow.laid w) ∧ sizedMet enc Tryz.prog Tryz.f3 (OpenSpec.ofChange Rows.referReadsSpec) false w args) (Rows.referReadsSpec.post enc Tryz.prog Tryz.f3 false true false false) := by
  refine returnsInHanded_of_change_and (C := Tryz.checked) (X := fun w _ => laidMetH Tryz.prog Rows.referReadsRow.laid w) (fun _ _ _ hh h => h.of_heap hh) referReads_own started (by kernel_rfl) Tryz.func3
    (ChangeSpec.witness_shaped (enc := enc) (C := Tryz.checked) (os := os) (X := fun w _ => laidMetH Tryz.prog Rows.referReadsRow.laid w) false (World.laidAll Tryz.prog os Rows.referReadsRow.laid) #[.slice none 0 0] 8 (World.laidAll_os _ _ _)
      (World.shaped_of_ZipB (by kernel_rfl) (by kernel_rfl)) (by kernel_rfl) (by kernel_rfl) (by kernel_rfl)
      (by rw [MakeChecks.laidMetH_plain _ _ _ (by kernel_rfl)]; exact laidMet_laidAll _ (by kernel_rfl) (by kernel_rfl))) ?_
  intro W base args ds gs before hval0 hW hcnd hz hL _
  rw [MakeChecks.laidMetH_plain _ _ _ (by kernel_rfl)] at hL
  have hT : Tabs W := tabs_of_laid hL
  have hval : ∀ (j : Nat) t v, Tryz.f3.params[j]? = some t → args[j]? = some v → Value.okWide Tryz.prog W .any base t v := hval0
  have hW' := hW
  obtain ⟨p, q, hA0, hV, rfl, hfz, hnd⟩ := hW
  have hA : DataW.TrodAll enc Tryz.prog W 0 (fun _ => true) true Tryz.f3.params.toList args.toList ds p := hA0
  rw [Tryz.params3] at hA hval
  have hz2 : ((DataW.weightsEach Tryz.prog ([22] : List TypeId) (ds ++ gs)).all (· ≤ reachBytes)) = true := by rw [show ([22] : List TypeId) = Tryz.f3.params.toList ++ Rows.referReadsSpec.plain.varTypes Tryz.prog from by kernel_rfl]; exact hz
  obtain ⟨v0, vs0, d0, ds0, p0, q0, hargs, rfl, rfl, h0, r0⟩ := trodAll_cons hA
  obtain ⟨rfl, rfl, rfl⟩ := trodAll_nil r0
  obtain rfl : args = #[v0] := by cases args; simp_all
  obtain ⟨rfl, rfl⟩ := trodVars_none hV
  have lt0 : ∀ x ∈ p0, x.block < W.heap.size := by obtain ⟨m, hm⟩ := h0; exact DataW.trod_lt m _ _ _ hm
  have hw0 : ∀ n ∈ DataW.weights Tryz.prog 22 d0, n ≤ reachBytes := fun n hn => of_decide_eq_true (List.all_eq_true.1 hz2 n (DataW.weights_mem_each (j := 0) rfl rfl n hn))
  obtain ⟨ap0, al0, ac0, rfl⟩ := okWide_slice (show Tryz.prog.underlying 22 = some (.slice 5) from by kernel_rfl) (hval 0 22 v0 rfl rfl)
  obtain ⟨⟨bp0, bl0, bc0, bx0⟩, e0, g0⟩ := Rd.open (w := W) rd_sl_uint8 h0 hw0
  obtain ⟨rfl, rfl, rfl⟩ : ap0 = bp0 ∧ al0 = bl0 ∧ ac0 = bc0 := by have e : [Value.slice ap0 al0 ac0] = [Value.slice bp0 bl0 bc0] := e0; simpa using e
  clear hA0 hval0
  have key := ReferReads_ok (w := W) hT g0
  unfold callJ at key
  refine Calls.mono key fun e W' h => ?_
  obtain ⟨r, rfl, rfl, hc⟩ := h
  have bel := hc.below
  exact ⟨_, rfl, _, _, _, [], _, [], hW', trodAll_mk1 (shut_bool (show Tryz.prog.underlying 4 = some .bool from by kernel_rfl) _), (trodAll_cons_mk (Below.trod referReads_laid (by kernel_rfl) (of_decide_eq_true (by kernel_rfl)) h0 bel lt0) trodAll_mk0), rfl, bel.frame _, fun h => by cases h⟩

theorem referReads_over : Rows.referReadsRow.holds Tryz.pinned (OpenSpec.ofChange Rows.referReadsSpec) :=
  OpenClaim.holds_of_wide 3 Tryz.f3 rfl rfl rfl rfl rfl rfl rfl ⟨rfl, rfl, rfl, rfl, rfl⟩ rfl rfl rfl rfl rfl (by kernel_rfl) Tryz.func3 (by kernel_rfl)
    (of_decide_eq_true (by kernel_rfl)) (by unfold Func.isWrapper; first | (rw [if_pos (by decide +kernel)]; kernel_rfl) | (rw [if_neg (by decide +kernel)]; exact ⟨rfl, rfl⟩))
    (fun os started H enc _ => referReads_lifted os started H enc)

/-- THE STATEMENT: the row, tied to the program's text (the tie is given). -/
theorem referReads_said : Rows.ReferReadsCardSaid :=
  Claim7.holds_tied_plain_at .later [] [.data, .pinned] true (true, "6c09358ebce11a0405b1e13a8688c7f0f62a663be06f4026d6027c83d59460cb") true referReads_over (fun _ h => by cases h) (by kernel_rfl) (fun _ h => by cases h) referReads_row_tie rfl ⟨rfl, rfl⟩ (by kernel_rfl) rfl
    (fun f fn hf hfn => by
      obtain rfl : f = 3 := Option.some.inj ((show Tryz.prog.funcNamed "lectern/lecternlaw02.ReferReads" = some 3 by kernel_rfl).symm.trans hf) |>.symm
      obtain rfl : fn = Tryz.f3 := (Option.some.inj (Tryz.func3.symm.trans hfn)).symm
      exact ⟨by kernel_rfl, fun j t ht => by
        rw [Tryz.params3] at ht
        have hm : t ∈ [22] := by simpa using Array.mem_of_getElem? ht
        have hall : ([22].all fun u => !Tryz.prog.wantsStandIn u) = true := by kernel_rfl
        exact (show Tryz.prog.wantsStandIn t = false by simpa using List.all_eq_true.1 hall t hm)⟩)
    (by kernel_rfl)
#print axioms referReads_said

end Go.Proofs.YtdjehimkijlhgaaGreatDoor
