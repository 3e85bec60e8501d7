/-
  The statement 'ReferPlain' of this seat: whatever the input (of bulk at most 1048576), the law returns true, and the input reads as it did.
-/
import Derived.Test.YtdjehimkijlhgaaDoorLaws02B
import Derived.Test.YtdjehimkijlhgaaDoorRd02
import Derived.Test.YtdjehimkijlhgaaDoorTabs01
import Derived.Test.YtdjehimkijlhgaaDoorTie
import Derived.Test.YtdjehimkijlhgaaDoorCards
import Derived.Test.YtdjehimkijlhgaaDoorBulk
import Derived.Test.YtdjehimkijlhgaaDoorRows
import Derived.ProofKit
import Derived.OpenShut
import Derived.ShutString
import Derived.ChangeOld
import Derived.Below
import Derived.SizedLaws
import Derived.Handed
import Derived.LaidLaws
import Derived.Lay
import Derived.LaidOnce
import Derived.SevenTiedAt
import Derived.Deep.DeepHandedRow
import Derived.JoinedCond
import Derived.Stop.Joined
set_option linter.unusedVariables false
set_option linter.unusedSimpArgs false
namespace Go.Proofs.YtdjehimkijlhgaaDoor
open Go Go.Vc Go.ChangeShapes Go.WideShapes Go.ChangeAt Go.RowKit Go.ChangeMaps

theorem referPlain_own : ownKnob Tryd.prog.godebug = none := by kernel_rfl
theorem referPlain_laid : laidOutB Tryd.prog = true := by kernel_rfl

set_option maxRecDepth 100000 in
theorem referPlain_lifted (os : Os) (started : os.Started) (H : Type) (enc : TypeId × Value → H) :
    ∀ F : Stop.Interp, ReturnsInHanded {} Tryd.checked os 8 .any ((Rows.OpenSpec.upto Rows.referPlainSpec).preRow enc Tryd.prog Tryd.f8 Rows.referPlainUptoRow.domain false Rows.referPlainUptoRow.laid) (((Rows.OpenSpec.upto Rows.referPlainSpec).at F).post enc Tryd.prog Tryd.f8 false true false false) := by
  intro F
  have hx : ∃ places, DataW.whole enc Tryd.prog ((World.laidAll Tryd.prog os Rows.referPlainUptoRow.laid).forCall (fun _ _ => 0) ⟨#[], #[.string ByteArray.empty], []⟩).memory Tryd.f8.params.toList Rows.referPlainSpec.vars false (#[.string ByteArray.empty] : Array Value).toList 8 = some ([.lit (.string [])], [], places) := ⟨[], by kernel_rfl⟩
  obtain ⟨places, hx⟩ := hx
  have hokB : Input.okWideB Tryd.prog ((World.laidAll Tryd.prog os Rows.referPlainUptoRow.laid).forCall (fun _ _ => 0) ⟨#[], #[.string ByteArray.empty], []⟩) 8 ⟨#[], #[.string ByteArray.empty], []⟩ = true := by kernel_rfl
  refine returnsInHanded_of_row (C := Tryd.checked) (s := Rows.OpenSpec.upto Rows.referPlainSpec) referPlain_own started (by kernel_rfl) Tryd.func8
    ⟨World.laidAll Tryd.prog os Rows.referPlainUptoRow.laid, fun _ _ => 0, ⟨#[], #[.string ByteArray.empty], []⟩, World.laidAll_os _ _ _, World.shaped_of_ZipB (by kernel_rfl) (by kernel_rfl), (Input.okWide_of_okWideB (base := 0) hokB).1, (Input.okWide_of_okWideB hokB).2,
      OpenSpec.preRow_of_cond 8 hx (by kernel_rfl) (fun k hk => by cases hk; kernel_rfl) (by kernel_rfl) (by rw [MakeChecks.laidMetH_plain _ _ _ (by kernel_rfl)]; exact laidMet_laidAll _ (by kernel_rfl) (by kernel_rfl)),
      by simp only [Assume.holds]; exact ⟨by simp, by simp, fun _ => Modest.zero, by simp, by simp⟩⟩ ?_
  intro W base args ds gs before hval0 hW hcnd hcond hz hL _ _
  rw [MakeChecks.laidMetH_plain _ _ _ (by kernel_rfl)] at hL
  have hT : Tabs W := tabs_of_laid hL
  have hval : ∀ (j : Nat) t v, Tryd.f8.params[j]? = some t → args[j]? = some v → Value.okWide Tryd.prog W .any base t v := hval0
  have hW' := hW
  obtain ⟨p, q, hA0, hV, rfl, hfz, hnd⟩ := hW
  have hA : DataW.TrodAll enc Tryd.prog W 0 (fun _ => true) true Tryd.f8.params.toList args.toList ds p := hA0
  rw [Tryd.params8] at hA hval
  have hz2 : ((DataW.weightsEach Tryd.prog ([9] : List TypeId) (ds ++ gs)).all (· ≤ reachBytes)) = true := by rw [show ([9] : List TypeId) = Tryd.f8.params.toList ++ Rows.referPlainSpec.plain.varTypes Tryd.prog from by kernel_rfl]; exact hz
  obtain ⟨v0, vs0, d0, ds0, p0, q0, hargs, rfl, rfl, h0, r0⟩ := trodAll_cons hA
  obtain ⟨rfl, rfl, rfl⟩ := trodAll_nil r0
  obtain rfl : args = #[v0] := by cases args; simp_all
  obtain ⟨rfl, rfl⟩ := trodVars_none hV
  have lt0 : ∀ x ∈ p0, x.block < W.heap.size := by obtain ⟨m, hm⟩ := h0; exact DataW.trod_lt m _ _ _ hm
  have hw0 : ∀ n ∈ DataW.weights Tryd.prog 9 d0, n ≤ reachBytes := fun n hn => of_decide_eq_true (List.all_eq_true.1 hz2 n (DataW.weights_mem_each (j := 0) rfl rfl n hn))
  obtain ⟨n0, rfl⟩ := okWide_string (show Tryd.prog.underlying 9 = some .string from by kernel_rfl) (hval 0 9 v0 rfl rfl)
  obtain ⟨a0, e0, g0⟩ := Rd.open (w := W) rd_string h0 hw0
  obtain rfl : n0 = a0 := by simpa [Value.cells] using e0
  have hbulk := bulk_all (hcond _ rfl)
  simp only [Rows.uptoBulkAll, List.cons_append, List.nil_append, List.append_nil] at hbulk
  have hk0 := bulk_string (show Tryd.prog.underlying 9 = some .string from by kernel_rfl) h0
  clear hA0 hval0
  have key := ReferPlain_ok (w := W) hT g0 (by first | omega | (simp only; omega))
  unfold callJ at key
  refine Calls.mono key fun e W' h => ?_
  obtain ⟨r, rfl, rfl, hc⟩ := h
  have bel := hc.below
  exact ⟨_, rfl, _, _, _, [], _, [], hW', trodAll_mk1 (shut_bool (show Tryd.prog.underlying 4 = some .bool from by kernel_rfl) _), (trodAll_cons_mk (Below.trod referPlain_laid (by kernel_rfl) (of_decide_eq_true (by kernel_rfl)) h0 bel lt0) trodAll_mk0), rfl, bel.frame _, fun h => by cases h⟩

theorem referPlain_over : Rows.referPlainUptoRow.holds Tryd.pinned (Rows.OpenSpec.upto Rows.referPlainSpec) :=
  OpenClaim.holds_of_cond 8 Tryd.f8 rfl rfl rfl rfl rfl rfl rfl ⟨rfl, rfl, rfl, rfl, rfl⟩ rfl rfl rfl rfl rfl (by kernel_rfl) Tryd.func8 (by kernel_rfl)
    (of_decide_eq_true (by kernel_rfl)) (by unfold Func.isWrapper; first | (rw [if_pos (by decide +kernel)]; kernel_rfl) | (rw [if_neg (by decide +kernel)]; exact ⟨rfl, rfl⟩))
    (fun os started H enc _ F => by rw [OpenClaim.pre_eq_preRow]; exact referPlain_lifted os started H enc F)

/-- THE STATEMENT: the row, tied to the program's text (the tie is given). -/
theorem referPlain_said : Rows.ReferPlainUptoCardSaid :=
  Claim7.holds_tied_plain_at .later [] [.data, .pinned] true (true, "b76dafc02d026486eeba44913605adad04f4792189d6fedf4100f9365a8f2c98") true referPlain_over (fun _ h => by cases h) (by kernel_rfl) (fun _ h => by cases h) referPlainUpto_row_tie rfl ⟨rfl, rfl⟩ (by kernel_rfl) rfl
    (fun f fn hf hfn => by
      obtain rfl : f = 8 := Option.some.inj ((show Tryd.prog.funcNamed "lectern/lecternlaw02.ReferPlain" = some 8 by kernel_rfl).symm.trans hf) |>.symm
      obtain rfl : fn = Tryd.f8 := (Option.some.inj (Tryd.func8.symm.trans hfn)).symm
      exact ⟨by kernel_rfl, fun j t ht => by
        rw [Tryd.params8] at ht
        have hm : t ∈ [9] := by simpa using Array.mem_of_getElem? ht
        have hall : ([9].all fun u => !Tryd.prog.wantsStandIn u) = true := by kernel_rfl
        exact (show Tryd.prog.wantsStandIn t = false by simpa using List.all_eq_true.1 hall t hm)⟩)
    (by kernel_rfl)
#print axioms referPlain_said

end Go.Proofs.YtdjehimkijlhgaaDoor
