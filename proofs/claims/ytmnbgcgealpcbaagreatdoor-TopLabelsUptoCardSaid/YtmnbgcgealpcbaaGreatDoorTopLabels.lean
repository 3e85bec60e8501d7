/- TopLabels -/
import Derived.Test.YtmnbgcgealpcbaaGreatDoorLawsN7
import Derived.Test.YtmnbgcgealpcbaaGreatDoorLaws05W7
import Derived.Test.YtmnbgcgealpcbaaGreatDoorTie
import Derived.Test.YtmnbgcgealpcbaaGreatDoorCards
import Derived.Test.YtmnbgcgealpcbaaGreatDoorRows
import Derived.ProofKit
import Derived.OpenShut
import Derived.ShutString
import Derived.ChangeOld
import Derived.Below
import Derived.SizedLaws
import Derived.Handed
import Derived.LaidLaws
import Derived.Lay
import Derived.LaidOnce
import Derived.SevenTiedAt
import Derived.Deep.DeepHandedRow
import Derived.JoinedCond
import Derived.Stop.Joined
/-
  The statement 'TopLabels' of this seat: whatever the input (of bulk at most 1048576), the law returns true, and the input reads as it did.
-/
set_option linter.unusedVariables false
set_option linter.unusedSimpArgs false
namespace Go.Proofs.YtmnbgcgealpcbaaGreatDoor
open Go Go.Vc Go.ChangeShapes Go.WideShapes Go.ChangeAt Go.RowKit Go.ChangeMaps

theorem topLabels_own : ownKnob Tryz.prog.godebug = none := by kernel_rfl
theorem topLabels_laid : laidOutB Tryz.prog = true := by kernel_rfl

set_option maxRecDepth 100000 in
theorem topLabels_lifted (os : Os) (started : os.Started) (H : Type) (enc : TypeId × Value → H) :
    ∀ F : Stop.Interp, ReturnsInHanded {} Tryz.checked os 3 .any ((Rows.OpenSpec.upto Rows.topLabelsSpec).preRow enc Tryz.prog Tryz.f3 Rows.topLabelsUptoRow.domain false Rows.topLabelsUptoRow.laid) (((Rows.OpenSpec.upto Rows.topLabelsSpec).at F).post enc Tryz.prog Tryz.f3 false true false false) := by
  intro F
  have hx : ∃ places, DataW.whole enc Tryz.prog ((World.laidAll Tryz.prog os Rows.topLabelsUptoRow.laid).forCall (fun _ _ => 0) ⟨#[], #[.agg #[.int .i64 0, .string ByteArray.empty, .string ByteArray.empty, .slice none 0 0, .slice none 0 0, .string ByteArray.empty], .slice none 0 0], []⟩).memory Tryz.f3.params.toList Rows.topLabelsSpec.vars false (#[.agg #[.int .i64 0, .string ByteArray.empty, .string ByteArray.empty, .slice none 0 0, .slice none 0 0, .string ByteArray.empty], .slice none 0 0] : Array Value).toList 8 = some ([.agg [.lit (.int .i64 0), .agg [.lit (.string []), .lit (.string [])], .nil, .nil, .lit (.string [])], .nil], [], places) := ⟨[], by kernel_rfl⟩
  obtain ⟨places, hx⟩ := hx
  have hokB : Input.okWideB Tryz.prog ((World.laidAll Tryz.prog os Rows.topLabelsUptoRow.laid).forCall (fun _ _ => 0) ⟨#[], #[.agg #[.int .i64 0, .string ByteArray.empty, .string ByteArray.empty, .slice none 0 0, .slice none 0 0, .string ByteArray.empty], .slice none 0 0], []⟩) 3 ⟨#[], #[.agg #[.int .i64 0, .string ByteArray.empty, .string ByteArray.empty, .slice none 0 0, .slice none 0 0, .string ByteArray.empty], .slice none 0 0], []⟩ = true := by kernel_rfl
  refine returnsInHanded_of_row (C := Tryz.checked) (s := Rows.OpenSpec.upto Rows.topLabelsSpec) topLabels_own started (by kernel_rfl) Tryz.func3
    ⟨World.laidAll Tryz.prog os Rows.topLabelsUptoRow.laid, fun _ _ => 0, ⟨#[], #[.agg #[.int .i64 0, .string ByteArray.empty, .string ByteArray.empty, .slice none 0 0, .slice none 0 0, .string ByteArray.empty], .slice none 0 0], []⟩, World.laidAll_os _ _ _, World.shaped_of_ZipB (by kernel_rfl) (by kernel_rfl), (Input.okWide_of_okWideB (base := 0) hokB).1, (Input.okWide_of_okWideB hokB).2,
      OpenSpec.preRow_of_cond 8 hx (by kernel_rfl) (fun k hk => by cases hk; kernel_rfl) (by kernel_rfl) (by rw [MakeChecks.laidMetH_plain _ _ _ (by kernel_rfl)]; exact laidMet_laidAll _ (by kernel_rfl) (by kernel_rfl)),
      by simp only [Assume.holds]; exact ⟨by simp, by simp, fun _ => Modest.zero, by simp, by simp⟩⟩ ?_
  intro W base args ds gs before hval0 hW hcnd hcond hz hL hsh _
  rw [MakeChecks.laidMetH_plain _ _ _ (by kernel_rfl)] at hL
  have hT : TP W := tp_of_laid hL hsh
  have hval : ∀ (j : Nat) t v, Tryz.f3.params[j]? = some t → args[j]? = some v → Value.okWide Tryz.prog W .any base t v := hval0
  have hW' := hW
  obtain ⟨p, q, hA0, hV, rfl, hfz, hnd⟩ := hW
  have hA : DataW.TrodAll enc Tryz.prog W 0 (fun _ => true) true Tryz.f3.params.toList args.toList ds p := hA0
  rw [Tryz.params3] at hA hval
  have hz2 : ((DataW.weightsEach Tryz.prog ([27, 28] : List TypeId) (ds ++ gs)).all (· ≤ reachBytes)) = true := by rw [show ([27, 28] : List TypeId) = Tryz.f3.params.toList ++ Rows.topLabelsSpec.plain.varTypes Tryz.prog from by kernel_rfl]; exact hz
  obtain ⟨v0, vs0, d0, ds0, p0, q0, hargs, rfl, rfl, h0, r0⟩ := trodAll_cons hA
  obtain ⟨v1, vs1, d1, ds1, p1, q1, rfl, rfl, rfl, h1, r1⟩ := trodAll_cons r0
  obtain ⟨rfl, rfl, rfl⟩ := trodAll_nil r1
  obtain rfl : args = #[v0, v1] := by cases args; simp_all
  obtain ⟨rfl, rfl⟩ := trodVars_none hV
  have lt0 : ∀ x ∈ p0, x.block < W.heap.size := by obtain ⟨m, hm⟩ := h0; exact DataW.trod_lt m _ _ _ hm
  have hw0 : ∀ n ∈ DataW.weights Tryz.prog 27 d0, n ≤ reachBytes := fun n hn => of_decide_eq_true (List.all_eq_true.1 hz2 n (DataW.weights_mem_each (j := 0) rfl rfl n hn))
  obtain ⟨fs0, hf0⟩ := struct_of (P := Tryz.prog) (t := 27) (by kernel_rfl)
  obtain ⟨c0, rfl, _⟩ := okWide_struct hf0 (hval 0 27 v0 rfl rfl)
  obtain ⟨a0, e0, g0, hk0⟩ := RdM.open (w := W) rdm_node h0 hw0
  obtain rfl : c0 = ⟨NV.cells a0⟩ := Array.toList_inj.1 e0
  have lt1 : ∀ x ∈ p1, x.block < W.heap.size := by obtain ⟨m, hm⟩ := h1; exact DataW.trod_lt m _ _ _ hm
  have hw1 : ∀ n ∈ DataW.weights Tryz.prog 28 d1, n ≤ reachBytes := fun n hn => of_decide_eq_true (List.all_eq_true.1 hz2 n (DataW.weights_mem_each (j := 1) rfl rfl n hn))
  obtain ⟨ap1, al1, ac1, rfl⟩ := okWide_slice (show Tryz.prog.underlying 28 = some (.slice 3) from by kernel_rfl) (hval 1 28 v1 rfl rfl)
  obtain ⟨⟨bp1, bl1, bc1, bx1⟩, e1, g1⟩ := Rd.open (w := W) rd_sl_int h1 hw1
  obtain ⟨rfl, rfl, rfl⟩ : ap1 = bp1 ∧ al1 = bl1 ∧ ac1 = bc1 := by have e : [Value.slice ap1 al1 ac1] = [Value.slice bp1 bl1 bc1] := e1; simpa using e
  have hbulk := bulk_all (hcond _ rfl)
  simp only [Rows.uptoBulkAll, List.cons_append, List.nil_append, List.append_nil] at hbulk
  have hk1 := bulk_slice (show Tryz.prog.underlying 28 = some (.slice 3) from by kernel_rfl) h1
  clear hA0 hval0
  have key := TopLabels_ok (w := W) hT g0 g1 (by first | omega | (simp only; omega))
  unfold callJ at key
  refine Calls.mono key fun e W' h => ?_
  obtain ⟨r, rfl, rfl, hc⟩ := h
  have bel := hc.below
  exact ⟨_, rfl, _, _, _, [], _, [], hW', trodAll_mk1 (shut_bool (show Tryz.prog.underlying 4 = some .bool from by kernel_rfl) _), (trodAll_cons_mk (Below.trod topLabels_laid (by kernel_rfl) (of_decide_eq_true (by kernel_rfl)) h0 bel lt0) (trodAll_cons_mk (Below.trod topLabels_laid (by kernel_rfl) (of_decide_eq_true (by kernel_rfl)) h1 bel lt1) trodAll_mk0)), rfl, bel.frame _, fun h => by cases h⟩

theorem topLabels_over : Rows.topLabelsUptoRow.holds Tryz.pinned (Rows.OpenSpec.upto Rows.topLabelsSpec) :=
  OpenClaim.holds_of_cond 3 Tryz.f3 rfl rfl rfl rfl rfl rfl rfl ⟨rfl, rfl, rfl, rfl, rfl⟩ rfl rfl rfl rfl rfl (by kernel_rfl) Tryz.func3 (by kernel_rfl)
    (of_decide_eq_true (by kernel_rfl)) (by unfold Func.isWrapper; first | (rw [if_pos (by decide +kernel)]; kernel_rfl) | (rw [if_neg (by decide +kernel)]; exact ⟨rfl, rfl⟩))
    (fun os started H enc _ F => by rw [OpenClaim.pre_eq_preRow]; exact topLabels_lifted os started H enc F)

/-- THE STATEMENT: the row, tied to the program's text (the tie is given). -/
theorem topLabels_said : Rows.TopLabelsUptoCardSaid :=
  Claim7.holds_tied_plain_at .later [] [.data, .data, .data, .data, .data, .data, .pinned, .pinned] true (true, "61c894a968ae6582e1712fd6acf6a8736567a98be6c3c4e13b742b32c77c257b") true topLabels_over (fun _ h => by cases h) (by kernel_rfl) (fun _ h => by cases h) topLabelsUpto_row_tie rfl ⟨rfl, rfl⟩ (by kernel_rfl) rfl
    (fun f fn hf hfn => by
      obtain rfl : f = 3 := Option.some.inj ((show Tryz.prog.funcNamed "lectern/lecterntop.TopLabels" = some 3 by kernel_rfl).symm.trans hf) |>.symm
      obtain rfl : fn = Tryz.f3 := (Option.some.inj (Tryz.func3.symm.trans hfn)).symm
      exact ⟨by kernel_rfl, fun j t ht => by
        rw [Tryz.params3] at ht
        have hm : t ∈ [27, 28] := by simpa using Array.mem_of_getElem? ht
        have hall : ([27, 28].all fun u => !Tryz.prog.wantsStandIn u) = true := by kernel_rfl
        exact (show Tryz.prog.wantsStandIn t = false by simpa using List.all_eq_true.1 hall t hm)⟩)
    (by kernel_rfl)
#print axioms topLabels_said

end Go.Proofs.YtmnbgcgealpcbaaGreatDoor
