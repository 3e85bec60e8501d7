/-
  The statement 'EditKeeps' of this seat: whatever the input (of bulk at most 1048576), the law returns true, and the input reads as it did.
-/
import Derived.Test.YtkgfbphdmnapdaaGreatDoorLaws09X
import Derived.Test.YtkgfbphdmnapdaaGreatDoorEdit
import Derived.Test.YtkgfbphdmnapdaaGreatDoorPre5
import Derived.Test.YtkgfbphdmnapdaaGreatDoorTie
import Derived.Test.YtkgfbphdmnapdaaGreatDoorCards
import Derived.Test.YtkgfbphdmnapdaaGreatDoorBulk
import Derived.Test.YtkgfbphdmnapdaaGreatDoorRows
import Derived.ProofKit
import Derived.OpenShut
import Derived.ShutString
import Derived.ChangeOld
import Derived.Below
import Derived.SizedLaws
import Derived.Handed
import Derived.LaidLaws
import Derived.Lay
import Derived.LaidOnce
import Derived.SevenTiedAt
import Derived.Deep.DeepHandedRow
import Derived.JoinedCond
import Derived.Stop.Joined
set_option linter.unusedVariables false
set_option linter.unusedSimpArgs false
namespace Go.Proofs.YtkgfbphdmnapdaaGreatDoor
open Go Go.Vc Go.ChangeShapes Go.WideShapes Go.ChangeAt Go.RowKit Go.ChangeMaps

theorem editKeeps_own : ownKnob Tryz.prog.godebug = none := by kernel_rfl
theorem editKeeps_laid : laidOutB Tryz.prog = true := by kernel_rfl

set_option maxRecDepth 100000 in
theorem editKeeps_lifted (os : Os) (started : os.Started) (H : Type) (enc : TypeId × Value → H) :
    ∀ F : Stop.Interp, ReturnsInHanded {} Tryz.checked os 5 .any ((Rows.OpenSpec.upto Rows.editKeepsSpec).preRow enc Tryz.prog Tryz.f5 Rows.editKeepsUptoRow.domain false Rows.editKeepsUptoRow.laid) (((Rows.OpenSpec.upto Rows.editKeepsSpec).at F).post enc Tryz.prog Tryz.f5 false true false false) := by
  intro F
  have hx : ∃ places, DataW.whole enc Tryz.prog ((World.laidAll Tryz.prog os Rows.editKeepsUptoRow.laid).forCall (fun _ _ => 0) ⟨#[], #[.agg #[.int .i64 0, .string ByteArray.empty, .string ByteArray.empty, .slice none 0 0, .slice none 0 0, .string ByteArray.empty], .agg #[.int .i64 0, .slice none 0 0, .string ByteArray.empty, .string ByteArray.empty, .string ByteArray.empty, .int .i64 0, .string ByteArray.empty, .string ByteArray.empty, .slice none 0 0, .slice none 0 0, .string ByteArray.empty]], []⟩).memory Tryz.f5.params.toList Rows.editKeepsSpec.vars false (#[.agg #[.int .i64 0, .string ByteArray.empty, .string ByteArray.empty, .slice none 0 0, .slice none 0 0, .string ByteArray.empty], .agg #[.int .i64 0, .slice none 0 0, .string ByteArray.empty, .string ByteArray.empty, .string ByteArray.empty, .int .i64 0, .string ByteArray.empty, .string ByteArray.empty, .slice none 0 0, .slice none 0 0, .string ByteArray.empty]] : Array Value).toList 8 = some ([.agg [.lit (.int .i64 0), .agg [.lit (.string []), .lit (.string [])], .nil, .nil, .lit (.string [])], .agg [.lit (.int .i64 0), .nil, .agg [.lit (.string []), .lit (.string [])], .lit (.string []), .agg [.lit (.int .i64 0), .agg [.lit (.string []), .lit (.string [])], .nil, .nil, .lit (.string [])]]], [], places) := ⟨[], by kernel_rfl⟩
  obtain ⟨places, hx⟩ := hx
  have hokB : Input.okWideB Tryz.prog ((World.laidAll Tryz.prog os Rows.editKeepsUptoRow.laid).forCall (fun _ _ => 0) ⟨#[], #[.agg #[.int .i64 0, .string ByteArray.empty, .string ByteArray.empty, .slice none 0 0, .slice none 0 0, .string ByteArray.empty], .agg #[.int .i64 0, .slice none 0 0, .string ByteArray.empty, .string ByteArray.empty, .string ByteArray.empty, .int .i64 0, .string ByteArray.empty, .string ByteArray.empty, .slice none 0 0, .slice none 0 0, .string ByteArray.empty]], []⟩) 5 ⟨#[], #[.agg #[.int .i64 0, .string ByteArray.empty, .string ByteArray.empty, .slice none 0 0, .slice none 0 0, .string ByteArray.empty], .agg #[.int .i64 0, .slice none 0 0, .string ByteArray.empty, .string ByteArray.empty, .string ByteArray.empty, .int .i64 0, .string ByteArray.empty, .string ByteArray.empty, .slice none 0 0, .slice none 0 0, .string ByteArray.empty]], []⟩ = true := by kernel_rfl
  refine returnsInHanded_of_row (C := Tryz.checked) (s := Rows.OpenSpec.upto Rows.editKeepsSpec) editKeeps_own started (by kernel_rfl) Tryz.func5
    ⟨World.laidAll Tryz.prog os Rows.editKeepsUptoRow.laid, fun _ _ => 0, ⟨#[], #[.agg #[.int .i64 0, .string ByteArray.empty, .string ByteArray.empty, .slice none 0 0, .slice none 0 0, .string ByteArray.empty], .agg #[.int .i64 0, .slice none 0 0, .string ByteArray.empty, .string ByteArray.empty, .string ByteArray.empty, .int .i64 0, .string ByteArray.empty, .string ByteArray.empty, .slice none 0 0, .slice none 0 0, .string ByteArray.empty]], []⟩, World.laidAll_os _ _ _, World.shaped_of_ZipB (by kernel_rfl) (by kernel_rfl), (Input.okWide_of_okWideB (base := 0) hokB).1, (Input.okWide_of_okWideB hokB).2,
      OpenSpec.preRow_of_cond 8 hx (by kernel_rfl) (fun k hk => by cases hk; kernel_rfl) (by kernel_rfl) (by rw [MakeChecks.laidMetH_plain _ _ _ (by kernel_rfl)]; exact laidMet_laidAll _ (by kernel_rfl) (by kernel_rfl)),
      by simp only [Assume.holds]; exact ⟨by simp, by simp, fun _ => Modest.zero, by simp, by simp⟩⟩ ?_
  intro W base args ds gs before hval0 hW hcnd hcond hz hL hsh _
  rw [MakeChecks.laidMetH_plain _ _ _ (by kernel_rfl)] at hL
  have hT : TT W := tt_of_laid hL hsh
  have hval : ∀ (j : Nat) t v, Tryz.f5.params[j]? = some t → args[j]? = some v → Value.okWide Tryz.prog W .any base t v := hval0
  have hW' := hW
  obtain ⟨p, q, hA0, hV, rfl, hfz, hnd⟩ := hW
  have hA : DataW.TrodAll enc Tryz.prog W 0 (fun _ => true) true Tryz.f5.params.toList args.toList ds p := hA0
  rw [Tryz.params5] at hA hval
  have hz2 : ((DataW.weightsEach Tryz.prog ([27, 30] : List TypeId) (ds ++ gs)).all (· ≤ reachBytes)) = true := by rw [show ([27, 30] : List TypeId) = Tryz.f5.params.toList ++ Rows.editKeepsSpec.plain.varTypes Tryz.prog from by kernel_rfl]; exact hz
  obtain ⟨v0, vs0, d0, ds0, p0, q0, hargs, rfl, rfl, h0, r0⟩ := trodAll_cons hA
  obtain ⟨v1, vs1, d1, ds1, p1, q1, rfl, rfl, rfl, h1, r1⟩ := trodAll_cons r0
  obtain ⟨rfl, rfl, rfl⟩ := trodAll_nil r1
  obtain rfl : args = #[v0, v1] := by cases args; simp_all
  obtain ⟨rfl, rfl⟩ := trodVars_none hV
  have lt0 : ∀ x ∈ p0, x.block < W.heap.size := by obtain ⟨m, hm⟩ := h0; exact DataW.trod_lt m _ _ _ hm
  have hw0 : ∀ n ∈ DataW.weights Tryz.prog 27 d0, n ≤ reachBytes := fun n hn => of_decide_eq_true (List.all_eq_true.1 hz2 n (DataW.weights_mem_each (j := 0) rfl rfl n hn))
  obtain ⟨fs0, hf0⟩ := struct_of (P := Tryz.prog) (t := 27) (by kernel_rfl)
  obtain ⟨c0, rfl, _⟩ := okWide_struct hf0 (hval 0 27 v0 rfl rfl)
  obtain ⟨a0, e0, g0, hk0⟩ := RdM.open (w := W) rdm_node h0 hw0
  obtain rfl : c0 = ⟨NV.cells a0⟩ := Array.toList_inj.1 e0
  have lt1 : ∀ x ∈ p1, x.block < W.heap.size := by obtain ⟨m, hm⟩ := h1; exact DataW.trod_lt m _ _ _ hm
  have hw1 : ∀ n ∈ DataW.weights Tryz.prog 30 d1, n ≤ reachBytes := fun n hn => of_decide_eq_true (List.all_eq_true.1 hz2 n (DataW.weights_mem_each (j := 1) rfl rfl n hn))
  obtain ⟨fs1, hf1⟩ := struct_of (P := Tryz.prog) (t := 30) (by kernel_rfl)
  obtain ⟨c1, rfl, _⟩ := okWide_struct hf1 (hval 1 30 v1 rfl rfl)
  obtain ⟨a1, e1, g1, hk1⟩ := RdM.open (w := W) rdm_edit h1 hw1
  obtain rfl : c1 = ⟨EV.cells a1⟩ := Array.toList_inj.1 e1
  have hbulk := bulk_all (hcond _ rfl)
  simp only [Rows.uptoBulkAll, List.cons_append, List.nil_append, List.append_nil] at hbulk
  clear hA0 hval0
  have key := EditKeeps_ok (w := W) hT g0 g1 (by first | omega | (simp only; omega))
  unfold callJ at key
  refine Calls.mono key fun e W' h => ?_
  obtain ⟨r, rfl, rfl, hc⟩ := h
  have bel := hc.below
  exact ⟨_, rfl, _, _, _, [], _, [], hW', trodAll_mk1 (shut_bool (show Tryz.prog.underlying 4 = some .bool from by kernel_rfl) _), (trodAll_cons_mk (Below.trod editKeeps_laid (by kernel_rfl) (of_decide_eq_true (by kernel_rfl)) h0 bel lt0) (trodAll_cons_mk (Below.trod editKeeps_laid (by kernel_rfl) (of_decide_eq_true (by kernel_rfl)) h1 bel lt1) trodAll_mk0)), rfl, bel.frame _, fun h => by cases h⟩

theorem editKeeps_over : Rows.editKeepsUptoRow.holds Tryz.pinned (Rows.OpenSpec.upto Rows.editKeepsSpec) :=
  OpenClaim.holds_of_cond 5 Tryz.f5 rfl rfl rfl rfl rfl rfl rfl ⟨rfl, rfl, rfl, rfl, rfl⟩ rfl rfl rfl rfl rfl (by kernel_rfl) Tryz.func5 (by kernel_rfl)
    (of_decide_eq_true (by kernel_rfl)) (by unfold Func.isWrapper; first | (rw [if_pos (by decide +kernel)]; kernel_rfl) | (rw [if_neg (by decide +kernel)]; exact ⟨rfl, rfl⟩))
    (fun os started H enc _ F => by rw [OpenClaim.pre_eq_preRow]; exact editKeeps_lifted os started H enc F)

/-- THE STATEMENT: the row, tied to the program's text (the tie is given). -/
theorem editKeeps_said : Rows.EditKeepsUptoCardSaid :=
  Claim7.holds_tied_plain_at .later [] [.data, .data, .data, .pinned, .pinned] true (true, "6fa22bcd00d4fbd701ecd1470098ca57d525bfb3fabb2d1e931740dc14491ed9") false editKeeps_over (fun _ h => by cases h) (by kernel_rfl) (fun _ h => by cases h) editKeepsUpto_row_tie rfl ⟨rfl, rfl⟩ (by kernel_rfl) rfl
    (fun f fn hf hfn => by
      obtain rfl : f = 5 := Option.some.inj ((show Tryz.prog.funcNamed "lectern/lecternlaw09.EditKeeps" = some 5 by kernel_rfl).symm.trans hf) |>.symm
      obtain rfl : fn = Tryz.f5 := (Option.some.inj (Tryz.func5.symm.trans hfn)).symm
      exact ⟨by kernel_rfl, fun j t ht => by
        rw [Tryz.params5] at ht
        have hm : t ∈ [27, 30] := by simpa using Array.mem_of_getElem? ht
        have hall : ([27, 30].all fun u => !Tryz.prog.wantsStandIn u) = true := by kernel_rfl
        exact (show Tryz.prog.wantsStandIn t = false by simpa using List.all_eq_true.1 hall t hm)⟩)
    (by kernel_rfl)
#print axioms editKeeps_said

end Go.Proofs.YtkgfbphdmnapdaaGreatDoor
