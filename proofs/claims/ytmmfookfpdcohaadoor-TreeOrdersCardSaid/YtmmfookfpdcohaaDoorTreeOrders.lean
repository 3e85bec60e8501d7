/-
  The statement 'TreeOrders' of this seat: whatever the input, the law returns true, and the input reads as it did. No condition.
-/
import Derived.Test.YtmmfookfpdcohaaDoorLaws05
import Derived.Test.YtmmfookfpdcohaaDoorRdT
import Derived.Test.YtmmfookfpdcohaaDoorTie
import Derived.Test.YtmmfookfpdcohaaDoorCards
import Derived.Test.YtmmfookfpdcohaaDoorRows
import Derived.ProofKit
import Derived.OpenShut
import Derived.ShutString
import Derived.ChangeOld
import Derived.Below
import Derived.SizedLaws
import Derived.Handed
import Derived.LaidLaws
import Derived.Lay
import Derived.LaidOnce
import Derived.SevenTiedAt
import Derived.Deep.DeepHandedRow
import Derived.JoinedCond
import Derived.Stop.Joined
set_option linter.unusedVariables false
set_option linter.unusedSimpArgs false
namespace Go.Proofs.YtmmfookfpdcohaaDoor
open Go Go.Vc Go.ChangeShapes Go.WideShapes Go.ChangeAt Go.RowKit Go.ChangeMaps

theorem treeOrders_own : ownKnob Tryd.prog.godebug = none := by kernel_rfl
theorem treeOrders_laid : laidOutB Tryd.prog = true := by kernel_rfl

set_option maxRecDepth 100000 in
theorem treeOrders_lifted (os : Os) (started : os.Started) (H : Type) (enc : TypeId × Value → H) :
    ∀ F : Stop.Interp, ReturnsInHanded {} Tryd.checked os 3 .any ((OpenSpec.ofChange Rows.treeOrdersSpec).preRow enc Tryd.prog Tryd.f3 Rows.treeOrdersRow.domain false Rows.treeOrdersRow.laid) (((OpenSpec.ofChange Rows.treeOrdersSpec).at F).post enc Tryd.prog Tryd.f3 false true false false) := by
  intro F
  have hx : ∃ places, DataW.whole enc Tryd.prog ((World.laidAll Tryd.prog os Rows.treeOrdersRow.laid).forCall (fun _ _ => 0) ⟨#[], #[.agg #[.string ByteArray.empty, .string ByteArray.empty], .agg #[.string ByteArray.empty, .string ByteArray.empty], .agg #[.string ByteArray.empty, .string ByteArray.empty]], []⟩).memory Tryd.f3.params.toList Rows.treeOrdersSpec.vars false (#[.agg #[.string ByteArray.empty, .string ByteArray.empty], .agg #[.string ByteArray.empty, .string ByteArray.empty], .agg #[.string ByteArray.empty, .string ByteArray.empty]] : Array Value).toList 8 = some ([.agg [.lit (.string []), .lit (.string [])], .agg [.lit (.string []), .lit (.string [])], .agg [.lit (.string []), .lit (.string [])]], [], places) := ⟨[], by kernel_rfl⟩
  obtain ⟨places, hx⟩ := hx
  have hokB : Input.okWideB Tryd.prog ((World.laidAll Tryd.prog os Rows.treeOrdersRow.laid).forCall (fun _ _ => 0) ⟨#[], #[.agg #[.string ByteArray.empty, .string ByteArray.empty], .agg #[.string ByteArray.empty, .string ByteArray.empty], .agg #[.string ByteArray.empty, .string ByteArray.empty]], []⟩) 3 ⟨#[], #[.agg #[.string ByteArray.empty, .string ByteArray.empty], .agg #[.string ByteArray.empty, .string ByteArray.empty], .agg #[.string ByteArray.empty, .string ByteArray.empty]], []⟩ = true := by kernel_rfl
  refine returnsInHanded_of_row (C := Tryd.checked) (s := OpenSpec.ofChange Rows.treeOrdersSpec) treeOrders_own started (by kernel_rfl) Tryd.func3
    ⟨World.laidAll Tryd.prog os Rows.treeOrdersRow.laid, fun _ _ => 0, ⟨#[], #[.agg #[.string ByteArray.empty, .string ByteArray.empty], .agg #[.string ByteArray.empty, .string ByteArray.empty], .agg #[.string ByteArray.empty, .string ByteArray.empty]], []⟩, World.laidAll_os _ _ _, World.shaped_of_ZipB (by kernel_rfl) (by kernel_rfl), (Input.okWide_of_okWideB (base := 0) hokB).1, (Input.okWide_of_okWideB hokB).2,
      OpenSpec.preRow_of_cond 8 hx (by kernel_rfl) (fun k hk => by cases hk) (by kernel_rfl) (by rw [MakeChecks.laidMetH_plain _ _ _ (by kernel_rfl)]; exact laidMet_laidAll _ (by kernel_rfl) (by kernel_rfl)),
      by simp only [Assume.holds]; exact ⟨by simp, by simp, fun _ => Modest.zero, by simp, by simp⟩⟩ ?_
  intro W base args ds gs before hval0 hW hcnd hcond hz hL hsh _
  rw [MakeChecks.laidMetH_plain _ _ _ (by kernel_rfl)] at hL
  have hT : TT W := tt_of_laid hL hsh
  have hval : ∀ (j : Nat) t v, Tryd.f3.params[j]? = some t → args[j]? = some v → Value.okWide Tryd.prog W .any base t v := hval0
  have hW' := hW
  obtain ⟨p, q, hA0, hV, rfl, hfz, hnd⟩ := hW
  have hA : DataW.TrodAll enc Tryd.prog W 0 (fun _ => true) true Tryd.f3.params.toList args.toList ds p := hA0
  rw [Tryd.params3] at hA hval
  have hz2 : ((DataW.weightsEach Tryd.prog ([23, 23, 23] : List TypeId) (ds ++ gs)).all (· ≤ reachBytes)) = true := by rw [show ([23, 23, 23] : List TypeId) = Tryd.f3.params.toList ++ Rows.treeOrdersSpec.plain.varTypes Tryd.prog from by kernel_rfl]; exact hz
  obtain ⟨v0, vs0, d0, ds0, p0, q0, hargs, rfl, rfl, h0, r0⟩ := trodAll_cons hA
  obtain ⟨v1, vs1, d1, ds1, p1, q1, rfl, rfl, rfl, h1, r1⟩ := trodAll_cons r0
  obtain ⟨v2, vs2, d2, ds2, p2, q2, rfl, rfl, rfl, h2, r2⟩ := trodAll_cons r1
  obtain ⟨rfl, rfl, rfl⟩ := trodAll_nil r2
  obtain rfl : args = #[v0, v1, v2] := by cases args; simp_all
  obtain ⟨rfl, rfl⟩ := trodVars_none hV
  have lt0 : ∀ x ∈ p0, x.block < W.heap.size := by obtain ⟨m, hm⟩ := h0; exact DataW.trod_lt m _ _ _ hm
  have hw0 : ∀ n ∈ DataW.weights Tryd.prog 23 d0, n ≤ reachBytes := fun n hn => of_decide_eq_true (List.all_eq_true.1 hz2 n (DataW.weights_mem_each (j := 0) rfl rfl n hn))
  obtain ⟨fs0, hf0⟩ := struct_of (P := Tryd.prog) (t := 23) (by kernel_rfl)
  obtain ⟨c0, rfl, _⟩ := okWide_struct hf0 (hval 0 23 v0 rfl rfl)
  obtain ⟨a0, e0, g0, hk0⟩ := RdM.open (w := W) rdm_name h0 hw0
  obtain rfl : c0 = ⟨pr a0⟩ := Array.toList_inj.1 e0
  have lt1 : ∀ x ∈ p1, x.block < W.heap.size := by obtain ⟨m, hm⟩ := h1; exact DataW.trod_lt m _ _ _ hm
  have hw1 : ∀ n ∈ DataW.weights Tryd.prog 23 d1, n ≤ reachBytes := fun n hn => of_decide_eq_true (List.all_eq_true.1 hz2 n (DataW.weights_mem_each (j := 1) rfl rfl n hn))
  obtain ⟨fs1, hf1⟩ := struct_of (P := Tryd.prog) (t := 23) (by kernel_rfl)
  obtain ⟨c1, rfl, _⟩ := okWide_struct hf1 (hval 1 23 v1 rfl rfl)
  obtain ⟨a1, e1, g1, hk1⟩ := RdM.open (w := W) rdm_name h1 hw1
  obtain rfl : c1 = ⟨pr a1⟩ := Array.toList_inj.1 e1
  have lt2 : ∀ x ∈ p2, x.block < W.heap.size := by obtain ⟨m, hm⟩ := h2; exact DataW.trod_lt m _ _ _ hm
  have hw2 : ∀ n ∈ DataW.weights Tryd.prog 23 d2, n ≤ reachBytes := fun n hn => of_decide_eq_true (List.all_eq_true.1 hz2 n (DataW.weights_mem_each (j := 2) rfl rfl n hn))
  obtain ⟨fs2, hf2⟩ := struct_of (P := Tryd.prog) (t := 23) (by kernel_rfl)
  obtain ⟨c2, rfl, _⟩ := okWide_struct hf2 (hval 2 23 v2 rfl rfl)
  obtain ⟨a2, e2, g2, hk2⟩ := RdM.open (w := W) rdm_name h2 hw2
  obtain rfl : c2 = ⟨pr a2⟩ := Array.toList_inj.1 e2
  clear hA0 hval0
  have key := TreeOrders_ok (w := W) hT g0 g1 g2
  unfold callJ at key
  refine Calls.mono key fun e W' h => ?_
  obtain ⟨r, rfl, rfl, hc⟩ := h
  have bel := hc.below
  exact ⟨_, rfl, _, _, _, [], _, [], hW', trodAll_mk1 (shut_bool (show Tryd.prog.underlying 4 = some .bool from by kernel_rfl) _), (trodAll_cons_mk (Below.trod treeOrders_laid (by kernel_rfl) (of_decide_eq_true (by kernel_rfl)) h0 bel lt0) (trodAll_cons_mk (Below.trod treeOrders_laid (by kernel_rfl) (of_decide_eq_true (by kernel_rfl)) h1 bel lt1) (trodAll_cons_mk (Below.trod treeOrders_laid (by kernel_rfl) (of_decide_eq_true (by kernel_rfl)) h2 bel lt2) trodAll_mk0))), rfl, bel.frame _, fun h => by cases h⟩

theorem treeOrders_over : Rows.treeOrdersRow.holds Tryd.pinned (OpenSpec.ofChange Rows.treeOrdersSpec) :=
  OpenClaim.holds_of_cond 3 Tryd.f3 rfl rfl rfl rfl rfl rfl rfl ⟨rfl, rfl, rfl, rfl, rfl⟩ rfl rfl rfl rfl rfl (by kernel_rfl) Tryd.func3 (by kernel_rfl)
    (of_decide_eq_true (by kernel_rfl)) (by unfold Func.isWrapper; first | (rw [if_pos (by decide +kernel)]; kernel_rfl) | (rw [if_neg (by decide +kernel)]; exact ⟨rfl, rfl⟩))
    (fun os started H enc _ F => by rw [OpenClaim.pre_eq_preRow]; exact treeOrders_lifted os started H enc F)

/-- THE STATEMENT: the row, tied to the program's text (the tie is given). -/
theorem treeOrders_said : Rows.TreeOrdersCardSaid :=
  Claim7.holds_tied_plain_at .later [] [.data, .data, .data, .pinned, .pinned] true (true, "9ded105db01681103e0f9927d46faa25e8dcf83955437f18778f6da93b533c92") false treeOrders_over (fun _ h => by cases h) (by kernel_rfl) (fun _ h => by cases h) treeOrders_row_tie rfl ⟨rfl, rfl⟩ (by kernel_rfl) rfl
    (fun f fn hf hfn => by
      obtain rfl : f = 3 := Option.some.inj ((show Tryd.prog.funcNamed "lectern/lecternlaw05.TreeOrders" = some 3 by kernel_rfl).symm.trans hf) |>.symm
      obtain rfl : fn = Tryd.f3 := (Option.some.inj (Tryd.func3.symm.trans hfn)).symm
      exact ⟨by kernel_rfl, fun j t ht => by
        rw [Tryd.params3] at ht
        have hm : t ∈ [23, 23, 23] := by simpa using Array.mem_of_getElem? ht
        have hall : ([23, 23, 23].all fun u => !Tryd.prog.wantsStandIn u) = true := by kernel_rfl
        exact (show Tryd.prog.wantsStandIn t = false by simpa using List.all_eq_true.1 hall t hm)⟩)
    (by kernel_rfl)
#print axioms treeOrders_said

end Go.Proofs.YtmmfookfpdcohaaDoor
