/- The statement 'TopPlaces' of this seat: whatever the input (of bulk at most 1048576), the law returns true, and the input reads as it did. -/
import Derived.Test.YtlnfaaghdkngmaaGreatDoorZ10
import Derived.Lib.DecodeNEq
import Derived.Lib.Strings
import Derived.WalkKit
import Derived.OrdersHeld
import Derived.Laws.StructEq
import Derived.ChangeKeysEq
import Derived.ScopeJumps
import Derived.Test.YtlnfaaghdkngmaaGreatDoorProg
import Derived.KernelRfl
import Derived.Lib.SlBytesConst
import Derived.Lib.ValidAsc
import Derived.Lib.EndianBits
import Derived.Laws.BitsAllLaws
import Derived.Shelf.Unicode.DecodeSlow
import Derived.Lib.ConvBytes
import Derived.Lib.Bytealg
import Derived.Laws.Externs
import Derived.Shelf.Strings.Search3
import Derived.Shelf.Strings.SlTrimAscii
import Derived.ChangeArms
import Derived.OpenShut
import Derived.SizedLaws
import Derived.Test.YtlnfaaghdkngmaaGreatDoorRows
import Derived.Lib.LaidU8T
import Derived.MakeChecks
import GoSem.PinnedTables
import Derived.Shelf.Vars
import Derived.Lib.Overlaps
import Derived.Lib.AppendZerosOnto
import Derived.Shelf.SlLaysF0
import Derived.Shelf.SlSortCmp.WholeK
import Derived.Defers
import Derived.Tactics
import Derived.Tactics2
import Derived.Recover
import Derived.Laws.Pointers
import Derived.Shelf.Strconv.Itoa3
import Derived.Lib.ItoaLen
import Derived.Lib.SplitLaws
import Derived.Lib.AtoiTie
import Derived.Shelf.Strings.Cut
import Derived.Shelf.Strings.Split
import Derived.Shelf.Strconv.AtoiAll
import Derived.Deep.AppendSrc
import Derived.Laws.Runes
import Derived.Laws.CopyRow
import Derived.Lib.BufferWrite
import Derived.Shelf.Bytes.SlIndexWhole
import Derived.Laws.LoneSync
import Derived.RegionTactic
import Derived.RegionCalls
import Derived.ChangeAlike
import Derived.Shelf.Strings.Builder1
import Derived.Lib.UnsafeStr
import Derived.Test.YtlnfaaghdkngmaaGreatDoorOwnOa
import Derived.Test.YtlnfaaghdkngmaaGreatDoorOwnOb
import Derived.Test.YtlnfaaghdkngmaaGreatDoorOwnSa
import Derived.Test.YtlnfaaghdkngmaaGreatDoorOwnSb
import Derived.Test.YtlnfaaghdkngmaaGreatDoorOwnTie
import Derived.Test.YtlnfaaghdkngmaaGreatDoorCards
import Derived.ProofKit
import Derived.ShutString
import Derived.ChangeOld
import Derived.Below
import Derived.Handed
import Derived.LaidLaws
import Derived.Lay
import Derived.LaidOnce
import Derived.SevenTiedAt
import Derived.Deep.DeepHandedRow
import Derived.JoinedCond
import Derived.Stop.Joined
set_option linter.unusedSectionVars false
set_option linter.unusedVariables false
set_option linter.unusedSimpArgs false
set_option maxRecDepth 100000
open List
section
namespace Go.Proofs.YtlnfaaghdkngmaaGreatDoor
open Go Go.Vc Go.ChangeShapes Go.WideShapes Go.ChangeAt Go.RowKit Go.ChangeMaps
theorem topPlaces_own : ownKnob Tryz.prog.godebug = none := by kernel_rfl
theorem topPlaces_laid : laidOutB Tryz.prog = true := by kernel_rfl
set_option maxRecDepth 100000 in
theorem topPlaces_lifted (os : Os) (started : os.Started) (H : Type) (enc : TypeId × Value -> H) :
  ∀ F : Stop.Interp, ReturnsInHanded {} Tryz.checked os 3 .any ((Rows.OpenSpec.upto Rows.topPlacesSpec).preRow enc Tryz.prog Tryz.f3 Rows.topPlacesUptoRow.domain false Rows.topPlacesUptoRow.laid) (((Rows.OpenSpec.upto Rows.topPlacesSpec).at F).post enc Tryz.prog Tryz.f3 false true false false) := by
 intro F
 have hx : ∃ places, DataW.whole enc Tryz.prog ((World.laidAll Tryz.prog os Rows.topPlacesUptoRow.laid).forCall (fun _ _ => 0) ⟨#[], #[.agg #[.int .i64 0, .string ByteArray.empty, .string ByteArray.empty, .slice none 0 0, .slice none 0 0, .string ByteArray.empty], .slice none 0 0, .agg #[.int .i64 0, .string ByteArray.empty, .string ByteArray.empty, .slice none 0 0, .slice none 0 0, .string ByteArray.empty], .string ByteArray.empty], []⟩).memory Tryz.f3.params.toList Rows.topPlacesSpec.vars false (#[.agg #[.int .i64 0, .string ByteArray.empty, .string ByteArray.empty, .slice none 0 0, .slice none 0 0, .string ByteArray.empty], .slice none 0 0, .agg #[.int .i64 0, .string ByteArray.empty, .string ByteArray.empty, .slice none 0 0, .slice none 0 0, .string ByteArray.empty], .string ByteArray.empty] : Array Value).toList 8 = some ([.agg [.lit (.int .i64 0), .agg [.lit (.string []), .lit (.string [])], .nil, .nil, .lit (.string [])], .nil, .agg [.lit (.int .i64 0), .agg [.lit (.string []), .lit (.string [])], .nil, .nil, .lit (.string [])], .lit (.string [])], [], places) := ⟨[], by kernel_rfl⟩
 obtain ⟨places, hx⟩ := hx
 have hokB : Input.okWideB Tryz.prog ((World.laidAll Tryz.prog os Rows.topPlacesUptoRow.laid).forCall (fun _ _ => 0) ⟨#[], #[.agg #[.int .i64 0, .string ByteArray.empty, .string ByteArray.empty, .slice none 0 0, .slice none 0 0, .string ByteArray.empty], .slice none 0 0, .agg #[.int .i64 0, .string ByteArray.empty, .string ByteArray.empty, .slice none 0 0, .slice none 0 0, .string ByteArray.empty], .string ByteArray.empty], []⟩) 3 ⟨#[], #[.agg #[.int .i64 0, .string ByteArray.empty, .string ByteArray.empty, .slice none 0 0, .slice none 0 0, .string ByteArray.empty], .slice none 0 0, .agg #[.int .i64 0, .string ByteArray.empty, .string ByteArray.empty, .slice none 0 0, .slice none 0 0, .string ByteArray.empty], .string ByteArray.empty], []⟩ = true := by kernel_rfl
 refine returnsInHanded_of_row (C := Tryz.checked) (s := Rows.OpenSpec.upto Rows.topPlacesSpec) topPlaces_own started (by kernel_rfl) Tryz.func3
  ⟨World.laidAll Tryz.prog os Rows.topPlacesUptoRow.laid, fun _ _ => 0, ⟨#[], #[.agg #[.int .i64 0, .string ByteArray.empty, .string ByteArray.empty, .slice none 0 0, .slice none 0 0, .string ByteArray.empty], .slice none 0 0, .agg #[.int .i64 0, .string ByteArray.empty, .string ByteArray.empty, .slice none 0 0, .slice none 0 0, .string ByteArray.empty], .string ByteArray.empty], []⟩, World.laidAll_os _ _ _, World.shaped_of_ZipB (by kernel_rfl) (by kernel_rfl), (Input.okWide_of_okWideB (base := 0) hokB).1, (Input.okWide_of_okWideB hokB).2,
   OpenSpec.preRow_of_cond 8 hx (by kernel_rfl) (fun k hk => by cases hk; kernel_rfl) (by kernel_rfl) (by rw [MakeChecks.laidMetH_plain _ _ _ (by kernel_rfl)]; exact laidMet_laidAll _ (by kernel_rfl) (by kernel_rfl)),
   by simp only [Assume.holds]; exact ⟨by simp, by simp, fun _ => Modest.zero, by simp, by simp⟩⟩ ?_
 intro W base args ds gs before hval0 hW hcnd hcond hz hL hsh _
 rw [MakeChecks.laidMetH_plain _ _ _ (by kernel_rfl)] at hL
 have hT : TP W := tp_of_laid hL hsh
 have hval : ∀ (j : Nat) t v, Tryz.f3.params[j]? = some t -> args[j]? = some v -> Value.okWide Tryz.prog W .any base t v := hval0
 have hW' := hW
 obtain ⟨p, q, hA0, hV, rfl, hfz, hnd⟩ := hW
 have hA : DataW.TrodAll enc Tryz.prog W 0 (fun _ => true) true Tryz.f3.params.toList args.toList ds p := hA0
 rw [Tryz.params3] at hA hval
 have hz2 : ((DataW.weightsEach Tryz.prog ([27, 28, 27, 9] : List TypeId) (ds ++ gs)).all (· <= reachBytes)) = true := by rw [show ([27, 28, 27, 9] : List TypeId) = Tryz.f3.params.toList ++ Rows.topPlacesSpec.plain.varTypes Tryz.prog from by kernel_rfl]; exact hz
 obtain ⟨v0, vs0, d0, ds0, p0, q0, hargs, rfl, rfl, h0, r0⟩ := trodAll_cons hA
 obtain ⟨v1, vs1, d1, ds1, p1, q1, rfl, rfl, rfl, h1, r1⟩ := trodAll_cons r0
 obtain ⟨v2, vs2, d2, ds2, p2, q2, rfl, rfl, rfl, h2, r2⟩ := trodAll_cons r1
 obtain ⟨v3, vs3, d3, ds3, p3, q3, rfl, rfl, rfl, h3, r3⟩ := trodAll_cons r2
 obtain ⟨rfl, rfl, rfl⟩ := trodAll_nil r3
 obtain rfl : args = #[v0, v1, v2, v3] := by cases args; simp_all
 obtain ⟨rfl, rfl⟩ := trodVars_none hV
 have lt0 : ∀ x ∈ p0, x.block < W.heap.size := by obtain ⟨m, hm⟩ := h0; exact DataW.trod_lt m _ _ _ hm
 have hw0 : ∀ n ∈ DataW.weights Tryz.prog 27 d0, n <= reachBytes := fun n hn => of_decide_eq_true (all_eq_true.1 hz2 n (DataW.weights_mem_each (j := 0) rfl rfl n hn))
 obtain ⟨fs0, hf0⟩ := struct_of (P := Tryz.prog) (t := 27) (by kernel_rfl)
 obtain ⟨c0, rfl, _⟩ := okWide_struct hf0 (hval 0 27 v0 rfl rfl)
 obtain ⟨a0, e0, g0, hk0⟩ := RdM.open (w := W) rdm_node h0 hw0
 obtain rfl : c0 = ⟨NV.cells a0⟩ := Array.toList_inj.1 e0
 have lt1 : ∀ x ∈ p1, x.block < W.heap.size := by obtain ⟨m, hm⟩ := h1; exact DataW.trod_lt m _ _ _ hm
 have hw1 : ∀ n ∈ DataW.weights Tryz.prog 28 d1, n <= reachBytes := fun n hn => of_decide_eq_true (all_eq_true.1 hz2 n (DataW.weights_mem_each (j := 1) rfl rfl n hn))
 obtain ⟨ap1, al1, ac1, rfl⟩ := okWide_slice (show Tryz.prog.underlying 28 = some (.slice 3) from by kernel_rfl) (hval 1 28 v1 rfl rfl)
 obtain ⟨⟨bp1, bl1, bc1, bx1⟩, e1, g1⟩ := Rd.open (w := W) rd_sl_int h1 hw1
 obtain ⟨rfl, rfl, rfl⟩ : ap1 = bp1 /\ al1 = bl1 /\ ac1 = bc1 := by have e : [Value.slice ap1 al1 ac1] = [Value.slice bp1 bl1 bc1] := e1; simpa using e
 have lt2 : ∀ x ∈ p2, x.block < W.heap.size := by obtain ⟨m, hm⟩ := h2; exact DataW.trod_lt m _ _ _ hm
 have hw2 : ∀ n ∈ DataW.weights Tryz.prog 27 d2, n <= reachBytes := fun n hn => of_decide_eq_true (all_eq_true.1 hz2 n (DataW.weights_mem_each (j := 2) rfl rfl n hn))
 obtain ⟨fs2, hf2⟩ := struct_of (P := Tryz.prog) (t := 27) (by kernel_rfl)
 obtain ⟨c2, rfl, _⟩ := okWide_struct hf2 (hval 2 27 v2 rfl rfl)
 obtain ⟨a2, e2, g2, hk2⟩ := RdM.open (w := W) rdm_node h2 hw2
 obtain rfl : c2 = ⟨NV.cells a2⟩ := Array.toList_inj.1 e2
 have lt3 : ∀ x ∈ p3, x.block < W.heap.size := by obtain ⟨m, hm⟩ := h3; exact DataW.trod_lt m _ _ _ hm
 have hw3 : ∀ n ∈ DataW.weights Tryz.prog 9 d3, n <= reachBytes := fun n hn => of_decide_eq_true (all_eq_true.1 hz2 n (DataW.weights_mem_each (j := 3) rfl rfl n hn))
 obtain ⟨n3, rfl⟩ := okWide_string (show Tryz.prog.underlying 9 = some .string from by kernel_rfl) (hval 3 9 v3 rfl rfl)
 obtain ⟨a3, e3, g3⟩ := Rd.open (w := W) rd_string h3 hw3
 obtain rfl : n3 = a3 := by simpa [Value.cells] using e3
 have hbulk := bulk_all (hcond _ rfl)
 simp only [Rows.uptoBulkAll, cons_append, nil_append, append_nil] at hbulk
 have hk1 := bulk_slice (show Tryz.prog.underlying 28 = some (.slice 3) from by kernel_rfl) h1
 have hk3 := bulk_string (show Tryz.prog.underlying 9 = some .string from by kernel_rfl) h3
 clear hA0 hval0
 have key := TopPlaces_ok (w := W) hT g0 g1 g2 g3 (by first | omega | (simp only; omega))
 unfold Zz1 at key
 refine Calls.mono key fun e W' h => ?_
 obtain ⟨r, rfl, rfl, hc⟩ := h
 have bel := hc.below
 exact ⟨_, rfl, _, _, _, [], _, [], hW', trodAll_mk1 (shut_bool (show Tryz.prog.underlying 4 = some .bool from by kernel_rfl) _), (trodAll_cons_mk (Below.trod topPlaces_laid (by kernel_rfl) (of_decide_eq_true (by kernel_rfl)) h0 bel lt0) (trodAll_cons_mk (Below.trod topPlaces_laid (by kernel_rfl) (of_decide_eq_true (by kernel_rfl)) h1 bel lt1) (trodAll_cons_mk (Below.trod topPlaces_laid (by kernel_rfl) (of_decide_eq_true (by kernel_rfl)) h2 bel lt2) (trodAll_cons_mk (Below.trod topPlaces_laid (by kernel_rfl) (of_decide_eq_true (by kernel_rfl)) h3 bel lt3) trodAll_mk0)))), rfl, bel.frame _, fun h => by cases h⟩
theorem topPlaces_over : Rows.topPlacesUptoRow.holds Tryz.pinned (Rows.OpenSpec.upto Rows.topPlacesSpec) :=
 OpenClaim.holds_of_cond 3 Tryz.f3 rfl rfl rfl rfl rfl rfl rfl ⟨rfl, rfl, rfl, rfl, rfl⟩ rfl rfl rfl rfl rfl oFn Tryz.func3 oClosed oInst oWrap
  (fun os started H enc _ F => by rw [OpenClaim.pre_eq_preRow]; exact topPlaces_lifted os started H enc F)
theorem topPlaces_said : Rows.TopPlacesUptoCardSaid :=
 Claim7.holds_tied_plain_at .later [] [.pinned, .data, .data, .data, .pinned, .data, .data, .data, .sentinel, .sentinel] true (true, "3a0bf9a078ea10de296726696762c660bcb27b87321e2123f6863c70079e8844") true topPlaces_over (fun _ h => by cases h) sWf (fun _ h => by cases h) topPlacesUpto_row_tie rfl ⟨rfl, rfl⟩ sMain rfl
  (fun f fn hf hfn => by
   obtain rfl : f = 3 := Option.some.inj (oFn.symm.trans hf) |>.symm
   obtain rfl : fn = Tryz.f3 := (Option.some.inj (Tryz.func3.symm.trans hfn)).symm
   exact ⟨sLooks, fun j t ht => by
    rw [Tryz.params3] at ht
    have hm : t ∈ [27, 28, 27, 9] := by simpa using Array.mem_of_getElem? ht
    have hall := sHall
    exact (show Tryz.prog.wantsStandIn t = false by simpa using all_eq_true.1 hall t hm)⟩)
  sGoes
#print axioms topPlaces_said
end Go.Proofs.YtlnfaaghdkngmaaGreatDoor
end
