/- The statement 'TopPieces' of this seat: whatever the input, the law returns true, and the input reads as it did. No condition. -/
import Derived.Test.YtglnmjflpkeclaaGreatDoorZ6
import Derived.WalkKit
import Derived.OrdersHeld
import Derived.Laws.StructEq
import Derived.ChangeKeysEq
import Derived.ScopeJumps
import Derived.Test.YtglnmjflpkeclaaGreatDoorProg
import Derived.KernelRfl
import Derived.Lib.SlBytesConst
import Derived.Tactics
import Derived.Tactics2
import Derived.Defers
import Derived.Laws.Pointers
import Derived.Laws.LoneSync
import Derived.RegionTactic
import Derived.RegionCalls
import Derived.ChangeAlike
import Derived.Lib.DecodeNEq
import Derived.Lib.Strings
import Derived.Lib.ValidAsc
import Derived.Lib.EndianBits
import Derived.Laws.BitsAllLaws
import Derived.Shelf.Unicode.DecodeSlow
import Derived.Lib.ConvBytes
import Derived.Lib.Bytealg
import Derived.Laws.Externs
import Derived.Lib.BytesEntry
import Derived.Lib.AppendStr
import Derived.ArgAppend
import Derived.Laws.Runes
import Derived.ChangeArms
import Derived.OpenShut
import Derived.SizedLaws
import Derived.Test.YtglnmjflpkeclaaGreatDoorRows
import Derived.Shelf.Strings.Search3
import Derived.Shelf.Strings.SlTrimAscii
import Derived.Shelf.Sort.Plain
import Derived.Sort.OwnSorted
import Derived.Shelf.Slices.CompactS
import Derived.Shelf.Bytes.SlIndexWhole
import Derived.Shelf.Strings.Fold
import Derived.Shelf.Bytes.SlCountOne
import Derived.Lib.LaidU8T
import Derived.MakeChecks
import GoSem.PinnedTables
import Derived.Shelf.Vars
import Derived.Shelf.Strings.Builder1
import Derived.Shelf.Strconv.Itoa3
import Derived.Shelf.Spec.SearchS
import Derived.Lib.ItoaLen
import Derived.Test.YtglnmjflpkeclaaGreatDoorTie
import Derived.Test.YtglnmjflpkeclaaGreatDoorCards
import Derived.ProofKit
import Derived.ShutString
import Derived.ChangeOld
import Derived.Below
import Derived.Handed
import Derived.LaidLaws
import Derived.Lay
import Derived.LaidOnce
import Derived.SevenTiedAt
import Derived.Deep.DeepHandedRow
import Derived.JoinedCond
import Derived.Stop.Joined
set_option linter.unusedSectionVars false
set_option linter.unusedVariables false
set_option linter.unusedSimpArgs false
set_option maxRecDepth 100000
open List
section
namespace Go.Proofs.YtglnmjflpkeclaaGreatDoor
open Go Go.Vc Go.ChangeShapes Go.WideShapes Go.ChangeAt Go.RowKit Go.ChangeMaps
theorem topPieces_own : ownKnob Tryz.prog.godebug = none := by kernel_rfl
theorem topPieces_laid : laidOutB Tryz.prog = true := by kernel_rfl
set_option maxRecDepth 100000 in
theorem topPieces_lifted (os : Os) (started : os.Started) (H : Type) (enc : TypeId × Value -> H) :
  ∀ F : Stop.Interp, ReturnsInHanded {} Tryz.checked os 4 .any ((OpenSpec.ofChange Rows.topPiecesSpec).preRow enc Tryz.prog Tryz.f4 Rows.topPiecesRow.domain false Rows.topPiecesRow.laid) (((OpenSpec.ofChange Rows.topPiecesSpec).at F).post enc Tryz.prog Tryz.f4 false true false false) := by
 intro F
 have hx : ∃ places, DataW.whole enc Tryz.prog ((World.laidAll Tryz.prog os Rows.topPiecesRow.laid).forCall (fun _ _ => 0) ⟨#[], #[.slice none 0 0, .string ByteArray.empty, .string ByteArray.empty, .string ByteArray.empty], []⟩).memory Tryz.f4.params.toList Rows.topPiecesSpec.vars false (#[.slice none 0 0, .string ByteArray.empty, .string ByteArray.empty, .string ByteArray.empty] : Array Value).toList 8 = some ([.nil, .lit (.string []), .lit (.string []), .lit (.string [])], [], places) := ⟨[], by kernel_rfl⟩
 obtain ⟨places, hx⟩ := hx
 have hokB : Input.okWideB Tryz.prog ((World.laidAll Tryz.prog os Rows.topPiecesRow.laid).forCall (fun _ _ => 0) ⟨#[], #[.slice none 0 0, .string ByteArray.empty, .string ByteArray.empty, .string ByteArray.empty], []⟩) 4 ⟨#[], #[.slice none 0 0, .string ByteArray.empty, .string ByteArray.empty, .string ByteArray.empty], []⟩ = true := by kernel_rfl
 refine returnsInHanded_of_row (C := Tryz.checked) (s := OpenSpec.ofChange Rows.topPiecesSpec) topPieces_own started (by kernel_rfl) Tryz.func4
  ⟨World.laidAll Tryz.prog os Rows.topPiecesRow.laid, fun _ _ => 0, ⟨#[], #[.slice none 0 0, .string ByteArray.empty, .string ByteArray.empty, .string ByteArray.empty], []⟩, World.laidAll_os _ _ _, World.shaped_of_ZipB (by kernel_rfl) (by kernel_rfl), (Input.okWide_of_okWideB (base := 0) hokB).1, (Input.okWide_of_okWideB hokB).2,
   OpenSpec.preRow_of_cond 8 hx (by kernel_rfl) (fun k hk => by cases hk) (by kernel_rfl) (by rw [MakeChecks.laidMetH_plain _ _ _ (by kernel_rfl)]; exact laidMet_laidAll _ (by kernel_rfl) (by kernel_rfl)),
   by simp only [Assume.holds]; exact ⟨by simp, by simp, fun _ => Modest.zero, by simp, by simp⟩⟩ ?_
 intro W base args ds gs before hval0 hW hcnd hcond hz hL hsh _
 rw [MakeChecks.laidMetH_plain _ _ _ (by kernel_rfl)] at hL
 have hT : TP W := tp_of_laid hL hsh
 have hval : ∀ (j : Nat) t v, Tryz.f4.params[j]? = some t -> args[j]? = some v -> Value.okWide Tryz.prog W .any base t v := hval0
 have hW' := hW
 obtain ⟨p, q, hA0, hV, rfl, hfz, hnd⟩ := hW
 have hA : DataW.TrodAll enc Tryz.prog W 0 (fun _ => true) true Tryz.f4.params.toList args.toList ds p := hA0
 rw [Tryz.params4] at hA hval
 have hz2 : ((DataW.weightsEach Tryz.prog ([22, 9, 9, 9] : List TypeId) (ds ++ gs)).all (· <= reachBytes)) = true := by rw [show ([22, 9, 9, 9] : List TypeId) = Tryz.f4.params.toList ++ Rows.topPiecesSpec.plain.varTypes Tryz.prog from by kernel_rfl]; exact hz
 obtain ⟨v0, vs0, d0, ds0, p0, q0, hargs, rfl, rfl, h0, r0⟩ := trodAll_cons hA
 obtain ⟨v1, vs1, d1, ds1, p1, q1, rfl, rfl, rfl, h1, r1⟩ := trodAll_cons r0
 obtain ⟨v2, vs2, d2, ds2, p2, q2, rfl, rfl, rfl, h2, r2⟩ := trodAll_cons r1
 obtain ⟨v3, vs3, d3, ds3, p3, q3, rfl, rfl, rfl, h3, r3⟩ := trodAll_cons r2
 obtain ⟨rfl, rfl, rfl⟩ := trodAll_nil r3
 obtain rfl : args = #[v0, v1, v2, v3] := by cases args; simp_all
 obtain ⟨rfl, rfl⟩ := trodVars_none hV
 have lt0 : ∀ x ∈ p0, x.block < W.heap.size := by obtain ⟨m, hm⟩ := h0; exact DataW.trod_lt m _ _ _ hm
 have hw0 : ∀ n ∈ DataW.weights Tryz.prog 22 d0, n <= reachBytes := fun n hn => of_decide_eq_true (all_eq_true.1 hz2 n (DataW.weights_mem_each (j := 0) rfl rfl n hn))
 obtain ⟨ap0, al0, ac0, rfl⟩ := okWide_slice (show Tryz.prog.underlying 22 = some (.slice 5) from by kernel_rfl) (hval 0 22 v0 rfl rfl)
 obtain ⟨⟨bp0, bl0, bc0, bx0⟩, e0, g0⟩ := Rd.open (w := W) rd_sl_uint8 h0 hw0
 obtain ⟨rfl, rfl, rfl⟩ : ap0 = bp0 /\ al0 = bl0 /\ ac0 = bc0 := by have e : [Value.slice ap0 al0 ac0] = [Value.slice bp0 bl0 bc0] := e0; simpa using e
 have lt1 : ∀ x ∈ p1, x.block < W.heap.size := by obtain ⟨m, hm⟩ := h1; exact DataW.trod_lt m _ _ _ hm
 have hw1 : ∀ n ∈ DataW.weights Tryz.prog 9 d1, n <= reachBytes := fun n hn => of_decide_eq_true (all_eq_true.1 hz2 n (DataW.weights_mem_each (j := 1) rfl rfl n hn))
 obtain ⟨n1, rfl⟩ := okWide_string (show Tryz.prog.underlying 9 = some .string from by kernel_rfl) (hval 1 9 v1 rfl rfl)
 obtain ⟨a1, e1, g1⟩ := Rd.open (w := W) Yhl h1 hw1
 obtain rfl : n1 = a1 := by simpa [Value.cells] using e1
 have lt2 : ∀ x ∈ p2, x.block < W.heap.size := by obtain ⟨m, hm⟩ := h2; exact DataW.trod_lt m _ _ _ hm
 have hw2 : ∀ n ∈ DataW.weights Tryz.prog 9 d2, n <= reachBytes := fun n hn => of_decide_eq_true (all_eq_true.1 hz2 n (DataW.weights_mem_each (j := 2) rfl rfl n hn))
 obtain ⟨n2, rfl⟩ := okWide_string (show Tryz.prog.underlying 9 = some .string from by kernel_rfl) (hval 2 9 v2 rfl rfl)
 obtain ⟨a2, e2, g2⟩ := Rd.open (w := W) Yhl h2 hw2
 obtain rfl : n2 = a2 := by simpa [Value.cells] using e2
 have lt3 : ∀ x ∈ p3, x.block < W.heap.size := by obtain ⟨m, hm⟩ := h3; exact DataW.trod_lt m _ _ _ hm
 have hw3 : ∀ n ∈ DataW.weights Tryz.prog 9 d3, n <= reachBytes := fun n hn => of_decide_eq_true (all_eq_true.1 hz2 n (DataW.weights_mem_each (j := 3) rfl rfl n hn))
 obtain ⟨n3, rfl⟩ := okWide_string (show Tryz.prog.underlying 9 = some .string from by kernel_rfl) (hval 3 9 v3 rfl rfl)
 obtain ⟨a3, e3, g3⟩ := Rd.open (w := W) Yhl h3 hw3
 obtain rfl : n3 = a3 := by simpa [Value.cells] using e3
 clear hA0 hval0
 have key := TopPieces_ok (w := W) hT g0 g1 g2 g3
 unfold Zz0 at key
 refine Calls.mono key fun e W' h => ?_
 obtain ⟨r, rfl, rfl, hc⟩ := h
 have bel := hc.below
 exact ⟨_, rfl, _, _, _, [], _, [], hW', trodAll_mk1 (shut_bool (show Tryz.prog.underlying 4 = some .bool from by kernel_rfl) _), (trodAll_cons_mk (Below.trod topPieces_laid (by kernel_rfl) (of_decide_eq_true (by kernel_rfl)) h0 bel lt0) (trodAll_cons_mk (Below.trod topPieces_laid (by kernel_rfl) (of_decide_eq_true (by kernel_rfl)) h1 bel lt1) (trodAll_cons_mk (Below.trod topPieces_laid (by kernel_rfl) (of_decide_eq_true (by kernel_rfl)) h2 bel lt2) (trodAll_cons_mk (Below.trod topPieces_laid (by kernel_rfl) (of_decide_eq_true (by kernel_rfl)) h3 bel lt3) trodAll_mk0)))), rfl, bel.frame _, fun h => by cases h⟩
theorem topPieces_over : Rows.topPiecesRow.holds Tryz.pinned (OpenSpec.ofChange Rows.topPiecesSpec) :=
 OpenClaim.holds_of_cond 4 Tryz.f4 rfl rfl rfl rfl rfl rfl rfl ⟨rfl, rfl, rfl, rfl, rfl⟩ rfl rfl rfl rfl rfl (by kernel_rfl) Tryz.func4 (by kernel_rfl)
  (of_decide_eq_true (by kernel_rfl)) (by unfold Func.isWrapper; first | (rw [if_pos (by decide +kernel)]; kernel_rfl) | (rw [if_neg (by decide +kernel)]; exact ⟨rfl, rfl⟩))
  (fun os started H enc _ F => by rw [OpenClaim.pre_eq_preRow]; exact topPieces_lifted os started H enc F)
theorem topPieces_said : Rows.TopPiecesCardSaid :=
 Claim7.holds_tied_plain_at .later [] [.data, .data, .data, .data, .data, .data, .pinned, .pinned] true (true, "f706ed7dd52cfff32a46962ce08da6c615939da4046fe618df7e7f186fe60421") true topPieces_over (fun _ h => by cases h) (by kernel_rfl) (fun _ h => by cases h) topPieces_row_tie rfl ⟨rfl, rfl⟩ (by kernel_rfl) rfl
  (fun f fn hf hfn => by
   obtain rfl : f = 4 := Option.some.inj ((show Tryz.prog.funcNamed "lectern/lecterntop.TopPieces" = some 4 by kernel_rfl).symm.trans hf) |>.symm
   obtain rfl : fn = Tryz.f4 := (Option.some.inj (Tryz.func4.symm.trans hfn)).symm
   exact ⟨by kernel_rfl, fun j t ht => by
    rw [Tryz.params4] at ht
    have hm : t ∈ [22, 9, 9, 9] := by simpa using Array.mem_of_getElem? ht
    have hall : ([22, 9, 9, 9].all fun u => !Tryz.prog.wantsStandIn u) = true := by kernel_rfl
    exact (show Tryz.prog.wantsStandIn t = false by simpa using all_eq_true.1 hall t hm)⟩)
  (by kernel_rfl)
#print axioms topPieces_said
end Go.Proofs.YtglnmjflpkeclaaGreatDoor
end
