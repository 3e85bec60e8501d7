/- The statement 'TopCanon' of this seat: whatever the input, the law returns true, and the input reads as it did. No condition. -/
import Derived.Test.YtglnmjflpkeclaaGreatDoorZ6
import Derived.WalkKit
import Derived.OrdersHeld
import Derived.Laws.StructEq
import Derived.ChangeKeysEq
import Derived.ScopeJumps
import Derived.Test.YtglnmjflpkeclaaGreatDoorProg
import Derived.KernelRfl
import Derived.Lib.SlBytesConst
import Derived.Tactics
import Derived.Tactics2
import Derived.Defers
import Derived.Laws.Pointers
import Derived.Laws.LoneSync
import Derived.RegionTactic
import Derived.RegionCalls
import Derived.ChangeAlike
import Derived.Lib.DecodeNEq
import Derived.Lib.Strings
import Derived.Lib.ValidAsc
import Derived.Lib.EndianBits
import Derived.Laws.BitsAllLaws
import Derived.Shelf.Unicode.DecodeSlow
import Derived.Lib.ConvBytes
import Derived.Lib.Bytealg
import Derived.Laws.Externs
import Derived.Lib.BytesEntry
import Derived.Lib.AppendStr
import Derived.ArgAppend
import Derived.Laws.Runes
import Derived.ChangeArms
import Derived.OpenShut
import Derived.SizedLaws
import Derived.Test.YtglnmjflpkeclaaGreatDoorRows
import Derived.Shelf.Strings.Search3
import Derived.Shelf.Strings.SlTrimAscii
import Derived.Shelf.Sort.Plain
import Derived.Sort.OwnSorted
import Derived.Shelf.Slices.CompactS
import Derived.Shelf.Bytes.SlIndexWhole
import Derived.Shelf.Strings.Fold
import Derived.Shelf.Bytes.SlCountOne
import Derived.Lib.LaidU8T
import Derived.MakeChecks
import GoSem.PinnedTables
import Derived.Shelf.Vars
import Derived.Shelf.Strings.Builder1
import Derived.Shelf.Strconv.Itoa3
import Derived.Shelf.Spec.SearchS
import Derived.Lib.ItoaLen
import Derived.Test.YtglnmjflpkeclaaGreatDoorTie
import Derived.Test.YtglnmjflpkeclaaGreatDoorCards
import Derived.ProofKit
import Derived.ShutString
import Derived.ChangeOld
import Derived.Below
import Derived.Handed
import Derived.LaidLaws
import Derived.Lay
import Derived.LaidOnce
import Derived.SevenTiedAt
import Derived.Deep.DeepHandedRow
import Derived.JoinedCond
import Derived.Stop.Joined
set_option linter.unusedSectionVars false
set_option linter.unusedVariables false
set_option linter.unusedSimpArgs false
set_option maxRecDepth 100000
open List
section
namespace Go.Proofs.YtglnmjflpkeclaaGreatDoor
open Go Go.Vc Go.ChangeShapes Go.WideShapes Go.ChangeAt Go.RowKit Go.ChangeMaps
theorem topCanon_own : ownKnob Tryz.prog.godebug = none := by kernel_rfl
theorem topCanon_laid : laidOutB Tryz.prog = true := by kernel_rfl
set_option maxRecDepth 100000 in
theorem topCanon_lifted (os : Os) (started : os.Started) (H : Type) (enc : TypeId × Value -> H) :
  ∀ F : Stop.Interp, ReturnsInHanded {} Tryz.checked os 3 .any ((OpenSpec.ofChange Rows.topCanonSpec).preRow enc Tryz.prog Tryz.f3 Rows.topCanonRow.domain false Rows.topCanonRow.laid) (((OpenSpec.ofChange Rows.topCanonSpec).at F).post enc Tryz.prog Tryz.f3 false true false false) := by
 intro F
 have hx : ∃ places, DataW.whole enc Tryz.prog ((World.laidAll Tryz.prog os Rows.topCanonRow.laid).forCall (fun _ _ => 0) ⟨#[], #[.slice none 0 0, .slice none 0 0], []⟩).memory Tryz.f3.params.toList Rows.topCanonSpec.vars false (#[.slice none 0 0, .slice none 0 0] : Array Value).toList 8 = some ([.nil, .nil], [], places) := ⟨[], by kernel_rfl⟩
 obtain ⟨places, hx⟩ := hx
 have hokB : Input.okWideB Tryz.prog ((World.laidAll Tryz.prog os Rows.topCanonRow.laid).forCall (fun _ _ => 0) ⟨#[], #[.slice none 0 0, .slice none 0 0], []⟩) 3 ⟨#[], #[.slice none 0 0, .slice none 0 0], []⟩ = true := by kernel_rfl
 refine returnsInHanded_of_row (C := Tryz.checked) (s := OpenSpec.ofChange Rows.topCanonSpec) topCanon_own started (by kernel_rfl) Tryz.func3
  ⟨World.laidAll Tryz.prog os Rows.topCanonRow.laid, fun _ _ => 0, ⟨#[], #[.slice none 0 0, .slice none 0 0], []⟩, World.laidAll_os _ _ _, World.shaped_of_ZipB (by kernel_rfl) (by kernel_rfl), (Input.okWide_of_okWideB (base := 0) hokB).1, (Input.okWide_of_okWideB hokB).2,
   OpenSpec.preRow_of_cond 8 hx (by kernel_rfl) (fun k hk => by cases hk) (by kernel_rfl) (by rw [MakeChecks.laidMetH_plain _ _ _ (by kernel_rfl)]; exact laidMet_laidAll _ (by kernel_rfl) (by kernel_rfl)),
   by simp only [Assume.holds]; exact ⟨by simp, by simp, fun _ => Modest.zero, by simp, by simp⟩⟩ ?_
 intro W base args ds gs before hval0 hW hcnd hcond hz hL hsh _
 rw [MakeChecks.laidMetH_plain _ _ _ (by kernel_rfl)] at hL
 have hT : TP W := tp_of_laid hL hsh
 have hval : ∀ (j : Nat) t v, Tryz.f3.params[j]? = some t -> args[j]? = some v -> Value.okWide Tryz.prog W .any base t v := hval0
 have hW' := hW
 obtain ⟨p, q, hA0, hV, rfl, hfz, hnd⟩ := hW
 have hA : DataW.TrodAll enc Tryz.prog W 0 (fun _ => true) true Tryz.f3.params.toList args.toList ds p := hA0
 rw [Tryz.params3] at hA hval
 have hz2 : ((DataW.weightsEach Tryz.prog ([22, 22] : List TypeId) (ds ++ gs)).all (· <= reachBytes)) = true := by rw [show ([22, 22] : List TypeId) = Tryz.f3.params.toList ++ Rows.topCanonSpec.plain.varTypes Tryz.prog from by kernel_rfl]; exact hz
 obtain ⟨v0, vs0, d0, ds0, p0, q0, hargs, rfl, rfl, h0, r0⟩ := trodAll_cons hA
 obtain ⟨v1, vs1, d1, ds1, p1, q1, rfl, rfl, rfl, h1, r1⟩ := trodAll_cons r0
 obtain ⟨rfl, rfl, rfl⟩ := trodAll_nil r1
 obtain rfl : args = #[v0, v1] := by cases args; simp_all
 obtain ⟨rfl, rfl⟩ := trodVars_none hV
 have lt0 : ∀ x ∈ p0, x.block < W.heap.size := by obtain ⟨m, hm⟩ := h0; exact DataW.trod_lt m _ _ _ hm
 have hw0 : ∀ n ∈ DataW.weights Tryz.prog 22 d0, n <= reachBytes := fun n hn => of_decide_eq_true (all_eq_true.1 hz2 n (DataW.weights_mem_each (j := 0) rfl rfl n hn))
 obtain ⟨ap0, al0, ac0, rfl⟩ := okWide_slice (show Tryz.prog.underlying 22 = some (.slice 5) from by kernel_rfl) (hval 0 22 v0 rfl rfl)
 obtain ⟨⟨bp0, bl0, bc0, bx0⟩, e0, g0⟩ := Rd.open (w := W) Yh9 h0 hw0
 obtain ⟨rfl, rfl, rfl⟩ : ap0 = bp0 /\ al0 = bl0 /\ ac0 = bc0 := by have e : [Value.slice ap0 al0 ac0] = [Value.slice bp0 bl0 bc0] := e0; simpa using e
 have lt1 : ∀ x ∈ p1, x.block < W.heap.size := by obtain ⟨m, hm⟩ := h1; exact DataW.trod_lt m _ _ _ hm
 have hw1 : ∀ n ∈ DataW.weights Tryz.prog 22 d1, n <= reachBytes := fun n hn => of_decide_eq_true (all_eq_true.1 hz2 n (DataW.weights_mem_each (j := 1) rfl rfl n hn))
 obtain ⟨ap1, al1, ac1, rfl⟩ := okWide_slice (show Tryz.prog.underlying 22 = some (.slice 5) from by kernel_rfl) (hval 1 22 v1 rfl rfl)
 obtain ⟨⟨bp1, bl1, bc1, bx1⟩, e1, g1⟩ := Rd.open (w := W) Yh9 h1 hw1
 obtain ⟨rfl, rfl, rfl⟩ : ap1 = bp1 /\ al1 = bl1 /\ ac1 = bc1 := by have e : [Value.slice ap1 al1 ac1] = [Value.slice bp1 bl1 bc1] := e1; simpa using e
 clear hA0 hval0
 have key := TopCanon_ok (w := W) hT g0 g1
 unfold Zz0 at key
 refine Calls.mono key fun e W' h => ?_
 obtain ⟨r, rfl, rfl, hc⟩ := h
 have bel := hc.below
 exact ⟨_, rfl, _, _, _, [], _, [], hW', trodAll_mk1 (shut_bool (show Tryz.prog.underlying 4 = some .bool from by kernel_rfl) _), (trodAll_cons_mk (Below.trod topCanon_laid (by kernel_rfl) (of_decide_eq_true (by kernel_rfl)) h0 bel lt0) (trodAll_cons_mk (Below.trod topCanon_laid (by kernel_rfl) (of_decide_eq_true (by kernel_rfl)) h1 bel lt1) trodAll_mk0)), rfl, bel.frame _, fun h => by cases h⟩
theorem topCanon_over : Rows.topCanonRow.holds Tryz.pinned (OpenSpec.ofChange Rows.topCanonSpec) :=
 OpenClaim.holds_of_cond 3 Tryz.f3 rfl rfl rfl rfl rfl rfl rfl ⟨rfl, rfl, rfl, rfl, rfl⟩ rfl rfl rfl rfl rfl (by kernel_rfl) Tryz.func3 (by kernel_rfl)
  (of_decide_eq_true (by kernel_rfl)) (by unfold Func.isWrapper; first | (rw [if_pos (by decide +kernel)]; kernel_rfl) | (rw [if_neg (by decide +kernel)]; exact ⟨rfl, rfl⟩))
  (fun os started H enc _ F => by rw [OpenClaim.pre_eq_preRow]; exact topCanon_lifted os started H enc F)
theorem topCanon_said : Rows.TopCanonCardSaid :=
 Claim7.holds_tied_plain_at .later [] [.data, .data, .data, .data, .data, .data, .pinned, .pinned] true (true, "f706ed7dd52cfff32a46962ce08da6c615939da4046fe618df7e7f186fe60421") true topCanon_over (fun _ h => by cases h) (by kernel_rfl) (fun _ h => by cases h) topCanon_row_tie rfl ⟨rfl, rfl⟩ (by kernel_rfl) rfl
  (fun f fn hf hfn => by
   obtain rfl : f = 3 := Option.some.inj ((show Tryz.prog.funcNamed "lectern/lecterntop.TopCanon" = some 3 by kernel_rfl).symm.trans hf) |>.symm
   obtain rfl : fn = Tryz.f3 := (Option.some.inj (Tryz.func3.symm.trans hfn)).symm
   exact ⟨by kernel_rfl, fun j t ht => by
    rw [Tryz.params3] at ht
    have hm : t ∈ [22, 22] := by simpa using Array.mem_of_getElem? ht
    have hall : ([22, 22].all fun u => !Tryz.prog.wantsStandIn u) = true := by kernel_rfl
    exact (show Tryz.prog.wantsStandIn t = false by simpa using all_eq_true.1 hall t hm)⟩)
  (by kernel_rfl)
#print axioms topCanon_said
end Go.Proofs.YtglnmjflpkeclaaGreatDoor
end
