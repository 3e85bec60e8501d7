/-
  Chapter 2's statements, but Reads.
-/
import Derived.Test.YtdjehimkijlhgaaGreatDoorRefC
import Derived.Test.YtdjehimkijlhgaaGreatDoorRd02
set_option linter.unusedVariables false
set_option linter.unusedSimpArgs false
namespace Go.Vc
open Go Go.Lib
theorem read_awake : readL false 0 [97, 38, 103, 116, 59, 98] [] = ([97, 62, 98], 0, 0) := by
  have e1 : stepL false [97, 38, 103, 116, 59, 98] = ([97], 1, 0) := by decide
  have e2 : stepL false [38, 103, 116, 59, 98] = ([62], 4, 0) := by decide
  have e3 : stepL false [98] = ([98], 1, 0) := by decide
  rw [readL_step (by simp) (by rw [e1]), e1]
  simp only [List.drop_succ_cons, List.drop_zero]
  rw [readL_step (by simp) (by rw [e2]), e2]
  simp only [List.drop_succ_cons, List.drop_zero]
  rw [readL_step (by simp) (by rw [e3]), e3]
  simp only [List.drop_succ_cons, List.drop_zero]
  rw [readL_nil]; rfl
end Go.Vc
namespace Go.Proofs.YtdjehimkijlhgaaGreatDoor
open Go Go.Vc Go.Lib
section
variable {w : World}
theorem cvBc {s : ByteArray} {K : Option Addr → Nat → Nat → World → Prop} (k : ∀ b c w', Bytes w' (some ⟨b, 0, none⟩) s.size (bl s) → s.size ≤ c → Chg No w w' → K (some ⟨b, 0, none⟩) s.size c w') :
    cvJ Tryz.prog T_string T_sl_uint8 (.string s) w K := by
  refine ⟨_, _, _, _, Lib.run_convert_string_bytes (P := Tryz.prog) w T_string T_sl_uint8 T_uint8 s (u := .string) (by kernel_rfl) (by kernel_rfl) (by kernel_rfl), k _ _ _ ⟨by rw [bcells_length, bl_len, Nat.mul_one], .inr ⟨_, rfl, ?_⟩⟩ (grownCap_ge _ _ _ _) ?_⟩
  · intro j v hv
    unfold bcells at hv
    rw [List.getElem?_map, Option.map_eq_some_iff] at hv
    obtain ⟨b, hb, rfl⟩ := hv
    have hj : j < s.size := by rw [← bl_len]; exact (List.getElem?_eq_some_iff.1 hb).1
    have := Lib.bytesWorld_cell w T_uint8 s j hj
    rw [Addr.add_mk, Nat.zero_add, this, List.getD_eq_getElem?_getD, hb]; rfl
  · exact ⟨rfl, rfl, rfl, by rw [Lib.bytesWorld_size]; omega, fun b hb _ => Lib.bytesWorld_at_old w T_uint8 s b hb⟩
theorem ReadText_ok {p : Option Addr} {l c : Nat} {bs : List UInt8} {J : ByteArray → Int → Int → World → Prop} (h : Bytes w p l bs) (hlc : l ≤ c) (hm : l ≤ 140737488355328) (T : Tabs w)
    (K : ∀ w', Chg No w w' → J (mkB (readL false 0 bs []).1) ((readL false 0 bs []).2.1 : Int) ((readL false 0 bs []).2.2 : Int) w') :
    callJ Tryz.prog fn_refer_ReadText #[.slice p l c] w [.one .str, .one (.int .i64), .one (.int .i64)] J := by
  refine c_refer_ReadText ?_
  unfold VC_refer_ReadText
  exact ReadC_ok h hlc hm T K
theorem ReadValue_ok {p : Option Addr} {l c : Nat} {bs : List UInt8} {J : ByteArray → Int → Int → World → Prop} (h : Bytes w p l bs) (hlc : l ≤ c) (hm : l ≤ 140737488355328) (T : Tabs w)
    (K : ∀ w', Chg No w w' → J (mkB (readL true 0 bs []).1) ((readL true 0 bs []).2.1 : Int) ((readL true 0 bs []).2.2 : Int) w') :
    callJ Tryz.prog fn_refer_ReadValue #[.slice p l c] w [.one .str, .one (.int .i64), .one (.int .i64)] J := by
  refine c_refer_ReadValue ?_
  unfold VC_refer_ReadValue
  exact ReadC_ok h hlc hm T K
theorem awake02_ok {J : Bool → World → Prop} (T : Tabs w) (k : ∀ w', Chg No w w' → J true w') : callJ Tryz.prog fn_law02_awake #[] w [.one .bool] J := by
  refine c_law02_awake ?_
  unfold VC_law02_awake
  refine litB (bs := [38, 35, 120, 52, 49, 59]) rfl fun b8 w2 h2 _ hc2 => ?_
  refine Expand_ok h2 (Nat.le_refl _) (by decide) (fun hbad => absurd hbad (by decide)) fun i hi _ _ w3 hc3 => ?_
  obtain rfl : i = 0 := by omega
  rw [show expL (List.drop (0 + 1) [38, 35, 120, 52, 49, 59]) = (65, 5, 0) from by decide]
  have c03 := hc2.trans0 hc3
  refine litB (bs := [97, 38, 103, 116, 59, 98]) rfl fun b15 w5 h5 _ hc5 => ?_
  have c05 := c03.trans0 hc5
  refine ReadText_ok h5 (Nat.le_refl _) (by decide) (T.chg c05) fun w6 hc6 => ?_
  have c06 := c05.trans0 hc6
  rw [read_awake]
  refine withJ_i fun J0 hJ0 => ?_
  subst hJ0
  refine condB_i (fun _ => ?_) (fun h => by cases h)
  refine condB_i (fun _ => ?_) (fun h => absurd h (by decide))
  refine condB_i (fun _ => ?_) (fun h => by cases h)
  rw [beqS]
  refine condB_i (fun _ => ?_) (fun h => absurd (of_decide_eq_false h) (by intro h; exact h rfl))
  refine condB_i (fun _ => ?_) (fun h => by cases h)
  refine Text_ok (by decide) fun w8 hc8 => ?_
  rw [beqS, decide_eq_true (show mkB (subst txtP (bl ⟨#[97, 60, 98]⟩)) = ⟨#[97, 38, 108, 116, 59, 98]⟩ from rfl)]
  exact k w8 (c06.trans0 hc8)
end
end Go.Proofs.YtdjehimkijlhgaaGreatDoor

