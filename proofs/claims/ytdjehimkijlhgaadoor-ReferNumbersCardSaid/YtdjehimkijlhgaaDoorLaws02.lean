/-
  Chapter 2's statements, but Reads.
-/
import Derived.Test.YtdjehimkijlhgaaDoorRefC
import Derived.Test.YtdjehimkijlhgaaDoorRd02
set_option linter.unusedVariables false
set_option linter.unusedSimpArgs false
namespace Go.Vc
open Go Go.Lib
theorem read_awake : readL false 0 [97, 38, 103, 116, 59, 98] [] = ([97, 62, 98], 0, 0) := by
  have e1 : stepL false [97, 38, 103, 116, 59, 98] = ([97], 1, 0) := by decide
  have e2 : stepL false [38, 103, 116, 59, 98] = ([62], 4, 0) := by decide
  have e3 : stepL false [98] = ([98], 1, 0) := by decide
  rw [readL_step (by simp) (by rw [e1]), e1]
  simp only [List.drop_succ_cons, List.drop_zero]
  rw [readL_step (by simp) (by rw [e2]), e2]
  simp only [List.drop_succ_cons, List.drop_zero]
  rw [readL_step (by simp) (by rw [e3]), e3]
  simp only [List.drop_succ_cons, List.drop_zero]
  rw [readL_nil]; rfl
end Go.Vc
namespace Go.Proofs.YtdjehimkijlhgaaDoor
open Go Go.Vc Go.Lib
section
variable {w : World}
theorem cvBc {s : ByteArray} {K : Option Addr → Nat → Nat → World → Prop} (k : ∀ b c w', Bytes w' (some ⟨b, 0, none⟩) s.size (bl s) → s.size ≤ c → Chg No w w' → K (some ⟨b, 0, none⟩) s.size c w') :
    cvJ Tryd.prog T_string T_sl_uint8 (.string s) w K := by
  refine ⟨_, _, _, _, Lib.run_convert_string_bytes (P := Tryd.prog) w T_string T_sl_uint8 T_uint8 s (u := .string) (by kernel_rfl) (by kernel_rfl) (by kernel_rfl), k _ _ _ ⟨by rw [bcells_length, bl_len, Nat.mul_one], .inr ⟨_, rfl, ?_⟩⟩ (grownCap_ge _ _ _ _) ?_⟩
  · intro j v hv
    unfold bcells at hv
    rw [List.getElem?_map, Option.map_eq_some_iff] at hv
    obtain ⟨b, hb, rfl⟩ := hv
    have hj : j < s.size := by rw [← bl_len]; exact (List.getElem?_eq_some_iff.1 hb).1
    have := Lib.bytesWorld_cell w T_uint8 s j hj
    rw [Addr.add_mk, Nat.zero_add, this, List.getD_eq_getElem?_getD, hb]; rfl
  · exact ⟨rfl, rfl, rfl, by rw [Lib.bytesWorld_size]; omega, fun b hb _ => Lib.bytesWorld_at_old w T_uint8 s b hb⟩
theorem ReadText_ok {p : Option Addr} {l c : Nat} {bs : List UInt8} {J : ByteArray → Int → Int → World → Prop} (h : Bytes w p l bs) (hlc : l ≤ c) (hm : l ≤ 140737488355328) (T : Tabs w)
    (K : ∀ w', Chg No w w' → J (mkB (readL false 0 bs []).1) ((readL false 0 bs []).2.1 : Int) ((readL false 0 bs []).2.2 : Int) w') :
    callJ Tryd.prog fn_refer_ReadText #[.slice p l c] w [.one .str, .one (.int .i64), .one (.int .i64)] J := by
  refine c_refer_ReadText ?_
  unfold VC_refer_ReadText
  exact ReadC_ok h hlc hm T K
theorem ReadValue_ok {p : Option Addr} {l c : Nat} {bs : List UInt8} {J : ByteArray → Int → Int → World → Prop} (h : Bytes w p l bs) (hlc : l ≤ c) (hm : l ≤ 140737488355328) (T : Tabs w)
    (K : ∀ w', Chg No w w' → J (mkB (readL true 0 bs []).1) ((readL true 0 bs []).2.1 : Int) ((readL true 0 bs []).2.2 : Int) w') :
    callJ Tryd.prog fn_refer_ReadValue #[.slice p l c] w [.one .str, .one (.int .i64), .one (.int .i64)] J := by
  refine c_refer_ReadValue ?_
  unfold VC_refer_ReadValue
  exact ReadC_ok h hlc hm T K
theorem awake02_ok {J : Bool → World → Prop} (T : Tabs w) (k : ∀ w', Chg No w w' → J true w') : callJ Tryd.prog fn_law02_awake #[] w [.one .bool] J := by
  refine c_law02_awake ?_
  unfold VC_law02_awake
  refine litB (bs := [38, 35, 120, 52, 49, 59]) rfl fun b8 w2 h2 _ hc2 => ?_
  refine Expand_ok h2 (Nat.le_refl _) (by decide) (fun hbad => absurd hbad (by decide)) fun i hi _ _ w3 hc3 => ?_
  obtain rfl : i = 0 := by omega
  rw [show expL (List.drop (0 + 1) [38, 35, 120, 52, 49, 59]) = (65, 5, 0) from by decide]
  have c03 := hc2.trans0 hc3
  refine litB (bs := [97, 38, 103, 116, 59, 98]) rfl fun b15 w5 h5 _ hc5 => ?_
  have c05 := c03.trans0 hc5
  refine ReadText_ok h5 (Nat.le_refl _) (by decide) (T.chg c05) fun w6 hc6 => ?_
  have c06 := c05.trans0 hc6
  rw [read_awake]
  refine withJ_i fun J0 hJ0 => ?_
  subst hJ0
  refine condB_i (fun _ => ?_) (fun h => by cases h)
  refine condB_i (fun _ => ?_) (fun h => absurd h (by decide))
  refine condB_i (fun _ => ?_) (fun h => by cases h)
  rw [beqS]
  refine condB_i (fun _ => ?_) (fun h => absurd (of_decide_eq_false h) (by intro h; exact h rfl))
  refine condB_i (fun _ => ?_) (fun h => by cases h)
  refine Text_ok (by decide) fun w8 hc8 => ?_
  rw [beqS, decide_eq_true (show mkB (subst txtP (bl ⟨#[97, 60, 98]⟩)) = ⟨#[97, 38, 108, 116, 59, 98]⟩ from rfl)]
  exact k w8 (c06.trans0 hc8)
theorem ReferExpands_ok {b : BV} {at_ : Int} (T : Tabs w) (hb : b.Ok w) (hi : InI at_) :
    callJ Tryd.prog fn_law02_ReferExpands #[.slice b.p b.l b.c, .int .i64 at_] w [.one .bool] fun r w' => r = true ∧ Chg No w w' := by
  refine c_law02_ReferExpands ?_
  unfold VC_law02_ReferExpands
  have hm := hb.fits
  refine awake02_ok T fun w1 hc1 => ?_
  refine condB_i (fun h => by simp at h) fun _ => ?_
  have h1 := hb.is.chg hc1 (off_no _)
  have hbl := h1.len
  refine Expand_ok h1 hb.cap (by omega) (fun hbad => ?_) fun i hi hil h38 w2 hc2 => ?_
  · refine withJ_i fun J34 hJ34 => ?_
    have kT : J34 true w1 := by
      subst hJ34
      refine condB_i (fun _ => ?_) (fun h => by cases h)
      refine withJ_i fun J4 hJ4 => ?_
      subst hJ4
      refine condB_i (fun _ => ?_) (fun h => by cases h)
      refine condB_i (fun _ => ?_) (fun h => by cases h)
      exact ⟨rfl, hc1⟩
    clear hJ34
    refine condB_d (fun _ => kT) (fun h2 => ?_)
    refine condB_d (fun _ => kT) (fun h3 => ?_)
    refine byte_i h1 (by omega) (by omega) fun c hc => ?_
    have hc38 : c ≠ 38 := by
      rintro rfl
      rcases hbad with h | h | h
      · omega
      · omega
      · exact h hc
    have e : (((c.toNat : Nat) : Int) != 38) = true := by
      rw [bne_iff_ne]
      intro e
      exact hc38 (u8of 38 (by show (c.toNat : Int) = 38; omega))
    rw [e]; exact kT
  · subst hi
    have c02 := hc1.trans0 hc2
    refine withJ_i fun J34 hJ34 => ?_
    have kF : J34 false w2 := by
      subst hJ34
      refine condB_i (fun h => by cases h) (fun _ => ?_)
      refine RExpand_ok (hb.is.chg c02 (off_no _)) hb.cap (by omega) hil ?_
      have hch : (expL (b.bs.drop (i + 1))).1 ≤ 1114111 := by
        by_cases h0 : (expL (b.bs.drop (i + 1))).2.2 = 0
        · have := chr_le (expL_chr h0); omega
        · have : (expL (b.bs.drop (i + 1))).1 = 0 := by
            unfold expL selL at h0 ⊢
            repeat' split
            all_goals simp_all
          omega
      rw [w64_of (by omega) (by omega)]
      refine withJ_i fun J4 hJ4 => ?_
      subst hJ4
      refine condB_i (fun _ => ?_) (fun h => by simp at h)
      refine condB_i (fun _ => ?_) (fun h => by simp at h)
      exact ⟨by simp, c02⟩
    clear hJ34
    refine condB_d (fun h => by omega) (fun _ => ?_)
    refine condB_d (fun h => by omega) (fun _ => ?_)
    refine byte_i (hb.is.chg c02 (off_no _)) (by omega) (by omega) fun c hc => ?_
    rw [Int.toNat_natCast, h38] at hc
    obtain rfl := Option.some.inj hc
    exact kF
theorem ReferWrites_ok {s : ByteArray} (T : Tabs w) (hq : InS s) (hs : s.size ≤ 1048576) :
    callJ Tryd.prog fn_law02_ReferWrites #[.string s] w [.one .bool] fun r w' => r = true ∧ Chg No w w' := by
  refine c_law02_ReferWrites ?_
  unfold VC_law02_ReferWrites
  refine withJ_i fun J2 hJ2 => ?_
  subst hJ2
  refine awake02_ok T fun w1 hc1 => ?_
  refine condB_i (fun _ => ?_) (fun h => by cases h)
  refine Text_ok (by omega) fun w2 hc2 => ?_
  refine RText_ok (by omega) fun w3 hc3 => ?_
  rw [beqS, decide_eq_true rfl]
  refine condB_i (fun _ => ?_) (fun h => by cases h)
  refine Quote_ok (by omega) fun w4 hc4 => ?_
  refine RQuote_ok (by omega) fun w5 hc5 => ?_
  rw [beqS, decide_eq_true rfl]
  exact ⟨rfl, (((hc1.trans0 hc2).trans0 hc3).trans0 hc4).trans0 hc5⟩
theorem ReferBack_ok {s : ByteArray} (T : Tabs w) (hq : InS s) (hs : s.size ≤ 1048576) :
    callJ Tryd.prog fn_law02_ReferBack #[.string s] w [.one .bool] fun r w' => r = true ∧ Chg No w w' := by
  refine c_law02_ReferBack ?_
  unfold VC_law02_ReferBack
  have hsl := bl_len s
  refine awake02_ok T fun w1 hc1 => ?_
  refine condB_i (fun h => by simp at h) fun _ => ?_
  refine cvBc fun b2 c2 w2 hB2 hle2 hc2 => ?_
  have hc02 := hc1.trans0 hc2
  refine FaultC_ok hB2 hle2 (by omega) (T.chg hc02) fun w3 hc3 => ?_
  have hc03 := hc02.trans0 hc3
  refine Text_ok (by omega) fun w4 hc4 => ?_
  have hc04 := hc03.trans0 hc4
  have hTl := subst_le (ps := txtP) (by decide) (bl s)
  have hQl := subst_le (ps := quoP) (by decide) (bl s)
  have hTs : (mkB (subst txtP (bl s))).size = (subst txtP (bl s)).length := by rw [← bl_len, bl_mkB]
  have hQs : (mkB (subst quoP (bl s))).size = (subst quoP (bl s)).length := by rw [← bl_len, bl_mkB]
  refine cvBc fun b5 c5 w5 hB5 hle5 hc5 => ?_
  have hc05 := hc04.trans0 hc5
  refine ReadText_ok hB5 hle5 (by omega) (T.chg hc05) fun w6 hc6 => ?_
  have hc06 := hc05.trans0 hc6
  rw [bl_mkB]
  refine Quote_ok (by omega) fun w7 hc7 => ?_
  have hc07 := hc06.trans0 hc7
  refine cvBc fun b8 c8 w8 hB8 hle8 hc8 => ?_
  have hc08 := hc07.trans0 hc8
  refine ReadValue_ok hB8 hle8 (by omega) (T.chg hc08) fun w9 hc9 => ?_
  have hc09 := hc08.trans0 hc9
  rw [bl_mkB]
  have q1 := read_back false (bl s) 0 0 []
  have q2 := read_back true (bl s) 0 0 []
  rw [List.nil_append] at q1 q2
  change (_ → readL false 0 (subst txtP (bl s)) [] = _) ∧ (_ → (readL false 0 (subst txtP (bl s)) []).1 = _ ∧ (readL false 0 (subst txtP (bl s)) []).2.2 = _) at q1
  change (_ → readL true 0 (subst quoP (bl s)) [] = _) ∧ (_ → (readL true 0 (subst quoP (bl s)) []).1 = _ ∧ (readL true 0 (subst quoP (bl s)) []).2.2 = _) at q2
  simp only [beqS]
  refine condB_ne (fun hne => ?_) (fun he => ?_)
  · have hne' : (flt 0 (bl s)).2 ≠ 0 := by omega
    obtain ⟨x1, x2⟩ := q1.2 hne'
    obtain ⟨y1, y2⟩ := q2.2 hne'
    rw [x1, x2, y1, y2]
    simp only [withJ]
    refine condB_i (fun _ => ?_) (fun h => by simp at h)
    refine condB_i (fun _ => ?_) (fun h => by simp at h)
    refine condB_i (fun _ => ?_) (fun h => absurd (of_decide_eq_false h) (by intro h; exact h rfl))
    exact ⟨decide_eq_true rfl, hc09⟩
  · have he' : (flt 0 (bl s)).2 = 0 := by omega
    rw [q1.1 he', q2.1 he', mkB_bl]
    simp only [withJ]
    refine condB_i (fun _ => ?_) (fun h => by simp at h)
    refine condB_i (fun _ => ?_) (fun h => by simp at h)
    refine condB_i (fun _ => ?_) (fun h => by simp at h)
    exact ⟨by simp, hc09⟩
end
end Go.Proofs.YtdjehimkijlhgaaDoor

