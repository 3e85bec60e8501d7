/-
  Chapter 14: 'TapeOpens'.
-/
import Derived.Test.YtfhmnodoahcmnaaGroups14b
import Derived.Test.YtfhmnodoahcmnaaRd14
namespace Go.Proofs.Ytfhmnodoahcmnaa
open Go Go.Vc

set_option maxRecDepth 20000 in
theorem TapeOpens_ok {w : World} {p : BV} {lo hi gen : Int} (hp : p.Ok w) (hlo : InI lo) (hhi : InI hi) (hgen : InI gen) :
    callJ Try.prog fn_law14_TapeOpens #[.slice p.p p.l p.c, .int .i64 lo, .int .i64 hi, .int .i64 gen] w [.one .bool] fun r w' => r = true ∧ Chg No w w' := by
  refine c_law14_TapeOpens ?_
  unfold VC_law14_TapeOpens
  refine awake14_ok fun w1 hc1 => ?_
  refine condB_i (fun h => by simp at h) fun _ => ?_
  refine sectors_ok14 (most := 100) (hp.is.chg hc1 (off_no _)) hp.cap (by decide) hp.fits fun sp sl sc L hs w2 hR2 h64 hsl hc2 => ?_
  have hL2 := hR2.lst
  obtain ⟨hl1, hl2⟩ := hL2.len
  have hc12 := hc1.trans0 hc2
  refine condB_eq (fun _ => ?_) (fun hne => ?_)
  · refine TOpen_nil ?_
    refine withJ_i fun J8 hJ8 => ?_
    refine condB_i (fun _ => ?_) (fun h => by simp at h)
    refine condB_eq (fun _ => ?_) (fun h => absurd rfl h)
    subst hJ8
    exact ⟨rfl, hc12⟩
  refine filled_ok hc12 hL2 h64 (by omega) (by omega) fun d F D w3 h3 hD hF3 hc3 => ?_
  refine condB_i (fun h => by simp at h) fun _ => ?_
  refine Steps_ok h3.at_ ?_
  refine Loose_ok h3.at_ ?_
  obtain ⟨d1, d2, d3, d4, d5⟩ := hD
  have hL3 := hL2.chg0 hc3
  by_cases hbad : lo < 0 ∨ (D.safe.length : Int) < hi ∨ hi ≤ lo ∨ gen < 1 ∨ 4294967295 < gen
  · refine TOpen_bad h3.at_ hbad ?_
    refine withJ_i fun J84 hJ84 => ?_
    have bad : J84 true w3 := by
      subst hJ84
      refine condB_i (fun _ => ?_) (fun h => by simp at h)
      refine withJ_i fun J8 hJ8 => ?_
      refine condB_i (fun _ => ?_) (fun h => by simp at h)
      refine condB_eq (fun _ => ?_) (fun h => absurd rfl h)
      refine condB_eq (fun _ => ?_) (fun h => absurd rfl h)
      refine Steps_ok h3.at_ ?_
      subst hJ8
      exact ⟨by simp, h3.chg⟩
    clear hJ84
    refine condB_d (fun _ => bad) (fun q1 => ?_)
    refine condB_d (fun _ => bad) (fun q2 => ?_)
    refine condB_d (fun _ => bad) (fun q3 => ?_)
    refine condB_d (fun _ => bad) (fun q4 => ?_)
    rw [decide_eq_true (by omega)]
    exact bad
  obtain ⟨lo, rfl⟩ := Int.eq_ofNat_of_zero_le (a := lo) (by omega)
  obtain ⟨hi, rfl⟩ := Int.eq_ofNat_of_zero_le (a := hi) (by omega)
  obtain ⟨gen, rfl⟩ := Int.eq_ofNat_of_zero_le (a := gen) (by omega)
  refine TOpen_own h3 d1 (by omega) (by omega) (by omega) (by omega) fun w4 t p4 l4 c4 hs4 j st hst h4 hj ht hR4 hc4 => ?_
  have hL4 : Lst w4 sp sl L hs := ⟨hL3.sl.chg hc4 ?_, hL3.is, fun x hx => ⟨(hL3.all x hx).1.chg hc4 ?_, (hL3.all x hx).2⟩⟩
  rotate_left
  · exact h3.at_.rowOff (hR2.chg0 hc3).row nd_sl_u8
  · exact h3.at_.rowOff ((hR2.chg0 hc3).hand x hx) nd_u8
  refine withJ_i fun J84 hJ84 => ?_
  have go : J84 false w4 := by
    subst hJ84
    refine condB_i (fun h => by simp at h) fun _ => ?_
    refine hL4.take (lo := lo) (hi := hi) (by omega) (by omega) hR2.row.le.1 rfl rfl fun p5 hL5 => ?_
    have hd64 : ∀ s ∈ (L.drop lo).take (hi - lo), s.length = 64 := fun s hs => h64 s (List.mem_of_mem_drop (List.mem_of_mem_take hs))
    refine Groups_ok hL5 hd64 (by omega) (by omega) fun p6 l6 c6 hs6 w6 hR6 hc6 => ?_
    rw [d2] at hst
    rw [← hst] at hR6 ⊢
    refine withJ_i fun J155 hJ155 => ?_
    refine condB_ne (fun h => absurd rfl h) fun _ => condB_i (fun h => by simp at h) fun _ => ?_
    have hR46 := hR4.chg0 hc6
    have h4' := h4.step0 hc6
    have hall : st.all.length ≤ 100 := by have := h4.ok.groups; have := h4.ok.place; simp only at *; omega
    have hlen4 := hR4.len
    have hlen6 := hR6.len
    refine same_ok hR46.lst hR6.lst (by omega) fun w7 hc7 => ?_
    rw [decide_eq_true rfl]
    refine condB_i (fun h => by simp at h) fun _ => ?_
    have h7 := h4'.step0 hc7
    refine TGroups_ok h7.at_ ?_
    refine condB_ne (fun h => absurd (by simp only; omega) h) fun _ => ?_
    refine TFree_ok h7.at_ h7.ok h7.drum.at_.ok.max ?_
    have h7d := h7.drew
    have hplace := h4.ok.place
    simp only at hplace
    refine condB_ne (fun h => absurd ?_ h) fun _ => ?_
    · simp only
      rw [w64_of (n := (hi : Int) - lo) (by omega) (by omega), w64_of] <;> omega
    refine Steps_ok h7d.drum.at_ ?_
    have hts := took_steps (D := D) (by omega) j (by omega)
    refine condB_d (fun h => absurd h ?_) fun _ => ?_
    · rw [hts, w64_of (by omega) (by omega), w64_of (by omega) (by omega)]; omega
    refine Loose_ok h7d.drum.at_ ?_
    rw [took_loose]
    subst hJ155
    refine condB_ne (fun h => absurd rfl h) fun _ => ?_
    refine all_ok h7d.drum (calm_took d1 j) fun p8 l8 c8 hs8 w8 hR8 hO8 hc8 => ?_
    rw [took_now, d2] at hR8
    have hc48 : Chg No w4 w7.drew := (hc6.trans0 hc7).drew
    have hL7 := hL4.chg0 hc48
    have hL8 : Lst w8 sp sl L hs := ⟨hL7.sl.chg hc8 ?_, hL7.is, fun x hx => ⟨(hL7.all x hx).1.chg hc8 ?_, (hL7.all x hx).2⟩⟩
    rotate_left
    · exact h7d.drum.at_.rowOff (((hR2.chg0 hc3).row.chg hc4 (h3.at_.rowOff (hR2.chg0 hc3).row nd_sl_u8)).chg hc48 (off_no _)) nd_sl_u8
    · exact h7d.drum.at_.rowOff ((Row.chg ((hR2.chg0 hc3).hand x hx) hc4 (h3.at_.rowOff ((hR2.chg0 hc3).hand x hx) nd_u8)).chg hc48 (off_no _)) nd_u8
    have hl8 := hR8.len
    refine same_ok hR8.lst hL8 (by omega) fun w9 hc9 => ?_
    exact ⟨decide_eq_true rfl, hO8.chg.trans0 hc9⟩
  clear hJ84
  refine condB_d (fun hx => absurd hx (by omega)) (fun q1 => ?_)
  refine condB_d (fun hx => absurd hx (by omega)) (fun q2 => ?_)
  refine condB_d (fun hx => absurd hx (by omega)) (fun q3 => ?_)
  refine condB_d (fun hx => absurd hx (by omega)) (fun q4 => ?_)
  rw [decide_eq_false (by omega)]
  exact go

end Go.Proofs.Ytfhmnodoahcmnaa
