/-
  Chapter 1's helpers of the statements: Same, Spare, Kept.
-/
import Derived.Test.YtdjehimkijlhgaaGreatDoorVRef01
import Derived.Test.YtdjehimkijlhgaaGreatDoorBase
namespace Go.Proofs.YtdjehimkijlhgaaGreatDoor
open Go Go.Vc

section
variable {w : World}

theorem Same_ok {p q : Option Addr} {l c l2 c2 : Nat} {xs bs : List UInt8} {J : Bool → World → Prop} (h : Bytes w p l xs) (h2 : Bytes w q l2 bs) (k : J (decide (xs = bs)) w) :
    callJ Tryz.prog fn_ref01_Same #[.slice p l c, .slice q l2 c2] w [.one .bool] J := by
  refine c_ref01_Same (bytesOf_i h (bytesOf_i h2 ?_))
  rw [ByteArray.toList_mk, ByteArray.toList_mk]
  have : (xs == bs) = decide (xs = bs) := by by_cases h : xs = bs <;> simp [h]
  rw [this]; exact k

theorem Spare_ok {p : Option Addr} {l c : Nat} {bs : List UInt8} {J : Option Addr → Nat → Nat → World → Prop} (h : Bytes w p l bs) (hp : p = none → l = 0) (hm : l ≤ 140737488351232)
    (k : ∀ p' c' w', Row w' T_uint8 1 p' (l + 1) c' (bcells (bs ++ [165])) → fresh w p' → Chg No w w' → J p' l c' w') : callJ Tryz.prog fn_ref01_Spare #[.slice p l c] w [.one .slice] J := by
  refine c_ref01_Spare ?_
  unfold VC_ref01_Spare
  have e1 : w64 ((l : Int) + 3) = ((l + 3 : Nat) : Int) := by rw [w64_of] <;> omega
  rw [e1, Int.toNat_natCast, show zeroC Tryz.prog T_uint8 = #[.int .u8 0] from by kernel_rfl]
  refine (Hp.start w No).mkS (by decide) (by omega) (by omega) (by omega) (by omega) fun b6 w1 H1 hb1 hc1 => ?_
  have hrow : Row w1 T_uint8 1 (some ⟨b6, 0, none⟩) 0 (l + 3) [] := H1.asRow 0 rfl (rest := _) (List.nil_append _).symm (by simp) (Nat.zero_le _) (by simp only [maxLen]; omega) (by simp; omega)
  refine appJ_row slT_u8 hrow (h.chg hc1 (off_no _)) (one1_bcells bs) hp (by omega) (by simp only [maxLen]; omega) fun p2 c2 w2 hr2 hc2 hf2 => ?_
  rw [List.nil_append] at hr2
  refine newRow (sz := 1) (n := 1) rfl (by decide) fun b3 w3 hr3 hb3 hc3 => ?_
  refine appJ_row slT_u8 (hr2.chg hc3 (off_no _)) hr3.sl (by intro v hv; simp only [List.mem_singleton] at hv; subst hv; rfl) (by simp) (by omega) (by simp only [maxLen]; omega) fun p4 c4 w4 hr4 hc4 hf4 => ?_
  rw [Nat.zero_add] at hr4 ⊢
  have hcap := hr4.le
  refine slS_pre (hr4.at0 (by omega)) (by omega) (by omega) ?_
  have f2 : fresh w p2 := by
    rcases hf2 with rfl | hf
    · rintro a ⟨⟩; exact hb1
    · intro a ha; exact Nat.le_trans hc1.size (hf a ha)
  have f4 : fresh w p4 := by
    rcases hf4 with rfl | hf
    · exact f2
    · intro a ha
      have := hf a ha
      have s3 := hc3.size; have s2 := hc2.size; have s1 := hc1.size
      omega
  have hc : Chg No w w4 := by
    refine ((hc1.trans hc2 ?_).trans0 hc3).trans hc4 ?_
    · rintro b hb ⟨a, ⟨⟩, rfl⟩; simp only at hb; omega
    · rintro b hb ⟨a, ha, rfl⟩; have := f2 a ha; omega
  have hb5 : bcells bs ++ [Value.int .u8 165] = bcells (bs ++ [165]) := by simp [bcells]
  rw [hb5] at hr4
  exact k p4 c4 w4 hr4 f4 hc

theorem Kept_ok {p q : Option Addr} {l c l2 c2 : Nat} {xs bs : List UInt8} {J : Bool → World → Prop} (h : Row w T_uint8 1 p (l + 1) c (bcells (xs ++ [165]))) (h2 : Bytes w q l2 bs) (ha : xs.length = l) (k : J (decide (xs = bs)) w) :
    callJ Tryz.prog fn_ref01_Kept #[.slice p l c, .slice q l2 c2] w [.one .bool] J := by
  refine c_ref01_Kept ?_
  unfold VC_ref01_Kept
  refine withJ_i fun J4 hJ4 => ?_
  have hb : Bytes w p l xs := by
    have hs := h.sl
    refine ⟨by simp [bcells, ha], ?_⟩
    obtain ⟨a, hpa, hc⟩ := hs.at (by omega)
    refine .inr ⟨a, hpa, ?_⟩
    have := cellsAt_take l hc
    have e : (bcells (xs ++ [165])).take l = bcells xs := by
      rw [show bcells (xs ++ [165]) = bcells xs ++ [Value.int .u8 165] from by simp [bcells]]
      exact List.take_left' (by simp [bcells, ha])
    rwa [e] at this
  refine Same_ok hb h2 ?_
  have hcap := h.le
  simp only [maxLen] at hcap
  subst hJ4
  refine condB_i (fun he => ?_) (fun he => ?_)
  · refine condB_d (fun _ => ?_) (fun hn => absurd (show ((c : Nat) : Int) > l by omega) hn)
    have e1 : w64 ((l : Int) + 1) = ((l + 1 : Nat) : Int) := by rw [w64_of] <;> omega
    rw [e1]
    refine slS_pre (h.at0 (by omega)) (by omega) (by omega) ?_
    refine byte_i h.bytes (by omega) (by omega) fun b hb' => ?_
    have : b = 165 := by
      rw [Int.toNat_natCast, List.getElem?_append_right (by omega), ha, Nat.sub_self] at hb'
      simp at hb'; exact hb'.symm
    subst this
    rw [he] at k
    exact k
  · rw [he] at k; exact k
/-- What Spare answers holds the bytes. -/
theorem spare_bytes {p : Option Addr} {l c : Nat} {bs : List UInt8} (h : Row w T_uint8 1 p (l + 1) c (bcells (bs ++ [165]))) (hl : bs.length = l) : Bytes w p l bs := by
  have hs := h.sl
  refine ⟨by simp [bcells, hl], ?_⟩
  obtain ⟨a, hpa, hc⟩ := hs.at (by omega)
  refine .inr ⟨a, hpa, ?_⟩
  have := cellsAt_take l hc
  have e : (bcells (bs ++ [165])).take l = bcells bs := by
    rw [show bcells (bs ++ [165]) = bcells bs ++ [Value.int .u8 165] from by simp [bcells]]
    exact List.take_left' (by simp [bcells, hl])
  rwa [e] at this
end

end Go.Proofs.YtdjehimkijlhgaaGreatDoor

