/-
  Package sheet: TakeHead, and the document's.
-/
import Derived.Test.YtgplflecgnldeaaSheetB
namespace Go.Proofs.Ytgplflecgnldeaa
open Go Go.Vc

section
variable {w : World}

theorem TakeHead_ok {p : Option Addr} {l c : Nat} {b : List UInt8} {J : Int → Int → Int → World → Prop} (h : Bytes w p l b) (hlc : l ≤ c)
    (k : ∀ w', Chg No w w' → J (takeHeadM b).g ((takeHeadM b).s : Int) (takeHeadM b).e w') :
    callJ Try.prog fn_sheet_TakeHead #[.slice p l c] w [.agg [.int .i64, .int .u64], .one (.int .i64)] J := by
  have hbl := h.len
  refine c_sheet_TakeHead ?_
  unfold VC_sheet_TakeHead
  rw [zeroC_head]
  refine (Hp.start w No).newB fun b2 w1 H1 hb2 hc1 => ?_
  unfold takeHeadM at k
  -- an answer that is refused
  have no : ∀ (e : Int) w', Hp w No w' [⟨b2, [.int .i64 0, .int .u64 0], T_sheet_Head⟩] → (∀ w', Chg No w w' → J 0 0 e w') →
      stN w' ⟨b2, 0, none⟩ ⟨[.int .i64 (0 : Int), .int .u64 (0 : Int)]⟩ 2 fun w2 => ldI .i64 w2 ⟨b2, 0, none⟩ fun r_0 => ldI .u64 w2 ⟨b2, 1, none⟩ fun r_1 => J r_0 r_1 e w2 := by
    intro e w' H hk
    refine H.stN 0 rfl (off := 0) rfl (by decide) (one1_ints2 _ _ _ _) fun w2 H2 _ => ?_
    exact H2.ldI 0 rfl (off := 0) rfl (H2.ldI 0 rfl (off := 1) rfl (hk w2 H2.chg))
  refine condB_ne (fun h6 => ?_) (fun h6 => ?_)
  · rw [if_pos (by omega)] at k
    exact no 6 w1 H1 k
  rw [if_neg (by omega)] at k
  have hl64 : l = 64 := by omega
  subst hl64
  have hd : Chg No w w1.drew := hc1.drew
  refine cutB (h.chg hc1 (off_no _)) (i := 4) (j := 64) (by decide) (by decide) hlc rfl rfl fun q4 hq4 _ => ?_
  refine Of_ok (k := 4) (h.chg hd (off_no _)) (by decide) (by decide) hlc ?_
  refine Sum_ok (hq4.chg ((Chg.refl No w1).drew) (off_no _)) (by decide) ?_
  have e4 : (b.drop 4).take (64 - 4) = b.drop 4 := List.take_of_length_le (by rw [List.length_drop]; omega)
  rw [e4]
  have hcrc := crc_lt (b.drop 4)
  rw [wrap_u64_nat (by omega)]
  have hiff := summed_iff (b := b) (by omega)
  refine condB_ne (fun hne => ?_) (fun heq => ?_)
  · rw [if_pos (fun hs => hne (by rw [hiff.2 hs]))] at k
    exact no 10 _ H1.drew k
  rw [if_neg (by simp only [Decidable.not_not]; exact hiff.1 (by omega))] at k
  refine withJ_i fun J4 hJ4 => ?_
  have hg := bv4_lt b 8
  have hs := bv8_lt b 12
  generalize hgg : beVal ((b.drop 8).take 4) = g at *
  generalize hss : beVal ((b.drop 12).take 8) = s at *
  have main : ∀ w6 b4, Hp w No w6 [⟨b4, [.int .i64 (g : Int), .int .u64 (s : Int)], T_sheet_Head⟩, ⟨b2, [.int .i64 0, .int .u64 0], T_sheet_Head⟩] → J4 (some ⟨b4, 0, none⟩) w6 := by
    intro w6 b4 H6
    subst hJ4
    dsimp only [nonNil]
    simp only [Addr.add_mk, Nat.zero_add]
    refine H6.ldI 0 rfl (off := 0) rfl (H6.ldI 0 rfl (off := 1) rfl ?_)
    refine LayHead_ok fun q7 d7 w7 hr7 hf7 hc7 => ?_
    have H7 := H6.step0 hc7
    have H7' : Hp w No w7 [⟨b2, [.int .i64 0, .int .u64 0], T_sheet_Head⟩] := ⟨H7.chg, fun p hp => H7.is p (List.mem_cons_of_mem _ hp), by simp, fun p hp => H7.own p (List.mem_cons_of_mem _ hp)⟩
    refine withJ_i fun J41 hJ41 => ?_
    have bad : ((layHeadM g s).e ≠ 0 ∨ (layHeadM g s).b ≠ b) → J41 true w7 := by
      intro hb
      subst hJ41
      rw [if_pos hb] at k
      exact condB_i (fun _ => no 11 w7 H7' k) (fun h => by simp at h)
    have good : ¬ ((layHeadM g s).e ≠ 0 ∨ (layHeadM g s).b ≠ b) → J41 false w7 := by
      intro hb
      subst hJ41
      rw [if_neg hb] at k
      refine condB_i (fun h => by simp at h) fun _ => ?_
      refine H7.ldI 0 rfl (off := 0) rfl (H7.ldI 0 rfl (off := 1) rfl ?_)
      refine H7.stN 1 rfl (off := 0) rfl (by decide) (one1_ints2 _ _ _ _) fun w8 H8 _ => ?_
      exact H8.ldI 1 rfl (off := 0) rfl (H8.ldI 1 rfl (off := 1) rfl (k w8 H8.chg))
    clear hJ41
    refine condB_ne (fun hne => bad (.inl hne)) (fun he => ?_)
    refine Equal_ok hr7.bytes (h.chg H7.chg (off_no _)) ?_
    by_cases hbb : (layHeadM g s).b = b
    · rw [decide_eq_true hbb]; exact good (by rintro (h | h); exact h he; exact h hbb)
    · rw [decide_eq_false hbb]; exact bad (.inr hbb)
  clear hJ4
  refine cutB (h.chg hc1 (off_no _)) (i := 8) (j := 64) (by decide) (by decide) hlc rfl rfl fun q8 hq8 _ => ?_
  refine cutB (h.chg hc1 (off_no _)) (i := 12) (j := 64) (by decide) (by decide) hlc rfl rfl fun q12 hq12 _ => ?_
  have e8 : ((b.drop 8).take (64 - 8)).take 4 = (b.drop 8).take 4 := by rw [List.take_take]; rfl
  have e12 : ((b.drop 12).take (64 - 12)).take 8 = (b.drop 12).take 8 := by rw [List.take_take]; rfl
  have hdd : Chg No w1 w1.drew.drew := ((Chg.refl No w1).drew).drew
  have q8' := hq8.chg hdd (off_no _)
  have q12' := hq12.chg hdd (off_no _)
  have H1d := H1.drew.drew
  have ew : w64 (g : Int) = (g : Int) := by rw [w64_of] <;> omega
  refine ⟨Of_ok (k := 4) q8' (by decide) (by decide) (by omega) ⟨?_, ?_⟩, ?_⟩
  · refine Of_ok (k := 8) q12' (by decide) (by decide) (by omega) ?_
    rw [e8, e12, hgg, hss, ew]
    refine H1d.newB fun b4 w2 H2 _ _ => ?_
    refine H2.stN 0 rfl (off := 0) rfl (by decide) (one1_ints2 _ _ _ _) fun w3 H3 _ => ?_
    exact main w3 b4 (by simpa [splice] using H3)
  · rw [e8, hgg, ew]
    refine H1d.newB fun b4 w2 H2 _ hc2 => ?_
    refine Of_ok (k := 8) (q12'.chg hc2 (off_no _)) (by decide) (by decide) (by omega) ?_
    rw [e12, hss]
    refine H2.stN 0 rfl (off := 0) rfl (by decide) (one1_ints2 _ _ _ _) fun w3 H3 _ => ?_
    exact main w3 b4 (by simpa [splice] using H3)
  · refine H1d.newB fun b4 w2 H2 _ hc2 => ?_
    refine Of_ok (k := 4) (q8'.chg hc2 (off_no _)) (by decide) (by decide) (by omega) ?_
    refine Of_ok (k := 8) (q12'.chg hc2 (off_no _)) (by decide) (by decide) (by omega) ?_
    rw [e8, e12, hgg, hss, ew]
    refine H2.stN 0 rfl (off := 0) rfl (by decide) (one1_ints2 _ _ _ _) fun w3 H3 _ => ?_
    exact main w3 b4 (by simpa [splice] using H3)

theorem RTakeHead_ok {p : Option Addr} {l c : Nat} {b : List UInt8} {J : Int → Int → Int → World → Prop} (h : Bytes w p l b) (hlc : l ≤ c)
    (k : ∀ w', Chg No w w' → J (takeHeadM b).g ((takeHeadM b).s : Int) (takeHeadM b).e w') :
    callJ Try.prog fn_ref15_TakeHead #[.slice p l c] w [.agg [.int .i64, .int .u64], .one (.int .i64)] J := by
  have hbl := h.len
  refine c_ref15_TakeHead ?_
  unfold VC_ref15_TakeHead
  rw [zeroC_rhead]
  refine (Hp.start w No).newB fun b2 w1 H1 hb2 hc1 => ?_
  unfold takeHeadM at k
  have no : ∀ (e : Int) w', Hp w No w' [⟨b2, [.int .i64 0, .int .u64 0], T_ref15_Head⟩] → (∀ w', Chg No w w' → J 0 0 e w') →
      stN w' ⟨b2, 0, none⟩ ⟨[.int .i64 (0 : Int), .int .u64 (0 : Int)]⟩ 2 fun w2 => ldI .i64 w2 ⟨b2, 0, none⟩ fun r_0 => ldI .u64 w2 ⟨b2, 1, none⟩ fun r_1 => J r_0 r_1 e w2 := by
    intro e w' H hk
    refine H.stN 0 rfl (off := 0) rfl (by decide) (one1_ints2 _ _ _ _) fun w2 H2 _ => ?_
    exact H2.ldI 0 rfl (off := 0) rfl (H2.ldI 0 rfl (off := 1) rfl (hk w2 H2.chg))
  refine condB_ne (fun h6 => ?_) (fun h6 => ?_)
  · rw [if_pos (by omega)] at k
    exact no 6 w1 H1 k
  rw [if_neg (by omega)] at k
  have hl64 : l = 64 := by omega
  subst hl64
  have hd : Chg No w w1.drew := hc1.drew
  refine cutB (h.chg hc1 (off_no _)) (i := 4) (j := 64) (by decide) (by decide) hlc rfl rfl fun q4 hq4 hq4n => ?_
  refine bytesOf_i (h.chg hd (off_no _)) ?_
  have e4 : (b.drop 4).take (64 - 4) = b.drop 4 := List.take_of_length_le (by rw [List.length_drop]; omega)
  rw [e4] at hq4
  refine summed_ok (hq4.chg ((Chg.refl No w1).drew) (off_no _)) hq4n (by decide) fun p5 c5 w5 hr5 hf5 hc5 => ?_
  have H5 := H1.drew.step0 hc5
  refine ⟨(h.chg H5.chg (off_no _)).bytesAt, bytesOf_i hr5.bytes ?_⟩
  rw [ByteArray.toList_mk, ByteArray.toList_mk]
  have hiff := summed_iff2 (b := b)
  refine condB_i (fun hne => ?_) (fun heq => ?_)
  · rw [if_pos (fun hs => by rw [hiff.2 hs] at hne; simp at hne)] at k
    exact no 10 _ H5 k
  rw [if_neg (by simp only [Decidable.not_not]; exact hiff.1 (by simpa using heq))] at k
  refine withJ_i fun J4 hJ4 => ?_
  have hg := bv4_lt b 8
  have hs := bv8_lt b 12
  generalize hgg : beVal ((b.drop 8).take 4) = g at *
  generalize hss : beVal ((b.drop 12).take 8) = s at *
  have main : ∀ w6 b4, Hp w No w6 [⟨b4, [.int .i64 (g : Int), .int .u64 (s : Int)], T_ref15_Head⟩, ⟨b2, [.int .i64 0, .int .u64 0], T_ref15_Head⟩] → J4 (some ⟨b4, 0, none⟩) w6 := by
    intro w6 b4 H6
    subst hJ4
    dsimp only [nonNil]
    simp only [Addr.add_mk, Nat.zero_add]
    refine H6.ldI 0 rfl (off := 0) rfl (H6.ldI 0 rfl (off := 1) rfl ?_)
    refine RLayHead_ok (by omega) fun q7 d7 w7 hr7 hf7 hc7 => ?_
    have H7 := H6.step0 hc7
    have H7' : Hp w No w7 [⟨b2, [.int .i64 0, .int .u64 0], T_ref15_Head⟩] := ⟨H7.chg, fun p hp => H7.is p (List.mem_cons_of_mem _ hp), by simp, fun p hp => H7.own p (List.mem_cons_of_mem _ hp)⟩
    refine withJ_i fun J41 hJ41 => ?_
    have bad : ((layHeadM g s).e ≠ 0 ∨ (layHeadM g s).b ≠ b) → J41 true w7 := by
      intro hb
      subst hJ41
      rw [if_pos hb] at k
      exact condB_i (fun _ => no 11 w7 H7' k) (fun h => by simp at h)
    have good : ¬ ((layHeadM g s).e ≠ 0 ∨ (layHeadM g s).b ≠ b) → J41 false w7 := by
      intro hb
      subst hJ41
      rw [if_neg hb] at k
      refine condB_i (fun h => by simp at h) fun _ => ?_
      refine H7.ldI 0 rfl (off := 0) rfl (H7.ldI 0 rfl (off := 1) rfl ?_)
      refine H7.stN 1 rfl (off := 0) rfl (by decide) (one1_ints2 _ _ _ _) fun w8 H8 _ => ?_
      exact H8.ldI 1 rfl (off := 0) rfl (H8.ldI 1 rfl (off := 1) rfl (k w8 H8.chg))
    clear hJ41
    refine condB_ne (fun hne => bad (.inl hne)) (fun he => ?_)
    refine bytesOf_i hr7.bytes (bytesOf_i (h.chg H7.chg (off_no _)) ?_)
    rw [ByteArray.toList_mk, ByteArray.toList_mk]
    by_cases hbb : (layHeadM g s).b = b
    · rw [hbb]; simp only [beq_self_eq_true, Bool.not_true]; exact good (by rintro (h | h); exact h he; exact h hbb)
    · have : ((layHeadM g s).b == b) = false := by simpa using hbb
      rw [this]; exact bad (.inr hbb)
  clear hJ4
  refine cutB (h.chg H5.chg (off_no _)) (i := 8) (j := 12) (by decide) (by decide) hlc rfl rfl fun q8 hq8 _ => ?_
  refine cutB (h.chg H5.chg (off_no _)) (i := 12) (j := 20) (by decide) (by decide) hlc rfl rfl fun q12 hq12 _ => ?_
  have hdd : Chg No w5 w5.drew := (Chg.refl No w5).drew
  have q8' := hq8.chg hdd (off_no _)
  have q12' := hq12.chg hdd (off_no _)
  have H1d := H5.drew
  refine ⟨Value_ok q8' (by decide) ⟨?_, ?_⟩, ?_⟩
  · refine wide_ok q12' (by decide) ?_
    rw [hgg, hss]
    refine H1d.newB fun b4 w2 H2 _ _ => ?_
    refine H2.stN 0 rfl (off := 0) rfl (by decide) (one1_ints2 _ _ _ _) fun w3 H3 _ => ?_
    exact main w3 b4 (by simpa [splice] using H3)
  · rw [hgg]
    refine H1d.newB fun b4 w2 H2 _ hc2 => ?_
    refine wide_ok (q12'.chg hc2 (off_no _)) (by decide) ?_
    rw [hss]
    refine H2.stN 0 rfl (off := 0) rfl (by decide) (one1_ints2 _ _ _ _) fun w3 H3 _ => ?_
    exact main w3 b4 (by simpa [splice] using H3)
  · refine H1d.newB fun b4 w2 H2 _ hc2 => ?_
    refine Value_ok (q8'.chg hc2 (off_no _)) (by decide) ?_
    refine wide_ok (q12'.chg hc2 (off_no _)) (by decide) ?_
    rw [hgg, hss]
    refine H2.stN 0 rfl (off := 0) rfl (by decide) (one1_ints2 _ _ _ _) fun w3 H3 _ => ?_
    exact main w3 b4 (by simpa [splice] using H3)
end

end Go.Proofs.Ytgplflecgnldeaa
