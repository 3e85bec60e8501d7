/-
  Package sheet: Take, LayHead, TakeHead, and the document's.
-/
import Derived.Test.YtgplflecgnldeaaSheet
namespace Go.Proofs.Ytgplflecgnldeaa
open Go Go.Vc

theorem zeroC_head : zeroC Try.prog T_sheet_Head = ⟨[.int .i64 0, .int .u64 0]⟩ := by kernel_rfl
theorem zeroC_rhead : zeroC Try.prog T_ref15_Head = ⟨[.int .i64 0, .int .u64 0]⟩ := by kernel_rfl
theorem bv4_lt (b : List UInt8) (k : Nat) : beVal ((b.drop k).take 4) < 4294967296 := by
  have h := beVal_lt ((b.drop k).take 4)
  have h2 : ((b.drop k).take 4).length ≤ 4 := by rw [List.length_take]; omega
  have : 256 ^ ((b.drop k).take 4).length ≤ 256 ^ 4 := Nat.pow_le_pow_right (by decide) h2
  omega
theorem bv8_lt (b : List UInt8) (k : Nat) : beVal ((b.drop k).take 8) < 18446744073709551616 := by
  have h := beVal_lt ((b.drop k).take 8)
  have h2 : ((b.drop k).take 8).length ≤ 8 := by rw [List.length_take]; omega
  have : 256 ^ ((b.drop k).take 8).length ≤ 256 ^ 8 := Nat.pow_le_pow_right (by decide) h2
  omega

section
variable {w : World}

theorem wide_ok {p : Option Addr} {l c : Nat} {bs : List UInt8} {J : Int → World → Prop} (h : Bytes w p l bs) (hl : l ≤ 8) (K : J ((beVal bs : Nat) : Int) w) :
    callJ Try.prog fn_ref15_wide #[.slice p l c] w [.one (.int .u64)] J := by
  refine c_ref15_wide ?_
  unfold VC_ref15_wide
  refine ⟨fun n x w' t => ∃ i : Nat, x = i ∧ i ≤ l ∧ t = l - i ∧ n = ((beVal (bs.take i) : Nat) : Int) ∧ w' = w, ⟨_, 0, rfl, Nat.zero_le _, rfl, rfl, rfl⟩, ?_⟩
  rintro n x w' t ⟨i, rfl, hi, rfl, rfl, rfl⟩
  have hbl := h.len
  refine condB_d (fun hb => ?_) (fun hb => ?_)
  · refine byte_i h (by omega) (by omega) fun b hb' => ?_
    rw [Int.toNat_natCast] at hb'
    refine ⟨l - (i + 1), by omega, i + 1, by rw [w64_of] <;> omega, by omega, rfl, ?_, rfl⟩
    have h1 := beVal_lt (bs.take i)
    have h2 : (bs.take i).length ≤ 7 := by simp; omega
    have h3 : 256 ^ (bs.take i).length ≤ 256 ^ 7 := Nat.pow_le_pow_right (by decide) h2
    have hbt := b.toNat_lt
    have e : IntKind.u64.wrap (IntKind.u64.wrap ((256 : Int) * ((beVal (bs.take i) : Nat) : Int)) + IntKind.u64.wrap (b.toNat : Int)) = ((256 * beVal (bs.take i) + b.toNat : Nat) : Int) := by
      rw [wrap_u64, wrap_u64, wrap_u64]; omega
    rw [e]
    unfold beVal
    rw [foldl_take_succ _ _ _ _ hb']
  · have : i = l := by omega
    subst this
    rw [List.take_of_length_le (by omega)]
    exact K

/-! ## Take -/

theorem Take_ok {n : Int} {p : Option Addr} {l c : Nat} {b : List UInt8} {J : Option Addr → Nat → Nat → Int → Int → World → Prop} (hn : InI n) (h : Bytes w p l b) (hlc : l ≤ c)
    (k : ∀ q d w', Row w' T_uint8 1 q (takeM n b).p.length d (bcells (takeM n b).p) → fresh w q → Chg No w w' → J q (takeM n b).p.length d ((takeM n b).s : Int) (takeM n b).e w') :
    callJ Try.prog fn_sheet_Take #[.int .i64 n, .slice p l c] w [.one .slice, .one (.int .u64), .one (.int .i64)] J := by
  have hbl := h.len
  obtain ⟨n1, n2⟩ := hn
  refine c_sheet_Take ?_
  unfold VC_sheet_Take
  refine withJ_i fun J9 hJ9 => ?_
  have bad : badN n → J9 true w := by
    intro hb
    subst hJ9
    unfold takeM at k
    rw [if_pos hb] at k
    exact condB_i (fun _ => k none 0 w (Row.nil _ _ _) (by rintro a ⟨⟩) (Chg.refl _ _)) (fun h => by simp at h)
  have good : ¬ badN n → J9 false w := by
    intro hb
    subst hJ9
    unfold takeM at k
    rw [if_neg hb] at k
    unfold badN at hb
    refine condB_i (fun h => by simp at h) (fun _ => ?_)
    refine condB_ne (fun h6 => ?_) (fun h6 => ?_)
    · rw [if_pos (by omega)] at k
      exact k none 0 w (Row.nil _ _ _) (by rintro a ⟨⟩) (Chg.refl _ _)
    rw [if_neg (by omega)] at k
    have hl512 : l = 512 := by omega
    subst hl512
    refine newRow (sz := 1) (n := 1) rfl (by decide) fun b2 w2 hr2 hb2 hc2 => ?_
    refine Count_ok (v := 0) (h.chg hc2 (off_no _)) hr2.sl ?_
    refine condB_eq (fun h0 => ?_) (fun h0 => ?_)
    · rw [if_pos (by omega)] at k
      refine mk_zeros (n := 496) (by decide) fun b3 w3 hr3 hb3 hc3 => ?_
      dsimp only at k
      rw [List.length_replicate] at k
      exact k _ _ w3 hr3 (by rintro a ⟨⟩; exact Nat.le_trans hc2.size hb3) (hc2.trans0 hc3)
    rw [if_neg (by omega)] at k
    have hc2d := hc2.drew
    refine cutB h (i := 4) (j := 512) (by decide) (by decide) hlc rfl rfl fun q4 hq4 _ => ?_
    refine Of_ok (k := 4) (h.chg hc2d (off_no _)) (by decide) (by decide) hlc ?_
    refine Sum_ok (hq4.chg hc2d (off_no _)) (by decide) ?_
    have e4 : (b.drop 4).take (512 - 4) = b.drop 4 := List.take_of_length_le (by rw [List.length_drop]; omega)
    rw [e4]
    have hcrc := crc_lt (b.drop 4)
    rw [wrap_u64_nat (by omega)]
    have hiff := summed_iff (b := b) (by omega)
    refine condB_ne (fun hne => ?_) (fun heq => ?_)
    · rw [if_pos (fun hs => hne (by rw [hiff.2 hs]))] at k
      exact k none 0 _ (Row.nil _ _ _) (by rintro a ⟨⟩) hc2d
    rw [if_neg (by simp only [Decidable.not_not]; exact hiff.1 (by omega))] at k
    refine cutB h (i := 4) (j := 512) (by decide) (by decide) hlc rfl rfl fun q5 hq5 _ => ?_
    refine Of_ok (k := 4) (hq5.chg hc2d (off_no _)) (by decide) (by decide) (by omega) ?_
    rw [e4]
    have hv := bv4_lt b 4
    have e5 : IntKind.u64.wrap n = n := by rw [wrap_u64]; omega
    rw [e5]
    refine condB_ne (fun hne => ?_) (fun heq2 => ?_)
    · rw [if_pos hne] at k
      exact k none 0 _ (Row.nil _ _ _) (by rintro a ⟨⟩) hc2d
    rw [if_neg (by simpa using heq2)] at k
    refine cutB h (i := 16) (j := 512) (by decide) (by decide) hlc rfl rfl fun q6 hq6 hq6n => ?_
    refine cutB h (i := 8) (j := 512) (by decide) (by decide) hlc rfl rfl fun q7 hq7 _ => ?_
    refine BClone_ok ((hq6.chg hc2d.drew (off_no _))) hq6n (by decide) fun p8 c8 w8 hr8 hf8 hc8 => ?_
    have hc8' := hc2d.drew.trans0 hc8
    refine Of_ok (k := 8) (hq7.chg hc8' (off_no _)) (by decide) (by decide) (by omega) ?_
    have e16 : (b.drop 16).take (512 - 16) = b.drop 16 := List.take_of_length_le (by rw [List.length_drop]; omega)
    have e8 : ((b.drop 8).take (512 - 8)).take 8 = (b.drop 8).take 8 := by rw [List.take_take]; rfl
    rw [e16] at hr8
    rw [e8]
    have hl16 : (b.drop 16).length = 512 - 16 := by rw [List.length_drop]; omega
    have := k p8 c8 w8 (by rw [hl16]; exact hr8) (fun a ha => Nat.le_trans hc2d.drew.size (hf8 a ha)) hc8'
    rw [hl16] at this
    exact this
  clear hJ9
  refine condB_d (fun h => bad (.inl h)) (fun h1 => ?_)
  by_cases h2 : n > 4294967295
  · rw [decide_eq_true h2]; exact bad (.inr h2)
  · rw [decide_eq_false h2]; exact good (by unfold badN; omega)

theorem RTake_ok {n : Int} {p : Option Addr} {l c : Nat} {b : List UInt8} {J : Option Addr → Nat → Nat → Int → Int → World → Prop} (hn : InI n) (h : Bytes w p l b) (hlc : l ≤ c)
    (k : ∀ q d w', Row w' T_uint8 1 q (takeM n b).p.length d (bcells (takeM n b).p) → fresh w q → Chg No w w' → J q (takeM n b).p.length d ((takeM n b).s : Int) (takeM n b).e w') :
    callJ Try.prog fn_ref15_Take #[.int .i64 n, .slice p l c] w [.one .slice, .one (.int .u64), .one (.int .i64)] J := by
  have hbl := h.len
  obtain ⟨n1, n2⟩ := hn
  refine c_ref15_Take ?_
  unfold VC_ref15_Take
  refine withJ_i fun J9 hJ9 => ?_
  have bad : badN n → J9 true w := by
    intro hb
    subst hJ9
    unfold takeM at k
    rw [if_pos hb] at k
    exact condB_i (fun _ => k none 0 w (Row.nil _ _ _) (by rintro a ⟨⟩) (Chg.refl _ _)) (fun h => by simp at h)
  have good : ¬ badN n → J9 false w := by
    intro hb
    subst hJ9
    unfold takeM at k
    rw [if_neg hb] at k
    unfold badN at hb
    refine condB_i (fun h => by simp at h) (fun _ => ?_)
    refine condB_ne (fun h6 => ?_) (fun h6 => ?_)
    · rw [if_pos (by omega)] at k
      exact k none 0 w (Row.nil _ _ _) (by rintro a ⟨⟩) (Chg.refl _ _)
    rw [if_neg (by omega)] at k
    have hl512 : l = 512 := by omega
    refine ⟨fun bl x w' m => ∃ i : Nat, x = i ∧ i ≤ l ∧ m = l - i ∧ bl = decide ((b.take i).count 0 = i) ∧ w' = w, ⟨_, 0, rfl, Nat.zero_le _, rfl, by simp, rfl⟩, ?_⟩
    rintro bl x w' m ⟨i, rfl, hi, rfl, rfl, rfl⟩
    refine condB_d (fun hlt => ?_) (fun hlt => ?_)
    · refine withJ_i fun J7 hJ7 => ?_
      have next : ∀ (x : Bool), (x = true ↔ (b.take (i + 1)).count 0 = i + 1) → J7 x w' := by
        intro x hx
        subst hJ7
        refine ⟨l - (i + 1), by omega, i + 1, by rw [w64_of] <;> omega, by omega, rfl, ?_, rfl⟩
        rw [Bool.eq_iff_iff, decide_eq_true_iff]; exact hx
      clear hJ7
      refine byte_i h (by omega) (by omega) fun y hy => ?_
      rw [Int.toNat_natCast] at hy
      have hcl : (b.take i).count 0 ≤ i := by have := List.count_le_length (a := (0 : UInt8)) (l := b.take i); rw [List.length_take] at this; omega
      have hcs : (b.take (i + 1)).count 0 = (b.take i).count 0 + if y = 0 then 1 else 0 := by
        rw [List.take_add_one, hy, List.count_append]
        congr 1
        by_cases h0 : y = 0
        · subst h0; simp
        · simp [h0]
      refine condB_i (fun ht => ?_) (fun hf => ?_)
      · have ht' := of_decide_eq_true ht
        refine next _ ?_
        rw [hcs, beq_iff_eq]
        constructor
        · intro h0
          have : y = 0 := UInt8.toNat_inj.1 (by simpa using h0)
          rw [if_pos this]; omega
        · intro he
          by_cases h0 : y = 0
          · subst h0; rfl
          · rw [if_neg h0] at he; omega
      · have hf' := of_decide_eq_false hf
        refine next _ ?_
        rw [hcs]
        constructor
        · intro h; cases h
        · intro he; exfalso; split at he <;> omega
    have hi512 : i = l := by omega
    rw [hi512, List.take_of_length_le (by omega)]
    clear hi512 hi hlt
    subst hl512
    refine condB_d (fun h0 => ?_) (fun h0 => ?_)
    · rw [if_pos h0] at k
      refine mk_zeros (n := 496) (by decide) fun b3 w3 hr3 hb3 hc3 => ?_
      dsimp only at k
      rw [List.length_replicate] at k
      exact k _ _ w3 hr3 (by rintro a ⟨⟩; exact hb3) hc3
    rw [if_neg h0] at k
    have hcd : Chg No w' w'.drew := (Chg.refl _ _).drew
    refine cutB h (i := 4) (j := 512) (by decide) (by decide) hlc rfl rfl fun q4 hq4 hq4n => ?_
    refine bytesOf_i (h.chg hcd (off_no _)) ?_
    have e4 : (b.drop 4).take (512 - 4) = b.drop 4 := List.take_of_length_le (by rw [List.length_drop]; omega)
    rw [e4] at hq4
    refine summed_ok (hq4.chg hcd (off_no _)) hq4n (by decide) fun p5 c5 w5 hr5 hf5 hc5 => ?_
    have hc5' := hcd.trans0 hc5
    refine ⟨(h.chg hc5' (off_no _)).bytesAt, bytesOf_i hr5.bytes ?_⟩
    rw [ByteArray.toList_mk, ByteArray.toList_mk]
    have hiff := summed_iff2 (b := b)
    refine condB_i (fun hne => ?_) (fun heq => ?_)
    · rw [if_pos (fun hs => by rw [hiff.2 hs] at hne; simp at hne)] at k
      exact k none 0 _ (Row.nil _ _ _) (by rintro a ⟨⟩) hc5'
    rw [if_neg (by simp only [Decidable.not_not]; exact hiff.1 (by simpa using heq))] at k
    refine cutB h (i := 4) (j := 8) (by decide) (by decide) hlc rfl rfl fun q6 hq6 _ => ?_
    refine Value_ok (hq6.chg hc5' (off_no _)) (by decide) ?_
    rw [show (8 : Nat) - 4 = 4 from rfl]
    refine condB_ne (fun hne => ?_) (fun heq2 => ?_)
    · rw [if_pos hne] at k
      exact k none 0 _ (Row.nil _ _ _) (by rintro a ⟨⟩) hc5'
    rw [if_neg (by simpa using heq2)] at k
    refine cutB h (i := 16) (j := 512) (by decide) (by decide) hlc rfl rfl fun q7 hq7 hq7n => ?_
    refine cutB h (i := 8) (j := 16) (by decide) (by decide) hlc rfl rfl fun q8 hq8 _ => ?_
    have e16 : (b.drop 16).take (512 - 16) = b.drop 16 := List.take_of_length_le (by rw [List.length_drop]; omega)
    rw [e16] at hq7
    refine twin_row slT_u8 (hq7.chg hc5'.drew (off_no _)) (one1_bcells _) hq7n (by decide) (by decide) fun p9 c9 w9 hr9 hf9 hc9 => ?_
    have hc9' := hc5'.drew.trans0 hc9
    refine wide_ok (hq8.chg hc9' (off_no _)) (by decide) ?_
    rw [show (16 : Nat) - 8 = 8 from rfl]
    have hl16 : (b.drop 16).length = 512 - 16 := by rw [List.length_drop]; omega
    have := k p9 c9 w9 (by rw [hl16]; exact hr9) (fun a ha => Nat.le_trans hc5'.drew.size (hf9 a ha)) hc9'
    rw [hl16] at this
    exact this
  clear hJ9
  refine condB_d (fun h => bad (.inl h)) (fun h1 => ?_)
  by_cases h2 : n > 4294967295
  · rw [decide_eq_true h2]; exact bad (.inr h2)
  · rw [decide_eq_false h2]; exact good (by unfold badN; omega)

/-! ## Heads -/

theorem LayHead_ok {gen : Int} {stamp : Nat} {J : Option Addr → Nat → Nat → Int → World → Prop}
    (k : ∀ q d w', Row w' T_uint8 1 q (layHeadM gen stamp).b.length d (bcells (layHeadM gen stamp).b) → fresh w q → Chg No w w' → J q (layHeadM gen stamp).b.length d (layHeadM gen stamp).e w') :
    callJ Try.prog fn_sheet_LayHead #[.agg ⟨[.int .i64 gen, .int .u64 (stamp : Int)]⟩] w [.one .slice, .one (.int .i64)] J := by
  refine c_sheet_LayHead ?_
  unfold VC_sheet_LayHead
  refine (Hp.start w No).newB fun b1 w1 H1 hb1 hc1 => ?_
  refine withJ_i fun J12 hJ12 => ?_
  have bad : badG gen → J12 true w1 := by
    intro hb
    subst hJ12
    unfold layHeadM at k
    rw [if_pos hb] at k
    exact condB_i (fun _ => k none 0 w1 (Row.nil _ _ _) (by rintro a ⟨⟩) hc1) (fun h => by simp at h)
  have good : ¬ badG gen → J12 false w1 := by
    intro hb
    subst hJ12
    unfold layHeadM at k
    rw [if_neg hb] at k
    unfold badG at hb
    refine condB_i (fun h => by simp at h) (fun _ => ?_)
    obtain ⟨gen, rfl⟩ := Int.eq_ofNat_of_zero_le (a := gen) (by omega)
    rw [Int.toNat_natCast, zeroC_u8] at *
    refine H1.mkS rfl (by decide) (by decide) (by decide) (by decide) fun b8 w2 H2 hb8 hc2 => ?_
    have ez : (List.replicate (64 : Int).toNat (#[.int .u8 0] : Array Value).toList).flatten = z64 4 ++ z64 60 := rfl
    rw [ez] at H2
    have hl : ∀ (xs : List Value) (m j : Nat), xs.length = m → m + j = 64 → (xs ++ z64 j).length = 64 := fun xs m j h1 h2 => by rw [List.length_append, z64_len, h1]; exact h2
    refine H2.appStr 0 rfl slT_u8 (by kernel_rfl) (s := markL) (hl _ 4 60 (z64_len 4) rfl) (by decide) fun w3 H3 hc3 => ?_
    simp only [List.set_cons_zero] at H3
    rw [show splice (z64 4 ++ z64 60) 4 (bcells markL) = (z64 4 ++ bcells markL) ++ z64 56 from splice_at (z64_len 4) rfl rfl] at H3
    refine H3.ldI 1 rfl (off := 0) rfl ?_
    rw [wrap_u64_nat (by omega)]
    refine Put_room (k := 4) H3 0 rfl (by decide) (hl _ 8 56 rfl rfl) (by decide) fun w4 H4 hc4 => ?_
    simp only [List.set_cons_zero] at H4
    rw [show splice (z64 4 ++ bcells markL ++ z64 56) (4 + markL.length) (bcells (be 4 gen)) = (z64 4 ++ bcells markL ++ bcells (be 4 gen)) ++ z64 52 from splice_at rfl (bbe_len 4 gen) rfl] at H4
    refine H4.ldI 1 rfl (off := 1) rfl ?_
    refine Put_room (k := 8) H4 0 rfl (by decide) (hl _ 12 52 (by rw [List.length_append, bbe_len]; rfl) rfl) (by decide) fun w5 H5 hc5 => ?_
    simp only [List.set_cons_zero] at H5
    rw [show splice (z64 4 ++ bcells markL ++ bcells (be 4 gen) ++ z64 52) (4 + markL.length + 4) (bcells (be 8 stamp)) = (z64 4 ++ bcells markL ++ bcells (be 4 gen) ++ bcells (be 8 stamp)) ++ z64 44 from splice_at (by rw [List.length_append, bbe_len]; rfl) (bbe_len 8 stamp) rfl] at H5
    have e7 : z64 4 ++ bcells markL ++ bcells (be 4 gen) ++ bcells (be 8 stamp) ++ z64 44 = bcells (List.replicate 4 0 ++ headBody gen stamp) := by
      simp [headBody, bcells, z64]
    rw [e7] at H5
    have hcl : (bcells (List.replicate 4 0 ++ headBody gen stamp)).length = 64 := by rw [bcells_length, List.length_append, headBody_len]; rfl
    refine slS_pre (j := 64) ⟨_, rfl⟩ (by decide) (by decide) ?_
    have hR7 : Row w5 T_uint8 1 (some ⟨b8, 0, none⟩) 64 64 (bcells (List.replicate 4 0 ++ headBody gen stamp)) :=
      H5.asRow 0 rfl (rest := []) (by simp) hcl (Nat.le_refl _) (by decide) hcl
    refine slS_sl (i := 4) (j := 64) hR7.sl rfl rfl (by decide) (by decide) (by decide) fun p9 hs9 _ => ?_
    have e9 : ((bcells (List.replicate 4 0 ++ headBody gen stamp)).drop (4 * 1)).take ((64 - 4) * 1) = bcells (headBody gen stamp) := by
      rw [show bcells (List.replicate 4 0 ++ headBody gen stamp) = bcells (List.replicate 4 0) ++ bcells (headBody gen stamp) from by simp [bcells]]
      rw [List.drop_left' (by simp [bcells]), List.take_of_length_le (by rw [bcells_length, headBody_len]; decide)]
    rw [e9] at hs9
    refine Sum_ok (bs := headBody gen stamp) hs9 (by decide) ?_
    have hcrc := crc_lt (headBody gen stamp)
    rw [wrap_u64_nat (by omega)]
    refine Put_row (k := 4) (Row.nil _ _ _) (by decide) (by decide) fun p10 c10 w10 hr10 hc10 hf10 => ?_
    rw [List.nil_append] at hr10
    have hc10' : Chg No w5 w10 := hc10.mono fun b _ ⟨a, ha, _⟩ => by cases ha
    have H10 := H5.step0 hc10'
    refine H10.cpy 0 rfl slT_u8 hr10.sl (fun h => absurd (hr10.none0 h) (by decide)) (one1_bcells _) (by rw [hcl]; decide) fun w11 H11 hc11 => ?_
    simp only [List.set_cons_zero] at H11
    have e11 : splice (bcells (List.replicate 4 0 ++ headBody gen stamp)) 0 ((bcells (be 4 (crc (headBody gen stamp)))).take (min (0 + 4) 64)) = bcells (headS gen stamp) := by
      rw [List.take_of_length_le (by rw [bcells_length, be_len]; decide)]
      unfold splice
      rw [show bcells (List.replicate 4 0 ++ headBody gen stamp) = bcells (List.replicate 4 0) ++ bcells (headBody gen stamp) from by simp [bcells]]
      rw [List.take_zero, List.nil_append, List.drop_left' (by simp [bcells, be_len])]
      simp [headS, summedL, bcells]
    rw [e11] at H11
    have hpl := headS_len (gen := gen) (stamp := stamp)
    rw [hpl] at k
    refine k _ _ w11 (H11.asRow 0 rfl (rest := []) (by simp) (by rw [bcells_length, hpl]) (Nat.le_refl _) (by decide) (by rw [bcells_length, hpl])) ?_ H11.chg
    rintro a ⟨⟩
    exact H11.fresh 0 rfl id
  clear hJ12
  refine H1.ldI 0 rfl (off := 0) rfl ?_
  refine condB_d (fun h => bad (.inl h)) (fun h1 => ?_)
  refine H1.ldI 0 rfl (off := 0) rfl ?_
  by_cases h2 : gen > 4294967295
  · rw [decide_eq_true h2]; exact bad (.inr h2)
  · rw [decide_eq_false h2]; exact good (by unfold badG; omega)

theorem RLayHead_ok {gen : Int} {stamp : Nat} {J : Option Addr → Nat → Nat → Int → World → Prop} (hs : stamp < 2 ^ 64)
    (k : ∀ q d w', Row w' T_uint8 1 q (layHeadM gen stamp).b.length d (bcells (layHeadM gen stamp).b) → fresh w q → Chg No w w' → J q (layHeadM gen stamp).b.length d (layHeadM gen stamp).e w') :
    callJ Try.prog fn_ref15_LayHead #[.agg ⟨[.int .i64 gen, .int .u64 (stamp : Int)]⟩] w [.one .slice, .one (.int .i64)] J := by
  refine c_ref15_LayHead ?_
  unfold VC_ref15_LayHead
  refine (Hp.start w No).newB fun b1 w1 H1 hb1 hc1 => ?_
  refine withJ_i fun J12 hJ12 => ?_
  have bad : badG gen → J12 true w1 := by
    intro hb
    subst hJ12
    unfold layHeadM at k
    rw [if_pos hb] at k
    exact condB_i (fun _ => k none 0 w1 (Row.nil _ _ _) (by rintro a ⟨⟩) hc1) (fun h => by simp at h)
  have good : ¬ badG gen → J12 false w1 := by
    intro hb
    subst hJ12
    unfold layHeadM at k
    rw [if_neg hb] at k
    unfold badG at hb
    refine condB_i (fun h => by simp at h) (fun _ => ?_)
    obtain ⟨gen, rfl⟩ := Int.eq_ofNat_of_zero_le (a := gen) (by omega)
    rw [Int.toNat_natCast] at k
    refine H1.newB fun b2 w2 H2 hb2 hc2 => ?_
    refine H2.ldI 1 rfl (off := 0) rfl ?_
    rw [wrap_u64_nat (by omega)]
    have hr2 : Row w2 T_uint8 1 (some ⟨b2, 0, none⟩) 4 4 (bcells markL) := H2.asRow 0 rfl (rest := []) (by simp [bcells, markL]) rfl (Nat.le_refl _) (by decide) rfl
    have f2 : fresh w1 (some ⟨b2, 0, none⟩) := by rintro a ⟨⟩; exact hb2
    refine Number_ok (k := 4) (by omega) (by decide) fun b3 w3 hr3 hb3 hc3 => ?_
    refine appB (hr2.chg hc3 (off_no _)) hr3.bytes (by simp) (by decide) f2 (hc2.trans0 hc3) fun p4 c4 w4 hr4 f4 hc4 => ?_
    have hcell : w4.cell? ⟨b1, 1, none⟩ = some (.int .u64 (stamp : Int)) := by
      rw [cell_of_row w4 b1 1 _ _ (0, 0) (hc4.heap (H1.get 0 rfl) id)]; rfl
    refine ldI_i hcell ?_
    refine Number_ok (k := 8) (by omega) (by decide) fun b5 w5 hr5 hb5 hc5 => ?_
    refine appB (hr4.chg hc5 (off_no _)) hr5.bytes (by simp) (by decide) f4 (hc4.trans0 hc5) fun p6 c6 w6 hr6 f6 hc6 => ?_
    refine Fill_ok (k := 60) hr6.bytes (by decide) (by decide) fun b7 w7 hr7 hb7 hc7 => ?_
    refine summed_ok hr7.bytes (by simp) (by decide) fun p8 c8 w8 hr8 f8 hc8 => ?_
    have hpl := headS_len (gen := gen) (stamp := stamp)
    rw [hpl] at k
    have e : fillTo 60 (markL ++ be 4 gen ++ be 8 stamp) = headBody gen stamp := by
      unfold fillTo headBody
      congr 2
    rw [e] at hr8
    have hc18 := (hc6.trans0 hc7).trans0 hc8
    exact k p8 c8 w8 hr8 (fun a ha => Nat.le_trans (hc1.trans0 (hc6.trans0 hc7)).size (f8 a ha)) (hc1.trans0 hc18)
  clear hJ12
  refine H1.ldI 0 rfl (off := 0) rfl ?_
  refine condB_d (fun h => bad (.inl h)) (fun h1 => ?_)
  refine H1.ldI 0 rfl (off := 0) rfl ?_
  by_cases h2 : gen > 4294967295
  · rw [decide_eq_true h2]; exact bad (.inr h2)
  · rw [decide_eq_false h2]; exact good (by unfold badG; omega)
end

end Go.Proofs.Ytgplflecgnldeaa
