/-
  Package lecternref14's small functions: Sum, Number, Value, Fill.
-/
import Derived.Test.YtgplflecgnldeaaVNumR
import Derived.Test.YtgplflecgnldeaaNum
namespace Go.Proofs.Ytgplflecgnldeaa
open Go Go.Vc

section
variable {w : World}

theorem crcR (c : Nat) (i : Nat) (hc : c < 2 ^ 32) :
    (if Int.tmod ((crcN i c : Nat) : Int) 2 = 1 then bXor .u32 (IntKind.u32.wrap (Int.tdiv ((crcN i c : Nat) : Int) 2)) 3988292384 else IntKind.u32.wrap (Int.tdiv ((crcN i c : Nat) : Int) 2)) = ((crcN (i + 1) c : Nat) : Int) := by
  have hlt := crcN_lt hc i
  rw [crcN_succ, Int.tmod_eq_emod_of_nonneg (by omega), Int.tdiv_eq_ediv_of_nonneg (by omega)]
  unfold crcStep
  have h1 : IntKind.u32.wrap (((crcN i c : Nat) : Int) / 2) = ((crcN i c / 2 : Nat) : Int) := by rw [wrap_u32]; omega
  have h2 : ((crcN i c : Nat) : Int) % 2 = 1 ↔ crcN i c % 2 = 1 := by omega
  rw [h1]
  simp only [h2]
  split
  · exact bXor_u32 (by omega) (by decide)
  · rfl

theorem RSum_ok {p : Option Addr} {l c : Nat} {bs : List UInt8} {J : Int → World → Prop} (h : Bytes w p l bs) (hm : l ≤ 4611686018427387904) (K : J ((crc bs : Nat) : Int) w) :
    callJ Try.prog fn_ref14_Sum #[.slice p l c] w [.one (.int .u32)] J := by
  refine c_ref14_Sum ?_
  unfold VC_ref14_Sum
  refine ⟨fun n x w' t => ∃ i : Nat, x = i ∧ i ≤ l ∧ t = l - i ∧ n = ((crcFold (bs.take i) : Nat) : Int) ∧ w' = w, ⟨_, 0, rfl, Nat.zero_le _, rfl, rfl, rfl⟩, ?_⟩
  rintro n x w' t ⟨i, rfl, hi, rfl, rfl, rfl⟩
  have hbl := h.len
  refine condB_d (fun hb => ?_) (fun hb => ?_)
  · refine byte_i h (by omega) (by omega) fun b hb' => ?_
    rw [Int.toNat_natCast] at hb'
    have hlt := crcFold_lt (bs.take i)
    have hbt := b.toNat_lt
    have e1 : IntKind.u32.wrap (b.toNat : Int) = (b.toNat : Int) := by rw [wrap_u32]; omega
    rw [e1, bXor_u32 hlt (by omega)]
    have hx : crcFold (bs.take i) ^^^ b.toNat < 2 ^ 32 := Nat.xor_lt_two_pow hlt (by omega)
    refine ⟨fun n x w2 t => ∃ j : Nat, x = j ∧ j ≤ 8 ∧ t = 8 - j ∧ n = ((crcN j (crcFold (bs.take i) ^^^ b.toNat) : Nat) : Int) ∧ w2 = w', ⟨_, 0, rfl, by decide, rfl, rfl, rfl⟩, ?_⟩
    rintro n x w2 t ⟨j, rfl, hj, rfl, rfl, rfl⟩
    refine condB_d (fun hb2 => ?_) (fun hb2 => ?_)
    · refine withJ_i fun J3 hJ3 => ⟨by decide, ?_⟩
      have go : ∀ n, n = ((crcN (j + 1) (crcFold (bs.take i) ^^^ b.toNat) : Nat) : Int) → J3 n w2 := by
        intro n hn
        subst hJ3
        exact ⟨8 - (j + 1), by omega, j + 1, by rw [w64_of] <;> omega, by omega, rfl, hn, rfl⟩
      have hcI := crcR _ j hx
      refine condB_eq (fun he => ?_) (fun he => ?_)
      · rw [if_pos he] at hcI; exact ⟨by decide, go _ hcI⟩
      · rw [if_neg he] at hcI; exact ⟨by decide, go _ hcI⟩
    · have : j = 8 := by omega
      subst this
      refine ⟨l - (i + 1), by omega, i + 1, by rw [w64_of] <;> omega, by omega, rfl, ?_, rfl⟩
      unfold crcFold; rw [foldl_take_succ _ _ _ _ hb']; rfl
  · have : i = l := by omega
    subst this
    rw [List.take_of_length_le (by omega)]
    have hlt := crcFold_lt bs
    have e : IntKind.u32.wrap ((4294967295 : Int) - ((crcFold bs : Nat) : Int)) = ((crc bs : Nat) : Int) := by rw [wrap_u32]; unfold crc; omega
    rw [e]; exact K

/-- The last bytes of a number. -/
theorem be_drop : ∀ (k n i : Nat), i ≤ k → (be k n).drop (k - i) = be i n
  | 0, _, i, h => by have : i = 0 := by omega
                     subst this; rfl
  | k + 1, n, i, h => by
    by_cases he : i = k + 1
    · subst he; simp
    · rw [show k + 1 - i = (k - i) + 1 by omega, be, List.drop_succ_cons]
      exact be_drop k n i (by omega)

theorem Number_ok {n k : Nat} {J : Option Addr → Nat → Nat → World → Prop} (hn : n < 2 ^ 64) (hk : k ≤ 8)
    (K : ∀ b w', Row w' T_uint8 1 (some ⟨b, 0, none⟩) k k (bcells (be k n)) → w.heap.size ≤ b → Chg No w w' → J (some ⟨b, 0, none⟩) k k w') :
    callJ Try.prog fn_ref14_Number #[.int .u64 (n : Int), .int .i64 (k : Int)] w [.one .slice] J := by
  refine c_ref14_Number ?_
  unfold VC_ref14_Number
  rw [zeroC_u8]
  refine (Hp.start w No).mkS rfl (by omega) (by omega) (by omega) (by omega) fun b w1 H1 hb1 hc1 => ?_
  rw [show (List.replicate (k : Int).toNat (#[.int .u8 0] : Array Value).toList).flatten = bcells (List.replicate k 0) from by rw [Int.toNat_natCast]; simp [bcells, List.flatten_replicate_singleton]] at H1
  rw [Int.toNat_natCast]
  refine ⟨fun m x w' t => ∃ i : Nat, x = (i : Int) - 1 ∧ i ≤ k ∧ i = t ∧ m = ((n / 256 ^ (k - i) : Nat) : Int) ∧ Hp w No w' [⟨b, bcells (List.replicate i 0 ++ be (k - i) n), T_uint8⟩],
    ⟨_, k, by rw [w64_of] <;> omega, Nat.le_refl _, rfl, by simp, by simpa [be] using H1⟩, ?_⟩
  rintro m x w2 t ⟨i, rfl, hi, rfl, rfl, H2⟩
  refine condB_d (fun hb => ?_) (fun hb => ?_)
  · obtain ⟨j, rfl⟩ : ∃ j, i = j + 1 := ⟨i - 1, by omega⟩
    refine ⟨by decide, idxA_i (by omega) (by omega) ?_⟩
    have e1 : ((((j + 1 : Nat) : Int) - 1).toNat) = j := by omega
    rw [e1, Addr.add_mk, Nat.zero_add, Nat.mul_one]
    have hl : (bcells (List.replicate (j + 1) 0 ++ be (k - (j + 1)) n)).length = k := by simp [bcells, be_len]; omega
    refine H2.stV 0 rfl (off := j) (by rw [hl]; omega) fun w3 H3 hc3 => ⟨by decide, ?_⟩
    simp only [List.set_cons_zero] at H3
    have hd : n / 256 ^ (k - (j + 1)) < 2 ^ 64 := Nat.lt_of_le_of_lt (Nat.div_le_self _ _) hn
    have e2 : IntKind.u64.wrap (Int.tdiv ((n / 256 ^ (k - (j + 1)) : Nat) : Int) 256) = ((n / 256 ^ (k - j) : Nat) : Int) := by
      have : n / 256 ^ (k - j) = n / 256 ^ (k - (j + 1)) / 256 := by rw [Nat.div_div_eq_div_mul, ← Nat.pow_succ, show (k - (j + 1)).succ = k - j by omega]
      rw [this]
      generalize n / 256 ^ (k - (j + 1)) = y at hd
      rw [Int.tdiv_eq_ediv_of_nonneg (by omega), wrap_u64]; omega
    have e3 : IntKind.u8.wrap (Int.tmod ((n / 256 ^ (k - (j + 1)) : Nat) : Int) 256) = ((UInt8.ofNat (n / 256 ^ (k - (j + 1)))).toNat : Int) := by
      generalize n / 256 ^ (k - (j + 1)) = y
      rw [Int.tmod_eq_emod_of_nonneg (by omega), wrap_u8, UInt8.toNat_ofNat']
      simp only [show (2 ^ 8 : Nat) = 256 from rfl]
      omega
    rw [e3] at H3
    refine ⟨j, by omega, j, ?_, by omega, rfl, e2, ?_⟩
    · rw [w64_of] <;> omega
    · have e4 : (bcells (List.replicate (j + 1) 0 ++ be (k - (j + 1)) n)).set j (Value.int .u8 ((UInt8.ofNat (n / 256 ^ (k - (j + 1)))).toNat : Int)) = bcells (List.replicate j 0 ++ be (k - j) n) := by
        have e5 : be (k - j) n = UInt8.ofNat (n / 256 ^ (k - (j + 1))) :: be (k - (j + 1)) n := by rw [show k - j = k - (j + 1) + 1 by omega]; rfl
        rw [e5]
        unfold bcells
        rw [← List.map_set]
        congr 1
        rw [List.replicate_succ', List.append_assoc, List.set_append_right _ _ (by simp)]
        simp
      rw [e4] at H3; exact H3
  · have h0 : i = 0 := by omega
    subst h0
    simp only [List.replicate_zero, List.nil_append, Nat.sub_zero] at H2
    exact K b w2 (H2.asRow 0 rfl (rest := []) (by simp) (by simp [bcells, be_len]) (Nat.le_refl _) (by simp only [maxLen]; omega) (by simp [bcells, be_len])) hb1 H2.chg

theorem Value_ok {p : Option Addr} {l c : Nat} {bs : List UInt8} {J : Int → World → Prop} (h : Bytes w p l bs) (hl : l ≤ 7) (K : J ((beVal bs : Nat) : Int) w) :
    callJ Try.prog fn_ref14_Value #[.slice p l c] w [.one (.int .i64)] J := by
  refine c_ref14_Value ?_
  unfold VC_ref14_Value
  refine ⟨fun n x w' t => ∃ i : Nat, x = i ∧ i ≤ l ∧ t = l - i ∧ n = ((beVal (bs.take i) : Nat) : Int) ∧ w' = w, ⟨_, 0, rfl, Nat.zero_le _, rfl, rfl, rfl⟩, ?_⟩
  rintro n x w' t ⟨i, rfl, hi, rfl, rfl, rfl⟩
  have hbl := h.len
  refine condB_d (fun hb => ?_) (fun hb => ?_)
  · refine byte_i h (by omega) (by omega) fun b hb' => ?_
    rw [Int.toNat_natCast] at hb'
    refine ⟨l - (i + 1), by omega, i + 1, by rw [w64_of] <;> omega, by omega, rfl, ?_, rfl⟩
    have h1 := beVal_lt (bs.take i)
    have h2 : (bs.take i).length ≤ 6 := by simp; omega
    have h3 : 256 ^ (bs.take i).length ≤ 256 ^ 6 := Nat.pow_le_pow_right (by decide) h2
    have hbt := b.toNat_lt
    rw [w64_of (n := (256 : Int) * _) (by omega) (by omega), w64_of (n := (b.toNat : Int)) (by omega) (by omega), w64_of (by omega) (by omega)]
    unfold beVal
    rw [foldl_take_succ _ _ _ _ hb']
    omega
  · have : i = l := by omega
    subst this
    rw [List.take_of_length_le (by omega)]
    exact K

def fillTo (k : Nat) (bs : List UInt8) : List UInt8 := bs ++ List.replicate (k - bs.length) 0
theorem fillTo_len {k : Nat} {bs : List UInt8} (h : bs.length ≤ k) : (fillTo k bs).length = k := by simp [fillTo]; omega

theorem Fill_ok {p : Option Addr} {l c k : Nat} {bs : List UInt8} {J : Option Addr → Nat → Nat → World → Prop} (h : Bytes w p l bs) (hl : l ≤ k) (hk : k ≤ 100000)
    (K : ∀ b w', Row w' T_uint8 1 (some ⟨b, 0, none⟩) k k (bcells (fillTo k bs)) → w.heap.size ≤ b → Chg No w w' → J (some ⟨b, 0, none⟩) k k w') :
    callJ Try.prog fn_ref14_Fill #[.slice p l c, .int .i64 (k : Int)] w [.one .slice] J := by
  refine c_ref14_Fill ?_
  unfold VC_ref14_Fill
  rw [zeroC_u8]
  refine (Hp.start w No).mkS rfl (by omega) (by omega) (by omega) (by omega) fun b w1 H1 hb1 hc1 => ?_
  rw [show (List.replicate (k : Int).toNat (#[.int .u8 0] : Array Value).toList).flatten = bcells (List.replicate k 0) from by rw [Int.toNat_natCast]; simp [bcells, List.flatten_replicate_singleton]] at H1
  rw [Int.toNat_natCast]
  have hbl := h.len
  refine ⟨fun x w' t => ∃ i : Nat, x = i ∧ i ≤ l ∧ t = l - i ∧ Hp w No w' [⟨b, bcells (bs.take i ++ List.replicate (k - i) 0), T_uint8⟩],
    ⟨_, 0, rfl, Nat.zero_le _, rfl, by simpa using H1⟩, ?_⟩
  rintro x w2 t ⟨i, rfl, hi, rfl, H2⟩
  refine condB_d (fun hb => ?_) (fun hb => ?_)
  · refine byte_i (h.chg H2.chg (off_no _)) (by omega) (by omega) fun y hy => ?_
    rw [Int.toNat_natCast] at hy
    refine idxA_i (by omega) (by omega) ?_
    rw [Addr.add_mk, Nat.zero_add, Nat.mul_one, Int.toNat_natCast]
    have hl2 : (bcells (bs.take i ++ List.replicate (k - i) 0)).length = k := by simp [bcells]; omega
    refine H2.stV 0 rfl (off := i) (by rw [hl2]; omega) fun w3 H3 hc3 => ?_
    refine ⟨l - (i + 1), by omega, i + 1, by rw [w64_of] <;> omega, by omega, rfl, ?_⟩
    have e4 : (bcells (bs.take i ++ List.replicate (k - i) 0)).set i (Value.int .u8 (y.toNat : Int)) = bcells (bs.take (i + 1) ++ List.replicate (k - (i + 1)) 0) := by
      unfold bcells
      rw [← List.map_set]
      congr 1
      rw [List.take_add_one, hy, show k - i = (k - (i + 1)) + 1 by omega, List.replicate_succ, List.set_append_right _ _ (by simp; omega)]
      have : i - (bs.take i).length = 0 := by simp; omega
      rw [this]; simp
    simp only [List.set_cons_zero] at H3
    rw [e4] at H3; exact H3
  · have h0 : i = l := by omega
    subst h0
    rw [List.take_of_length_le (by omega), ← hbl] at H2
    exact K b w2 (H2.asRow 0 rfl (rest := []) (by simp [fillTo]) (by rw [bcells_length, fillTo_len (by omega), Nat.mul_one]) (Nat.le_refl _) (by simp only [maxLen]; omega) (by simp [bcells]; omega)) hb1 H2.chg

end

end Go.Proofs.Ytgplflecgnldeaa
