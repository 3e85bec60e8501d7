/-
  Chapter 14's helpers of the statements (package ref): Sum, Number, Value, Fill, Sectors, Group.
-/
import Derived.Test.YtfhmnodoahcmnaaVRef14
import Derived.Test.YtfhmnodoahcmnaaTapeD
namespace Go.Proofs.Ytfhmnodoahcmnaa
open Go Go.Vc

section
variable {w : World}

theorem crcR (c : Nat) (i : Nat) (hc : c < 2 ^ 32) :
    (if Int.tmod ((crcN i c : Nat) : Int) 2 = 1 then bXor .u32 (IntKind.u32.wrap (Int.tdiv ((crcN i c : Nat) : Int) 2)) 3988292384 else IntKind.u32.wrap (Int.tdiv ((crcN i c : Nat) : Int) 2)) = ((crcN (i + 1) c : Nat) : Int) := by
  have hlt := crcN_lt hc i
  rw [crcN_succ, Int.tmod_eq_emod_of_nonneg (by omega), Int.tdiv_eq_ediv_of_nonneg (by omega)]
  unfold crcStep
  have h1 : IntKind.u32.wrap (((crcN i c : Nat) : Int) / 2) = ((crcN i c / 2 : Nat) : Int) := by rw [wrap_u32]; omega
  have h2 : ((crcN i c : Nat) : Int) % 2 = 1 ↔ crcN i c % 2 = 1 := by omega
  rw [h1]
  simp only [h2]
  split
  · exact bXor_u32 (by omega) (by decide)
  · rfl

theorem RSum_ok {p : Option Addr} {l c : Nat} {bs : List UInt8} {J : Int → World → Prop} (h : Bytes w p l bs) (hm : l ≤ 4611686018427387904) (K : J ((crc bs : Nat) : Int) w) :
    callJ Try.prog fn_ref14_Sum #[.slice p l c] w [.one (.int .u32)] J := by
  refine c_ref14_Sum ?_
  unfold VC_ref14_Sum
  refine ⟨fun n x w' t => ∃ i : Nat, x = i ∧ i ≤ l ∧ t = l - i ∧ n = ((crcFold (bs.take i) : Nat) : Int) ∧ w' = w, ⟨_, 0, rfl, Nat.zero_le _, rfl, rfl, rfl⟩, ?_⟩
  rintro n x w' t ⟨i, rfl, hi, rfl, rfl, rfl⟩
  have hbl := h.len
  refine condB_d (fun hb => ?_) (fun hb => ?_)
  · refine byte_i h (by omega) (by omega) fun b hb' => ?_
    rw [Int.toNat_natCast] at hb'
    have hlt := crcFold_lt (bs.take i)
    have hbt := b.toNat_lt
    have e1 : IntKind.u32.wrap (b.toNat : Int) = (b.toNat : Int) := by rw [wrap_u32]; omega
    rw [e1, bXor_u32 hlt (by omega)]
    have hx : crcFold (bs.take i) ^^^ b.toNat < 2 ^ 32 := Nat.xor_lt_two_pow hlt (by omega)
    refine ⟨fun n x w2 t => ∃ j : Nat, x = j ∧ j ≤ 8 ∧ t = 8 - j ∧ n = ((crcN j (crcFold (bs.take i) ^^^ b.toNat) : Nat) : Int) ∧ w2 = w', ⟨_, 0, rfl, by decide, rfl, rfl, rfl⟩, ?_⟩
    rintro n x w2 t ⟨j, rfl, hj, rfl, rfl, rfl⟩
    refine condB_d (fun hb2 => ?_) (fun hb2 => ?_)
    · refine withJ_i fun J3 hJ3 => ⟨by decide, ?_⟩
      have go : ∀ n, n = ((crcN (j + 1) (crcFold (bs.take i) ^^^ b.toNat) : Nat) : Int) → J3 n w2 := by
        intro n hn
        subst hJ3
        exact ⟨8 - (j + 1), by omega, j + 1, by rw [w64_of] <;> omega, by omega, rfl, hn, rfl⟩
      have hcI := crcR _ j hx
      refine condB_eq (fun he => ?_) (fun he => ?_)
      · rw [if_pos he] at hcI; exact ⟨by decide, go _ hcI⟩
      · rw [if_neg he] at hcI; exact ⟨by decide, go _ hcI⟩
    · have : j = 8 := by omega
      subst this
      refine ⟨l - (i + 1), by omega, i + 1, by rw [w64_of] <;> omega, by omega, rfl, ?_, rfl⟩
      unfold crcFold; rw [foldl_take_succ _ _ _ _ hb']; rfl
  · have : i = l := by omega
    subst this
    rw [List.take_of_length_le (by omega)]
    have hlt := crcFold_lt bs
    have e : IntKind.u32.wrap ((4294967295 : Int) - ((crcFold bs : Nat) : Int)) = ((crc bs : Nat) : Int) := by rw [wrap_u32]; unfold crc; omega
    rw [e]; exact K

/-- The last bytes of a number. -/
theorem be_drop : ∀ (k n i : Nat), i ≤ k → (be k n).drop (k - i) = be i n
  | 0, _, i, h => by have : i = 0 := by omega
                     subst this; rfl
  | k + 1, n, i, h => by
    by_cases he : i = k + 1
    · subst he; simp
    · rw [show k + 1 - i = (k - i) + 1 by omega, be, List.drop_succ_cons]
      exact be_drop k n i (by omega)

theorem Number_ok {n k : Nat} {J : Option Addr → Nat → Nat → World → Prop} (hn : n < 2 ^ 64) (hk : k ≤ 8)
    (K : ∀ b w', Row w' T_uint8 1 (some ⟨b, 0, none⟩) k k (bcells (be k n)) → w.heap.size ≤ b → Chg No w w' → J (some ⟨b, 0, none⟩) k k w') :
    callJ Try.prog fn_ref14_Number #[.int .u64 (n : Int), .int .i64 (k : Int)] w [.one .slice] J := by
  refine c_ref14_Number ?_
  unfold VC_ref14_Number
  rw [zeroC_u8]
  refine (Hp.start w No).mkS rfl (by omega) (by omega) (by omega) (by omega) fun b w1 H1 hb1 hc1 => ?_
  rw [show (List.replicate (k : Int).toNat (#[.int .u8 0] : Array Value).toList).flatten = bcells (List.replicate k 0) from by rw [Int.toNat_natCast]; simp [bcells, List.flatten_replicate_singleton]] at H1
  rw [Int.toNat_natCast]
  refine ⟨fun m x w' t => ∃ i : Nat, x = (i : Int) - 1 ∧ i ≤ k ∧ i = t ∧ m = ((n / 256 ^ (k - i) : Nat) : Int) ∧ Hp w No w' [⟨b, bcells (List.replicate i 0 ++ be (k - i) n), T_uint8⟩],
    ⟨_, k, by rw [w64_of] <;> omega, Nat.le_refl _, rfl, by simp, by simpa [be] using H1⟩, ?_⟩
  rintro m x w2 t ⟨i, rfl, hi, rfl, rfl, H2⟩
  refine condB_d (fun hb => ?_) (fun hb => ?_)
  · obtain ⟨j, rfl⟩ : ∃ j, i = j + 1 := ⟨i - 1, by omega⟩
    refine ⟨by decide, idxA_i (by omega) (by omega) ?_⟩
    have e1 : ((((j + 1 : Nat) : Int) - 1).toNat) = j := by omega
    rw [e1, Addr.add_mk, Nat.zero_add, Nat.mul_one]
    have hl : (bcells (List.replicate (j + 1) 0 ++ be (k - (j + 1)) n)).length = k := by simp [bcells, be_len]; omega
    refine H2.stV 0 rfl (off := j) (by rw [hl]; omega) fun w3 H3 hc3 => ⟨by decide, ?_⟩
    simp only [List.set_cons_zero] at H3
    have hd : n / 256 ^ (k - (j + 1)) < 2 ^ 64 := Nat.lt_of_le_of_lt (Nat.div_le_self _ _) hn
    have e2 : IntKind.u64.wrap (Int.tdiv ((n / 256 ^ (k - (j + 1)) : Nat) : Int) 256) = ((n / 256 ^ (k - j) : Nat) : Int) := by
      have : n / 256 ^ (k - j) = n / 256 ^ (k - (j + 1)) / 256 := by rw [Nat.div_div_eq_div_mul, ← Nat.pow_succ, show (k - (j + 1)).succ = k - j by omega]
      rw [this]
      generalize n / 256 ^ (k - (j + 1)) = y at hd
      rw [Int.tdiv_eq_ediv_of_nonneg (by omega), wrap_u64]; omega
    have e3 : IntKind.u8.wrap (Int.tmod ((n / 256 ^ (k - (j + 1)) : Nat) : Int) 256) = ((UInt8.ofNat (n / 256 ^ (k - (j + 1)))).toNat : Int) := by
      generalize n / 256 ^ (k - (j + 1)) = y
      rw [Int.tmod_eq_emod_of_nonneg (by omega), wrap_u8, UInt8.toNat_ofNat']
      simp only [show (2 ^ 8 : Nat) = 256 from rfl]
      omega
    rw [e3] at H3
    refine ⟨j, by omega, j, ?_, by omega, rfl, e2, ?_⟩
    · rw [w64_of] <;> omega
    · have e4 : (bcells (List.replicate (j + 1) 0 ++ be (k - (j + 1)) n)).set j (Value.int .u8 ((UInt8.ofNat (n / 256 ^ (k - (j + 1)))).toNat : Int)) = bcells (List.replicate j 0 ++ be (k - j) n) := by
        have e5 : be (k - j) n = UInt8.ofNat (n / 256 ^ (k - (j + 1))) :: be (k - (j + 1)) n := by rw [show k - j = k - (j + 1) + 1 by omega]; rfl
        rw [e5]
        unfold bcells
        rw [← List.map_set]
        congr 1
        rw [List.replicate_succ', List.append_assoc, List.set_append_right _ _ (by simp)]
        simp
      rw [e4] at H3; exact H3
  · have h0 : i = 0 := by omega
    subst h0
    simp only [List.replicate_zero, List.nil_append, Nat.sub_zero] at H2
    exact K b w2 (H2.asRow 0 rfl (rest := []) (by simp) (by simp [bcells, be_len]) (Nat.le_refl _) (by simp only [maxLen]; omega) (by simp [bcells, be_len])) hb1 H2.chg

theorem Value_ok {p : Option Addr} {l c : Nat} {bs : List UInt8} {J : Int → World → Prop} (h : Bytes w p l bs) (hl : l ≤ 7) (K : J ((beVal bs : Nat) : Int) w) :
    callJ Try.prog fn_ref14_Value #[.slice p l c] w [.one (.int .i64)] J := by
  refine c_ref14_Value ?_
  unfold VC_ref14_Value
  refine ⟨fun n x w' t => ∃ i : Nat, x = i ∧ i ≤ l ∧ t = l - i ∧ n = ((beVal (bs.take i) : Nat) : Int) ∧ w' = w, ⟨_, 0, rfl, Nat.zero_le _, rfl, rfl, rfl⟩, ?_⟩
  rintro n x w' t ⟨i, rfl, hi, rfl, rfl, rfl⟩
  have hbl := h.len
  refine condB_d (fun hb => ?_) (fun hb => ?_)
  · refine byte_i h (by omega) (by omega) fun b hb' => ?_
    rw [Int.toNat_natCast] at hb'
    refine ⟨l - (i + 1), by omega, i + 1, by rw [w64_of] <;> omega, by omega, rfl, ?_, rfl⟩
    have h1 := beVal_lt (bs.take i)
    have h2 : (bs.take i).length ≤ 6 := by simp; omega
    have h3 : 256 ^ (bs.take i).length ≤ 256 ^ 6 := Nat.pow_le_pow_right (by decide) h2
    have hbt := b.toNat_lt
    rw [w64_of (n := (256 : Int) * _) (by omega) (by omega), w64_of (n := (b.toNat : Int)) (by omega) (by omega), w64_of (by omega) (by omega)]
    unfold beVal
    rw [foldl_take_succ _ _ _ _ hb']
    omega
  · have : i = l := by omega
    subst this
    rw [List.take_of_length_le (by omega)]
    exact K

def fillTo (k : Nat) (bs : List UInt8) : List UInt8 := bs ++ List.replicate (k - bs.length) 0
theorem fillTo_len {k : Nat} {bs : List UInt8} (h : bs.length ≤ k) : (fillTo k bs).length = k := by simp [fillTo]; omega

theorem Fill_ok {p : Option Addr} {l c k : Nat} {bs : List UInt8} {J : Option Addr → Nat → Nat → World → Prop} (h : Bytes w p l bs) (hl : l ≤ k) (hk : k ≤ 100000)
    (K : ∀ b w', Row w' T_uint8 1 (some ⟨b, 0, none⟩) k k (bcells (fillTo k bs)) → w.heap.size ≤ b → Chg No w w' → J (some ⟨b, 0, none⟩) k k w') :
    callJ Try.prog fn_ref14_Fill #[.slice p l c, .int .i64 (k : Int)] w [.one .slice] J := by
  refine c_ref14_Fill ?_
  unfold VC_ref14_Fill
  rw [zeroC_u8]
  refine (Hp.start w No).mkS rfl (by omega) (by omega) (by omega) (by omega) fun b w1 H1 hb1 hc1 => ?_
  rw [show (List.replicate (k : Int).toNat (#[.int .u8 0] : Array Value).toList).flatten = bcells (List.replicate k 0) from by rw [Int.toNat_natCast]; simp [bcells, List.flatten_replicate_singleton]] at H1
  rw [Int.toNat_natCast]
  have hbl := h.len
  refine ⟨fun x w' t => ∃ i : Nat, x = i ∧ i ≤ l ∧ t = l - i ∧ Hp w No w' [⟨b, bcells (bs.take i ++ List.replicate (k - i) 0), T_uint8⟩],
    ⟨_, 0, rfl, Nat.zero_le _, rfl, by simpa using H1⟩, ?_⟩
  rintro x w2 t ⟨i, rfl, hi, rfl, H2⟩
  refine condB_d (fun hb => ?_) (fun hb => ?_)
  · refine byte_i (h.chg H2.chg (off_no _)) (by omega) (by omega) fun y hy => ?_
    rw [Int.toNat_natCast] at hy
    refine idxA_i (by omega) (by omega) ?_
    rw [Addr.add_mk, Nat.zero_add, Nat.mul_one, Int.toNat_natCast]
    have hl2 : (bcells (bs.take i ++ List.replicate (k - i) 0)).length = k := by simp [bcells]; omega
    refine H2.stV 0 rfl (off := i) (by rw [hl2]; omega) fun w3 H3 hc3 => ?_
    refine ⟨l - (i + 1), by omega, i + 1, by rw [w64_of] <;> omega, by omega, rfl, ?_⟩
    have e4 : (bcells (bs.take i ++ List.replicate (k - i) 0)).set i (Value.int .u8 (y.toNat : Int)) = bcells (bs.take (i + 1) ++ List.replicate (k - (i + 1)) 0) := by
      unfold bcells
      rw [← List.map_set]
      congr 1
      rw [List.take_add_one, hy, show k - i = (k - (i + 1)) + 1 by omega, List.replicate_succ, List.set_append_right _ _ (by simp; omega)]
      have : i - (bs.take i).length = 0 := by simp; omega
      rw [this]; simp
    simp only [List.set_cons_zero] at H3
    rw [e4] at H3; exact H3
  · have h0 : i = l := by omega
    subst h0
    rw [List.take_of_length_le (by omega), ← hbl] at H2
    exact K b w2 (H2.asRow 0 rfl (rest := []) (by simp [fillTo]) (by rw [bcells_length, fillTo_len (by omega), Nat.mul_one]) (Nat.le_refl _) (by simp only [maxLen]; omega) (by simp [bcells]; omega)) hb1 H2.chg

theorem RSectors_ok {n : Nat} {J : Int → World → Prop} (hn : n ≤ 4611686018427387904) (k : J (nsec n : Nat) w) : callJ Try.prog fn_ref14_Sectors #[.int .i64 (n : Int)] w [.one (.int .i64)] J := by
  refine c_ref14_Sectors ?_
  unfold VC_ref14_Sectors
  refine ⟨fun x w' t => ∃ i : Nat, x = i ∧ 1 ≤ i ∧ i ≤ nsec n ∧ t = nsec n - i ∧ w' = w, ⟨_, 1, rfl, Nat.le_refl _, nsec_pos n, rfl, rfl⟩, ?_⟩
  rintro x w' t ⟨i, rfl, h1, hi, rfl, rfl⟩
  have hns : 48 * nsec n ≤ n + 95 := by unfold nsec; omega
  rw [w64_of (n := (48 : Int) * _) (by omega) (by omega)]
  refine condB_d (fun hb => ?_) (fun hb => ?_)
  · have : i < nsec n := by unfold nsec; omega
    exact ⟨nsec n - (i + 1), by omega, i + 1, by rw [w64_of] <;> omega, by omega, by omega, rfl, rfl⟩
  · have : i = nsec n := by unfold nsec at hi ⊢; omega
    subst this; exact k

/-- append of bytes to bytes, in new memory. -/
theorem appB {w0 wa : World} {p q : Option Addr} {l c m c2 : Nat} {xs ys : List UInt8} {K : Option Addr → Nat → Nat → World → Prop} (hr : Row wa T_uint8 1 p l c (bcells xs)) (hb : Bytes wa q m ys) (hn : q = none → m = 0) (hlm : l + m ≤ 100000000000)
    (hf : fresh w0 p) (hc : Chg No w0 wa) (k : ∀ p' c' w', Row w' T_uint8 1 p' (l + m) c' (bcells (xs ++ ys)) → fresh w0 p' → Chg No w0 w' → K p' (l + m) c' w') :
    appJ Try.prog T_sl_uint8 T_sl_uint8 (.slice p l c) (.slice q m c2) wa K := by
  refine appJ_row slT_u8 hr hb (one1_bcells _) hn (by omega) (by simp only [maxLen]; omega) fun p' c' w' hr' hc' hf' => ?_
  refine k p' c' w' (by simpa [bcells] using hr') ?_ (hc.trans hc' fun b hb ⟨a, ha, e⟩ => by have := hf a ha; omega)
  rcases hf' with rfl | hf'
  · exact hf
  · intro a ha; have := hf' a ha; have := hc.size; omega

set_option maxRecDepth 20000 in
theorem Group_ok {gen place group : Nat} {p : Option Addr} {l c : Nat} {bs : List UInt8} {J : Option Addr → Nat → Nat → World → Prop} (g0 : gen < 2 ^ 32) (g1 : place < 2 ^ 32) (g2 : group < 2 ^ 32)
    (h : Bytes w p l bs) (hlc : l ≤ c) (hn : nsec l ≤ 10000)
    (K : ∀ p' c' hs w', Rows w w' p' (nsec l) c' (grp gen place group bs) hs → Chg No w w' → J p' (nsec l) c' w') :
    callJ Try.prog fn_ref14_Group #[.int .i64 (gen : Int), .int .i64 (place : Int), .int .i64 (group : Int), .slice p l c] w [.one .slice] J := by
  refine c_ref14_Group ?_
  unfold VC_ref14_Group
  have hbl := h.len
  have hl : l ≤ 480000 := by unfold nsec at hn; omega
  refine (Hp.start w No).newB fun b1 w1 H1 hb1 hc1 => ?_
  refine RSectors_ok (by omega) ?_
  have hR1 : Rows w w1 (some ⟨b1, 0, none⟩) 0 0 [] [] := ⟨H1.asRow 0 rfl (rest := []) rfl rfl (Nat.le_refl _) (Nat.zero_le _) rfl, rfl, by simp, by rintro a ⟨⟩; exact hb1, by simp⟩
  refine ⟨fun q m d x w' t => ∃ (i : Nat) (hs : List BV), x = i ∧ i ≤ nsec l ∧ t = nsec l - i ∧ m = i ∧ Rows w w' q m d ((List.range i).map (grpS gen place group bs)) hs ∧ Chg No w w',
    ⟨_, 0, [], rfl, Nat.zero_le _, rfl, rfl, hR1, hc1⟩, ?_⟩
  rintro q m d x w2 t ⟨i, hs, rfl, hi, rfl, rfl, hR, hc⟩
  refine condB_d (fun hb => ?_) (fun hb => ?_)
  · have hin : m < nsec l := by omega
    have h48 : 48 * m ≤ l := by unfold nsec at hin; omega
    have e1 : w64 ((48 : Int) * (m : Int)) = ((48 * m : Nat) : Int) := by rw [w64_of] <;> omega
    rw [e1]
    have e2 : w64 (((48 * m : Nat) : Int) + 48) = ((48 * m + 48 : Nat) : Int) := by rw [w64_of] <;> omega
    rw [e2]
    have e3 : (if ((48 * m + 48 : Nat) : Int) < ((l : Nat) : Int) then ((48 * m + 48 : Nat) : Int) else ((l : Nat) : Int)) = ((min l (48 * m + 48) : Nat) : Int) := by split <;> omega
    rw [e3]
    have hb2 : Bytes w2 p l bs := h.chg hc (off_no _)
    refine slS_sl (i := 48 * m) (j := min l (48 * m + 48)) hb2 rfl rfl (by omega) (by omega) hlc fun q3 hq _ => ?_
    have hpl : (part bs m).length = min l (48 * m + 48) - 48 * m := by unfold part; rw [List.length_take, List.length_drop]; omega
    have hqb : Bytes w2 q3 (min l (48 * m + 48) - 48 * m) (part bs m) := by
      have e : ((bcells bs).drop (48 * m * 1)).take ((min l (48 * m + 48) - 48 * m) * 1) = bcells (part bs m) := by
        unfold part bcells
        rw [Nat.mul_one, Nat.mul_one, ← List.map_drop, ← List.map_take]
        congr 1
        rw [List.take_eq_take_iff, List.length_drop]
        omega
      rw [e] at hq; exact hq
    rw [← hpl] at hqb ⊢
    have hpl48 := part_len bs m
    have q1 : IntKind.u64.wrap (gen : Int) = (gen : Int) := wrap_u64_nat (by omega)
    have q2 : IntKind.u64.wrap (w64 ((place : Int) + (m : Int))) = ((place + m : Nat) : Int) := by rw [w64_of (by omega) (by omega), wrap_u64]; omega
    have q3' : IntKind.u64.wrap (group : Int) = (group : Int) := wrap_u64_nat (by omega)
    have q4 : IntKind.u64.wrap (w64 (w64 ((nsec l : Int) - 1) - (m : Int))) = ((nsec l - 1 - m : Nat) : Int) := by rw [w64_of (n := (nsec l : Int) - 1) (by omega) (by omega), w64_of (by omega) (by omega), wrap_u64]; omega
    have q5 : IntKind.u64.wrap (((part bs m).length : Nat) : Int) = (((part bs m).length : Nat) : Int) := wrap_u64_nat (by omega)
    rw [q1, q2, q3', q4, q5]
    have hq0 : q3 = none → (part bs m).length = 0 := by
      intro h0
      by_cases hz : (part bs m).length = 0
      · exact hz
      · obtain ⟨a, ha, _⟩ := Sl.at hqb hz; rw [h0] at ha; cases ha
    refine Number_ok (k := 4) (by omega) (by decide) fun b4 w4 hr4 hb4 hc4 => ?_
    have f4 : fresh w2 (some ⟨b4, 0, none⟩) := by rintro a ⟨⟩; exact hb4
    refine Number_ok (k := 2) (by omega) (by decide) fun b5 w5 hr5 hb5 hc5 => ?_
    refine appB (hr4.chg hc5 (off_no _)) hr5.bytes (by simp) (by decide) f4 (hc4.trans0 hc5) fun p6 c6 w6 hr6 f6 hc6 => ?_
    refine Number_ok (k := 2) (by omega) (by decide) fun b7 w7 hr7 hb7 hc7 => ?_
    refine appB (hr6.chg hc7 (off_no _)) hr7.bytes (by simp) (by decide) f6 (hc6.trans0 hc7) fun p8 c8 w8 hr8 f8 hc8 => ?_
    refine Number_ok (k := 2) (by omega) (by decide) fun b9 w9 hr9 hb9 hc9 => ?_
    refine appB (hr8.chg hc9 (off_no _)) hr9.bytes (by simp) (by decide) f8 (hc8.trans0 hc9) fun p10 c10 w10 hr10 f10 hc10 => ?_
    refine Number_ok (k := 2) (by omega) (by decide) fun b11 w11 hr11 hb11 hc11 => ?_
    refine appB (hr10.chg hc11 (off_no _)) hr11.bytes (by simp) (by decide) f10 (hc10.trans0 hc11) fun p12 c12 w12 hr12 f12 hc12 => ?_
    refine Fill_ok (k := 48) (hqb.chg hc12 (off_no _)) (by omega) (by decide) fun b13 w13 hr13 hb13 hc13 => ?_
    refine appB (hr12.chg hc13 (off_no _)) hr13.bytes (by simp) (by decide) f12 (hc12.trans0 hc13) fun p14 c14 w14 hr14 f14 hc14 => ?_
    have ebody : be 4 gen ++ be 2 (place + m) ++ be 2 group ++ be 2 (nsec l - 1 - m) ++ be 2 (part bs m).length ++ fillTo 48 (part bs m) = secBody gen (place + m) group (nsec l - 1 - m) (part bs m).length (part bs m) := by
      simp [secBody, fillTo]
    rw [ebody] at hr14
    refine RSum_ok hr14.bytes (by decide) ?_
    have hcl := crc_lt (secBody gen (place + m) group (nsec l - 1 - m) (part bs m).length (part bs m))
    rw [wrap_u64_nat (by omega)]
    refine Number_ok (k := 4) (by omega) (by decide) fun b16 w16 hr16 hb16 hc16 => ?_
    have f16 : fresh w2 (some ⟨b16, 0, none⟩) := by rintro a ⟨⟩; exact Nat.le_trans hc14.size hb16
    refine appB hr16 (hr14.chg hc16 (off_no _)).bytes (fun h => absurd (hr14.none0 h) (by decide)) (by decide) f16 (hc14.trans0 hc16) fun p17 c17 w17 hr17 f17 hc17 => ?_
    have esec : be 4 (crc (secBody gen (place + m) group (nsec l - 1 - m) (part bs m).length (part bs m))) ++ secBody gen (place + m) group (nsec l - 1 - m) (part bs m).length (part bs m) = grpS gen place group bs m := by
      rw [grpS, hbl]; rfl
    rw [esec] at hr17
    have hR17 := hR.chg0 hc17
    refine hR17.push (x := ⟨p17, _, c17, grpS gen place group bs m⟩) hr17 (fun a ha => Nat.le_trans hc.size (f17 a ha)) (by omega) (hc.trans0 hc17).size fun p18 c18 w18 hR18 hc18 _ _ => ?_
    refine ⟨nsec l - (m + 1), by omega, m + 1, _, by rw [w64_of] <;> omega, by omega, rfl, rfl, by rw [List.range_succ, List.map_append]; exact hR18, ?_⟩
    exact (hc.trans0 hc17).trans hc18 fun b hb ⟨a, ha, e⟩ => by have := hR17.fresh a ha; omega
  · have : m = nsec l := by omega
    subst this
    exact K q d hs w2 (by rw [show grp gen place group bs = (List.range (nsec l)).map (grpS gen place group bs) from by rw [grp, hbl]]; exact hR) hc
end
end Go.Proofs.Ytfhmnodoahcmnaa
