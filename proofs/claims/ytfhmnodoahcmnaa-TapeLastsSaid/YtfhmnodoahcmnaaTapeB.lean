/-
  Package tape: a sector's bytes.
-/
import Derived.Test.YtfhmnodoahcmnaaTape
namespace Go.Proofs.Ytfhmnodoahcmnaa
open Go Go.Vc

theorem zeroC_u8 : zeroC Try.prog T_uint8 = #[.int .u8 0] := by kernel_rfl
theorem wrap_u64_nat {n : Nat} (h : n < 2 ^ 64) : IntKind.u64.wrap (n : Int) = (n : Int) := by rw [wrap_u64]; omega
theorem wrap_u32_nat {n : Nat} (h : n < 2 ^ 32) : IntKind.u32.wrap (n : Int) = (n : Int) := by rw [wrap_u32]; omega
theorem wrap_u16_nat {n : Nat} (h : n < 2 ^ 16) : IntKind.u16.wrap (n : Int) = (n : Int) := by rw [wrap_u16]; omega

def z64 (k : Nat) : List Value := List.replicate k (.int .u8 0)
theorem z64_bcells (k : Nat) : z64 k = bcells (List.replicate k 0) := by simp [z64, bcells]

theorem splice_end {xs vs : List Value} {k : Nat} (_ : vs.length ≤ k) : splice (xs ++ z64 k) xs.length vs = (xs ++ vs) ++ z64 (k - vs.length) := by
  unfold splice
  rw [List.take_left, List.drop_append, List.drop_of_length_le (by omega)]
  simp [z64]

section
variable {w : World}

theorem lay_ok {gen place group left size : Nat} {p : Option Addr} {l c : Nat} {bs : List UInt8} {J : Option Addr → Nat → Nat → World → Prop} (g0 : gen < 2 ^ 32) (g1 : place < 2 ^ 16) (g2 : group < 2 ^ 16) (g3 : left < 2 ^ 16) (g4 : size < 2 ^ 16)
    (h : Bytes w p l bs) (hp : p = none → l = 0) (hl : l ≤ 48)
    (K : ∀ p' c' w', Row w' T_uint8 1 p' 64 c' (bcells (sec gen place group left size bs)) → fresh w p' → Chg No w w' → J p' 64 c' w') :
    callJ Try.prog fn_tape_sector_lay #[.agg ⟨[.int .u32 (gen : Int), .int .u16 (place : Int), .int .u16 (group : Int), .int .u16 (left : Int), .int .u16 (size : Int)]⟩, .slice p l c] w [.one .slice] J := by
  have hbl := h.len
  refine c_tape_sector_lay ?_
  unfold VC_tape_sector_lay
  refine (Hp.start w No).newB fun b2 w1 H1 hb2 hc1 => ?_
  rw [zeroC_u8]
  refine H1.mkS rfl (by decide) (by decide) (by decide) (by decide) fun b8 w2 H2 hb8 hc2 => ?_
  have ez : (List.replicate (64 : Int).toNat (#[.int .u8 0] : Array Value).toList).flatten = z64 64 := rfl
  rw [ez] at H2
  refine H2.ldI 1 rfl (off := 0) rfl ?_
  rw [wrap_u64_nat (by omega)]
  refine Put_room (k := 4) H2 0 rfl (by decide) rfl (by decide) fun w3 H3 hc3 => ?_
  rw [show splice (z64 64) 4 (bcells (be 4 gen)) = z64 4 ++ bcells (be 4 gen) ++ z64 56 from splice_end (xs := z64 4) (k := 60) (vs := bcells (be 4 gen)) (by simp [be_len, bcells])] at H3
  simp only [List.set_cons_zero] at H3
  refine H3.ldI 1 rfl (off := 1) rfl ?_
  refine H3.ldI 1 rfl (off := 2) rfl ?_
  refine H3.ldI 1 rfl (off := 3) rfl ?_
  refine H3.ldI 1 rfl (off := 4) rfl ?_
  refine H3.newB fun b22 w4 H4 hb22 hc4 => ?_
  have nd := H4.nd
  -- the four numbers
  have e4 : z64 4 = bcells (List.replicate 4 0) := z64_bcells 4
  generalize hns : [place, group, left, size] = ns at *
  have step : ∀ i : Nat, ns[i]? = some (ns.getD i 0) ∨ 4 ≤ i := by
    intro i; subst hns
    by_cases hi : i < 4
    · left; simp [hi]
    · right; omega
  refine ⟨fun q m d x w' t => ∃ i : Nat, x = i ∧ i ≤ 4 ∧ t = 4 - i ∧ q = some ⟨b8, 0, none⟩ ∧ m = 8 + 2 * i ∧ d = 64 ∧
      Hp w No w' [⟨b22, [.int .u16 (place : Int), .int .u16 (group : Int), .int .u16 (left : Int), .int .u16 (size : Int)], T_uint16⟩, ⟨b8, bcells (List.replicate 4 0 ++ be 4 gen ++ (ns.take i).flatMap (be 2)) ++ z64 (56 - 2 * i), T_uint8⟩,
        ⟨b2, [.int .u32 (gen : Int), .int .u16 (place : Int), .int .u16 (group : Int), .int .u16 (left : Int), .int .u16 (size : Int)], T_tape_sector⟩],
    ⟨_, 0, rfl, Nat.zero_le _, rfl, rfl, rfl, rfl, by rw [e4] at H4; simpa [bcells] using H4⟩, ?_⟩
  rintro q m d x w5 t ⟨i, rfl, hi, rfl, rfl, rfl, rfl, H5⟩
  have hfl : ∀ k ≤ 4, ((ns.take k).flatMap (be 2)).length = 2 * k := by
    intro k hk
    subst hns
    rcases (by omega : k = 0 ∨ k = 1 ∨ k = 2 ∨ k = 3 ∨ k = 4) with rfl | rfl | rfl | rfl | rfl <;> simp [be_len]
  refine condB_d (fun hb => ?_) (fun hb => ?_)
  · have hlt : i < 4 := by omega
    have hn := (step i).resolve_right (by omega)
    generalize hnn : ns.getD i 0 = n at hn
    refine idxA_i (by omega) (by omega) ?_
    rw [Addr.add_mk, Nat.zero_add, Nat.mul_one, Int.toNat_natCast]
    have hcell : ([.int .u16 (place : Int), .int .u16 (group : Int), .int .u16 (left : Int), .int .u16 (size : Int)] : List Value)[i]? = some (.int .u16 (n : Int)) ∧ n < 2 ^ 16 := by
      subst hns
      rcases (by omega : i = 0 ∨ i = 1 ∨ i = 2 ∨ i = 3) with rfl | rfl | rfl | rfl <;> (simp at hn; subst hn; exact ⟨rfl, by omega⟩)
    refine H5.ldI 0 rfl (off := i) hcell.1 ?_
    rw [wrap_u64_nat (by omega)]
    have hlen8 : (bcells (List.replicate 4 0 ++ be 4 gen ++ (ns.take i).flatMap (be 2))).length = 8 + 2 * i := by
      rw [bcells_length, List.length_append, hfl i (by omega)]; simp [be_len]
    refine Put_room (k := 2) H5 1 rfl (by decide) (by rw [List.length_append, hlen8]; simp [z64]; omega) (by omega) fun w6 H6 hc6 => ?_
    refine ⟨4 - (i + 1), by omega, i + 1, by rw [w64_of] <;> omega, by omega, rfl, rfl, by omega, rfl, ?_⟩
    have e6 : splice (bcells (List.replicate 4 0 ++ be 4 gen ++ (ns.take i).flatMap (be 2)) ++ z64 (56 - 2 * i)) (8 + 2 * i) (bcells (be 2 n)) =
        bcells (List.replicate 4 0 ++ be 4 gen ++ (ns.take (i + 1)).flatMap (be 2)) ++ z64 (56 - 2 * (i + 1)) := by
      conv => lhs; arg 2; rw [← hlen8]
      rw [splice_end (by simp [bcells, be_len]; omega)]
      congr 1
      · rw [List.take_add_one, hn]; simp [bcells]
    rw [e6] at H6
    exact H6
  · have hi4 : i = 4 := by omega
    subst hi4
    have hlen8 : (bcells (List.replicate 4 0 ++ be 4 gen ++ (ns.take 4).flatMap (be 2))).length = 16 := by
      rw [bcells_length, List.length_append, hfl 4 (by omega)]; simp [be_len]
    refine H5.app 1 rfl slT_u8 (Sl.chg h H5.chg (off_no _)) hp (one1_bcells bs) (by rw [List.length_append, hlen8]; simp [z64]) (by omega) fun w7 H7 hc7 => ?_
    have e7 : splice (bcells (List.replicate 4 0 ++ be 4 gen ++ (ns.take 4).flatMap (be 2)) ++ z64 (56 - 2 * 4)) ((8 + 2 * 4) * 1) (bcells bs) = bcells (List.replicate 4 0 ++ secBody gen place group left size bs) := by
      rw [show (8 + 2 * 4) * 1 = (bcells (List.replicate 4 0 ++ be 4 gen ++ (ns.take 4).flatMap (be 2))).length from by rw [hlen8], splice_end (by rw [bcells_length]; omega), z64_bcells]
      subst hns
      simp [secBody, bcells, hbl]
    rw [e7] at H7
    simp only [List.set_cons_succ, List.set_cons_zero] at H7
    have hsl := secBody_len (gen := gen) (place := place) (group := group) (left := left) (size := size) (p := bs) (by omega)
    refine slS_pre (j := 64) ⟨_, rfl⟩ (by decide) (by decide) ?_
    have hR7 : Row w7 T_uint8 1 (some ⟨b8, 0, none⟩) 64 64 (bcells (List.replicate 4 0 ++ secBody gen place group left size bs)) :=
      H7.asRow 1 rfl (rest := []) (by simp) (by rw [bcells_length, List.length_append, hsl]; rfl) (Nat.le_refl _) (by decide) (by rw [bcells_length, List.length_append, hsl]; rfl)
    refine slS_sl (i := 4) (j := 64) hR7.sl rfl rfl (by decide) (by decide) (by decide) fun p9 hs9 _ => ?_
    have e9 : ((bcells (List.replicate 4 0 ++ secBody gen place group left size bs)).drop (4 * 1)).take ((64 - 4) * 1) = bcells (secBody gen place group left size bs) := by
      rw [show bcells (List.replicate 4 0 ++ secBody gen place group left size bs) = bcells (List.replicate 4 0) ++ bcells (secBody gen place group left size bs) from by simp [bcells]]
      rw [List.drop_left' (by simp [bcells]), List.take_of_length_le (by rw [bcells_length, hsl]; decide)]
    rw [e9] at hs9
    refine Sum_ok (bs := secBody gen place group left size bs) hs9 (by decide) ?_
    have hcl := crc_lt (secBody gen place group left size bs)
    rw [wrap_u64_nat (by omega)]
    refine Put_row (k := 4) (Row.nil _ _ _) (by decide) (by decide) fun p10 c10 w10 hr10 hc10 hf10 => ?_
    rw [List.nil_append] at hr10
    have hc10' : Chg No w7 w10 := hc10.mono fun b _ ⟨a, ha, _⟩ => by cases ha
    have H10 := H7.step0 hc10'
    have hsrc := hr10.sl
    refine H10.cpy 1 rfl slT_u8 hsrc (fun h => absurd (hr10.none0 h) (by decide)) (one1_bcells _) (by rw [bcells_length, List.length_append, hsl]; decide) fun w11 H11 hc11 => ?_
    simp only [List.set_cons_succ, List.set_cons_zero] at H11
    have e11 : splice (bcells (List.replicate 4 0 ++ secBody gen place group left size bs)) 0 ((bcells (be 4 (crc (secBody gen place group left size bs)))).take (min (0 + 4) 64)) = bcells (sec gen place group left size bs) := by
      rw [List.take_of_length_le (by rw [bcells_length, be_len]; decide)]
      unfold splice
      rw [show bcells (List.replicate 4 0 ++ secBody gen place group left size bs) = bcells (List.replicate 4 0) ++ bcells (secBody gen place group left size bs) from by simp [bcells]]
      rw [List.take_zero, List.nil_append, List.drop_left' (by simp [bcells, be_len])]
      simp [sec, bcells]
    rw [e11] at H11
    refine K _ _ w11 (H11.asRow 1 rfl (rest := []) (by simp) (by rw [bcells_length, sec_len (by omega)]) (Nat.le_refl _) (by decide) (by rw [bcells_length, sec_len (by omega)])) ?_ H11.chg
    rintro a ⟨⟩
    exact H11.fresh 1 rfl id

end
end Go.Proofs.Ytfhmnodoahcmnaa
