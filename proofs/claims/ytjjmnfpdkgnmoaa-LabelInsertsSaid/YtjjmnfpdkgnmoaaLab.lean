/-
  Labels: the program's writer, and a label's bytes.
-/
import Derived.Test.YtjjmnfpdkgnmoaaVLab
import Derived.Test.YtjjmnfpdkgnmoaaLabQ
import Derived.Test.YtjjmnfpdkgnmoaaByt
set_option linter.unusedVariables false
set_option linter.unusedSimpArgs false
namespace Go.Vc
open Go
/-! ## Bits of bytes and of numbers -/
theorem bit_and : ∀ (x : Fin 256) (t : Fin 8), (bAnd .u8 (x.val : Int) (shrI .u8 (128 : Int) (t.val : Int)) != (0 : Int)) = x.val.testBit (7 - t.val) := by decide +kernel
theorem bit_or : ∀ (x : Fin 256) (t : Fin 8), bOr .u8 (x.val : Int) (shrI .u8 (128 : Int) (t.val : Int)) = (((x.val ||| 2 ^ (7 - t.val) : Nat)) : Int) := by decide +kernel
theorem bit_shr : ∀ (x : Fin 256) (t : Fin 8), (bAnd .u8 (shrI .u8 (x.val : Int) (t.val : Int)) (1 : Int) == (1 : Int)) = x.val.testBit t.val := by decide +kernel
theorem bit_add : ∀ (x : Fin 256) (t : Fin 8), x.val.testBit (7 - t.val) = false → IntKind.u8.wrap ((x.val : Int) + shrI .u8 (128 : Int) (t.val : Int)) = (((x.val ||| 2 ^ (7 - t.val) : Nat)) : Int) := by decide +kernel
theorem setB_nat (x : UInt8) {t : Nat} (ht : t < 8) : (setB x t).toNat = x.toNat ||| 2 ^ (7 - t) := by
  unfold setB
  have h1 : x.toNat < 2 ^ 8 := x.toNat_lt
  have h2 : 2 ^ (7 - t) < 2 ^ 8 := Nat.pow_lt_pow_right (by decide) (by omega)
  have h3 : x.toNat ||| 2 ^ (7 - t) < 2 ^ 8 := Nat.or_lt_two_pow h1 h2
  simp only [UInt8.toNat_ofNat']; exact Nat.mod_eq_of_lt h3
theorem bit_test (x : UInt8) {t : Nat} (ht : t < 8) : (bAnd .u8 (x.toNat : Int) (shrI .u8 (128 : Int) (t : Int)) != (0 : Int)) = x.toNat.testBit (7 - t) := bit_and ⟨x.toNat, x.toNat_lt⟩ ⟨t, ht⟩
theorem bit_set (x : UInt8) {t : Nat} (ht : t < 8) : bOr .u8 (x.toNat : Int) (shrI .u8 (128 : Int) (t : Int)) = ((setB x t).toNat : Int) := by
  rw [setB_nat x ht]; exact bit_or ⟨x.toNat, x.toNat_lt⟩ ⟨t, ht⟩
theorem bit_low (x : UInt8) {t : Nat} (ht : t < 8) : (bAnd .u8 (shrI .u8 (x.toNat : Int) (t : Int)) (1 : Int) == (1 : Int)) = x.toNat.testBit t := bit_shr ⟨x.toNat, x.toNat_lt⟩ ⟨t, ht⟩
theorem bit_plus (x : UInt8) {t : Nat} (ht : t < 8) (h : x.toNat.testBit (7 - t) = false) : IntKind.u8.wrap ((x.toNat : Int) + shrI .u8 (128 : Int) (t : Int)) = ((setB x t).toNat : Int) := by
  rw [setB_nat x ht]; exact bit_add ⟨x.toNat, x.toNat_lt⟩ ⟨t, ht⟩ h
theorem and_one (x : Int) : (BitVec.ofInt 64 x &&& BitVec.ofInt 64 1).toNat = (x % 2).toNat := by
  rw [BitVec.toNat_and, show (BitVec.ofInt 64 1).toNat = 1 from rfl, Nat.and_one_is_mod, BitVec.toNat_ofInt]
  omega
theorem odd_and (x : Int) : ((bAnd .i64 x (1 : Int)) == (1 : Int)) = oddZ x := by
  have e : bAnd .i64 x 1 = x % 2 := by
    show IntKind.i64.wrap ((BitVec.ofInt 64 x &&& BitVec.ofInt 64 1).toNat : Int) = _
    rw [and_one, IntKind.wrap_i64]; omega
  rw [e]; unfold oddZ
  by_cases h : x % 2 = 1 <;> simp [h]
theorem u64_and (x : Int) : ((bAnd .u64 x (1 : Int)) == (1 : Int)) = decide (x % 2 = 1) := by
  have e : bAnd .u64 x 1 = x % 2 := by
    show IntKind.u64.wrap ((BitVec.ofInt 64 x &&& BitVec.ofInt 64 1).toNat : Int) = _
    rw [and_one, wrap_u64]; omega
  rw [e]
  by_cases h : x % 2 = 1 <;> simp [h]
theorem u64_shr (m : Nat) {i : Nat} (hi : i ≤ 64) : shrI .u64 (m : Int) (i : Int) = ((m / 2 ^ i : Nat) : Int) := by
  unfold shrI
  rw [Int.toNat_natCast, show min i IntKind.u64.bits = i from Nat.min_eq_left hi, Int.fdiv_eq_ediv_of_nonneg _ (Int.le_of_lt (Int.pow_pos (by decide))), Int.natCast_ediv, Int.natCast_pow]; rfl
theorem u64_bit (m : Nat) {i : Nat} (hi : i ≤ 64) : ((bAnd .u64 (shrI .u64 (m : Int) (i : Int)) (1 : Int)) == (1 : Int)) = m.testBit i := by
  rw [u64_shr m hi, u64_and, Nat.testBit_eq_decide_div_mod_eq]
  apply decide_eq_decide.2
  omega

/-! ## Rows of numbers -/
def ints (xs : List Int) : List Value := xs.map (.int .i64)
theorem ints_length (xs : List Int) : (ints xs).length = xs.length := by simp [ints]
theorem one1_ints (xs : List Int) : one1 (ints xs) := by
  intro v hv; obtain ⟨b, _, rfl⟩ := List.mem_map.1 hv; rfl
theorem rows_ints (xs : List Int) : rows (fun n : Int => [Value.int .i64 n]) xs = ints xs := by
  induction xs with
  | nil => rfl
  | cons b bs ih => rw [rows_cons, ih]; rfl
def Ints (w : World) (p : Option Addr) (l : Nat) (xs : List Int) : Prop := Sl w p l 1 (ints xs)
section
variable {w w' : World} {p : Option Addr} {l : Nat} {xs : List Int} {S : Nat → Prop}
theorem Ints.len (h : Ints w p l xs) : xs.length = l := by have := h.1; simpa [ints] using this
theorem Ints.chg (h : Ints w p l xs) (hc : Chg S w w') (hn : off p S) : Ints w' p l xs := Sl.chg h hc hn
theorem int_i {i : Int} {K : Int → Prop} (h : Ints w p l xs) (h0 : 0 ≤ i) (h1 : i < l) (k : ∀ n : Int, xs[i.toNat]? = some n → K n) :
    idxA p l i fun a => ldI .i64 w (a.add (i.toNat * 1)) K := by
  have hl := h.len
  have hlt : i.toNat < xs.length := by omega
  refine idx_sl h h0 h1 fun a _ hc => ?_
  rw [Nat.mul_one] at hc ⊢
  have hb : xs[i.toNat]? = some xs[i.toNat] := List.getElem?_eq_getElem hlt
  refine ⟨xs[i.toNat], ?_, k _ hb⟩
  have := hc 0 (.int .i64 xs[i.toNat]) (by rw [List.getElem?_drop]; simp [ints, hb])
  rwa [add_zero'] at this
theorem cutI {c : Nat} (h : Ints w p l xs) {i j : Nat} (hij : i ≤ j) (hj : j ≤ l) (hd : l ≤ c) {oi oj : Option Int} (e1 : oi.getD 0 = (i : Int)) (e2 : oj.getD l = (j : Int)) {K : Option Addr → Nat → Nat → Prop}
    (k : ∀ q', Ints w q' (j - i) ((xs.drop i).take (j - i)) → (q' = none → j - i = 0) → K q' (j - i) (c - i)) : slS p l c 1 oi oj none K := by
  refine slS_sl (i := i) (j := j) h e1 e2 hij hj hd fun q' hq _ => ?_
  have hq' : Ints w q' (j - i) ((xs.drop i).take (j - i)) := by
    have e : ((ints xs).drop (i * 1)).take ((j - i) * 1) = ints ((xs.drop i).take (j - i)) := by
      unfold ints; rw [Nat.mul_one, Nat.mul_one, ← List.map_drop, ← List.map_take]
    rw [e] at hq; exact hq
  refine k q' hq' fun h0 => ?_
  by_cases hz : j - i = 0
  · exact hz
  · obtain ⟨a, ha, _⟩ := Sl.at hq' hz; rw [h0] at ha; cases ha
end
end Go.Vc
namespace Go.Proofs.Ytjjmnfpdkgnmoaa
open Go Go.Vc
theorem slT_int : SlT Try.prog T_sl_int T_int 1 8 #[.int .i64 0] := SlT.of (by kernel_rfl) (by kernel_rfl) rfl (by decide)

section
variable {w : World}
theorem Odd_ok {n : Int} {J : Bool → World → Prop} (k : J (oddZ n) w) : callJ Try.prog fn_label_odd #[.int .i64 n] w [.one .bool] J := by
  refine c_label_odd ?_
  unfold VC_label_odd
  rw [odd_and]; exact k

/-! ### How many bits -/
def lenTab : ByteArray := ⟨#[0, 1, 2, 2, 3, 3, 3, 3, 4, 4, 4, 4, 4, 4, 4, 4, 5, 5, 5, 5, 5, 5, 5, 5, 5, 5, 5, 5, 5, 5, 5, 5, 6, 6, 6, 6, 6, 6, 6, 6, 6, 6, 6, 6, 6, 6, 6, 6, 6, 6, 6, 6, 6, 6, 6, 6, 6, 6, 6, 6, 6, 6, 6, 6, 7, 7, 7, 7, 7, 7, 7, 7, 7, 7, 7, 7, 7, 7, 7, 7, 7, 7, 7, 7, 7, 7, 7, 7, 7, 7, 7, 7, 7, 7, 7, 7, 7, 7, 7, 7, 7, 7, 7, 7, 7, 7, 7, 7, 7, 7, 7, 7, 7, 7, 7, 7, 7, 7, 7, 7, 7, 7, 7, 7, 7, 7, 7, 7, 8, 8, 8, 8, 8, 8, 8, 8, 8, 8, 8, 8, 8, 8, 8, 8, 8, 8, 8, 8, 8, 8, 8, 8, 8, 8, 8, 8, 8, 8, 8, 8, 8, 8, 8, 8, 8, 8, 8, 8, 8, 8, 8, 8, 8, 8, 8, 8, 8, 8, 8, 8, 8, 8, 8, 8, 8, 8, 8, 8, 8, 8, 8, 8, 8, 8, 8, 8, 8, 8, 8, 8, 8, 8, 8, 8, 8, 8, 8, 8, 8, 8, 8, 8, 8, 8, 8, 8, 8, 8, 8, 8, 8, 8, 8, 8, 8, 8, 8, 8, 8, 8, 8, 8, 8, 8, 8, 8, 8, 8, 8, 8, 8, 8, 8, 8, 8, 8, 8, 8, 8, 8, 8, 8, 8, 8, 8, 8]⟩
theorem lenTab_at : ∀ x : Fin 256, lenTab[x.val]?.map UInt8.toNat = some (blen x.val) := by decide +kernel
theorem Len64_ok {n : Nat} {J : Int → World → Prop} (hn : n < 2 ^ 64) (k : J ((blen n : Nat) : Int) w) : callJ Try.prog fn_math_bits_Len64 #[.int .u64 (n : Int)] w [.one (.int .i64)] J := by
  refine c_math_bits_Len64 ?_
  unfold VC_math_bits_Len64
  refine withJ_i fun J0 hJ0 => ?_
  have k0 : ∀ a : Nat, a < 2 ^ 32 → ∀ b : Nat, b ≤ 32 → blen n = blen a + b → J0 (a : Int) (b : Int) w := by
    intro a ha b hb e; subst hJ0
    refine withJ_i fun J1 hJ1 => ?_
    have k1 : ∀ a : Nat, a < 2 ^ 16 → ∀ b : Nat, b ≤ 48 → blen n = blen a + b → J1 (a : Int) (b : Int) w := by
      intro a ha b hb e; subst hJ1
      refine withJ_i fun J2 hJ2 => ?_
      have k2 : ∀ a : Nat, a < 2 ^ 8 → ∀ b : Nat, b ≤ 56 → blen n = blen a + b → J2 (a : Int) (b : Int) w := by
        intro a ha b hb e; subst hJ2
        have hw : IntKind.u8.wrap (a : Int) = (a : Int) := by rw [wrap_u8]; omega
        show idxStr lenTab (IntKind.u8.wrap (a : Int)) fun x22 => J (w64 ((b : Int) + (w64 x22))) w
        rw [hw]
        have ht := lenTab_at ⟨a, ha⟩
        rw [Option.map_eq_some_iff] at ht
        obtain ⟨x, hx, hb2⟩ := ht
        have hle := blen_le (n := a) (k := 8) ha
        refine ⟨x, by omega, by rw [Int.toNat_natCast]; exact hx, ?_⟩
        simp only at hb2
        show J (w64 ((b : Int) + w64 (x.toNat : Int))) w
        rw [hb2, w64_of (n := ((blen a : Nat) : Int)) (by omega) (by omega), w64_of (by omega) (by omega)]
        have e2 : (b : Int) + (blen a : Nat) = ((blen n : Nat) : Int) := by omega
        rw [e2]; exact k
      refine condB_d (fun h => ?_) (fun h => k2 a (by omega) b (by omega) e)
      refine ⟨by decide, ?_⟩
      have e8 := u64_shr a (i := 8) (by decide)
      rw [show ((8 : Nat) : Int) = 8 from rfl] at e8
      rw [e8, w64_of (by omega) (by omega)]
      exact k2 _ (by omega) (b + 8) (by omega) (by rw [e, blen_shift (n := a) (s := 8) (by omega)]; omega)
    refine condB_d (fun h => ?_) (fun h => k1 a (by omega) b (by omega) e)
    refine ⟨by decide, ?_⟩
    have e8 := u64_shr a (i := 16) (by decide)
    rw [show ((16 : Nat) : Int) = 16 from rfl] at e8
    rw [e8, w64_of (by omega) (by omega)]
    exact k1 _ (by omega) (b + 16) (by omega) (by rw [e, blen_shift (n := a) (s := 16) (by omega)]; omega)
  refine condB_d (fun h => ?_) (fun h => k0 n (by omega) 0 (by omega) (by omega))
  refine ⟨by decide, ?_⟩
  have e8 := u64_shr n (i := 32) (by decide)
  rw [show ((32 : Nat) : Int) = 32 from rfl] at e8
  rw [e8]
  exact k0 _ (by omega) 32 (by omega) (by rw [blen_shift (n := n) (s := 32) (by omega)])
theorem Len_ok {n : Nat} {J : Int → World → Prop} (hn : n < 2 ^ 64) (k : J ((blen n : Nat) : Int) w) : callJ Try.prog fn_math_bits_Len #[.int .u64 (n : Int)] w [.one (.int .i64)] J :=
  c_math_bits_Len (Len64_ok hn k)

/-! ### The writer -/
structure Wr (w0 w : World) (b : Nat) (bits : List Bool) (bs : List UInt8) (p : Option Addr) (l c : Nat) : Prop where
  H : Hp w0 No w [⟨b, [.slice p l c, .int .i64 (bits.length : Nat)], T_label_writer⟩]
  row : Row w T_uint8 1 p l c (bcells bs)
  fr : fresh w0 p
  rp : Rp bs bits
def Wri (w0 w : World) (b : Nat) (bits : List Bool) : Prop := ∃ bs p l c, Wr w0 w b bits bs p l c

theorem fresh_no {w0 : World} {p : Option Addr} (h : fresh w0 p) : ∀ b, b < w0.heap.size → isB p b → No b := by
  rintro b hb ⟨a, ha, rfl⟩
  have := h a ha; omega
theorem WBit_ok {w0 : World} {b : Nat} {bits : List Bool} {on : Bool} {J : World → Prop} (h : Wri w0 w b bits) (hn : bits.length ≤ 100000) (K : ∀ w', Wri w0 w' b (bits ++ [on]) → J w') :
    callJ Try.prog fn_label_writer_bit #[.pointer (some ⟨b, 0, none⟩), .bool on] w [] J := by
  refine c_label_writer_bit_n0 ?_
  unfold VC_label_writer_bit_n0
  have ea : (⟨b, 0, none⟩ : Addr).add 1 = ⟨b, 1, none⟩ := by rw [Addr.add_mk]
  simp only [ea]
  obtain ⟨bs, p, l, c, H, hr, hf, hp⟩ := h
  have hl : bs.length = l := hr.bytes.len
  have hpl := hp.1
  have hput := hp.put on
  have tb : typ w b = some T_label_writer := typ_of (H.get 0 rfl)
  refine withJ_i fun J0 hJ0 => ?_
  have k0 : ∀ w1 p1 l1 c1 r, r = (if bits.length % 8 = 0 then bs ++ [0] else bs) → Hp w0 No w1 [⟨b, [.slice p1 l1 c1, .int .i64 (bits.length : Nat)], T_label_writer⟩] → Row w1 T_uint8 1 p1 l1 c1 (bcells r) → fresh w0 p1 → J0 w1 := by
    intro w1 p1 l1 c1 r er H1 hr1 hf1; subst hJ0
    have hl1 : r.length = l1 := hr1.bytes.len
    have hrl : r.length = bits.length / 8 + 1 := by
      rw [er]; split
      · rw [List.length_append, List.length_singleton]; omega
      · omega
    have tb1 : typ w1 b = some T_label_writer := typ_of (H1.get 0 rfl)
    refine withJ_i fun J1 hJ1 => ?_
    have k1 : ∀ w2 r2, r2 = putB bs bits.length on → Hp w0 No w2 [⟨b, [.slice p1 l1 c1, .int .i64 (bits.length : Nat)], T_label_writer⟩] → Row w2 T_uint8 1 p1 l1 c1 (bcells r2) → J1 w2 := by
      intro w2 r2 er2 H2 hr2; subst hJ1
      refine H2.ldI 0 rfl (off := 1) rfl ?_
      refine H2.stV 0 rfl (off := 1) (by simp) fun w3 H3 hc3 => ?_
      refine K w3 ⟨r2, p1, l1, c1, ?_, ?_, hf1, by rw [er2]; exact hput⟩
      · have e : w64 (((bits.length : Nat) : Int) + 1) = (((bits ++ [on]).length : Nat) : Int) := by rw [w64_of (by omega) (by omega), List.length_append, List.length_singleton]; omega
        rw [e] at H3
        exact H3
      · have tb2 : typ w2 b = some T_label_writer := typ_of (H2.get 0 rfl)
        refine hr2.chg hc3 fun a ha e => typ_ne (hr2.typ a ha) tb2 (by decide) e
    clear hJ1
    refine condB_i (fun hon => ?_) (fun hon => ?_)
    · have H1d := H1.drew
      have hrd : Row w1.drew T_uint8 1 p1 l1 c1 (bcells r) := hr1.chg (Chg.refl No w1).drew (off_no _)
      refine H1d.ldS 0 rfl (off := 0) rfl ?_
      refine H1d.ldI 0 rfl (off := 1) rfl ?_
      have ed : w64 (Int.tdiv ((bits.length : Nat) : Int) 8) = ((bits.length / 8 : Nat) : Int) := by
        rw [Int.tdiv_eq_ediv_of_nonneg (by omega), w64_of (by omega) (by omega)]; omega
      have em : Int.tmod ((bits.length : Nat) : Int) 8 = ((bits.length % 8 : Nat) : Int) := by
        rw [Int.tmod_eq_emod_of_nonneg (by omega)]; omega
      rw [ed]
      refine ⟨by decide, byte_i hrd.bytes (by omega) (by omega) fun x hx => ?_⟩
      rw [Int.toNat_natCast] at hx
      refine H1d.ldI 0 rfl (off := 1) rfl ⟨by decide, ?_⟩
      rw [em, bit_set x (Nat.mod_lt _ (by decide))]
      refine ⟨by omega, Row.stB hrd (by omega) (by omega) fun w4 hr4 hc4 => ?_⟩
      rw [Int.toNat_natCast] at hr4
      refine k1 w4 _ ?_ (H1d.step hc4 (fun q hq => ?_) (fresh_no hf1)) hr4
      · unfold putB
        simp only [hon, if_true]
        rw [← er, List.getD_eq_getElem?_getD, hx]; rfl
      · rw [List.mem_singleton.1 hq]
        rintro ⟨a, ha, e⟩
        exact typ_ne (hr1.typ a ha) tb1 (by decide) e
    · refine k1 w1 r ?_ H1 hr1
      unfold putB
      simp only [hon, Bool.false_eq_true, if_false]
      exact er
  clear hJ0
  refine H.ldI 0 rfl (off := 1) rfl ⟨by decide, ?_⟩
  have em : Int.tmod ((bits.length : Nat) : Int) 8 = ((bits.length % 8 : Nat) : Int) := by
    rw [Int.tmod_eq_emod_of_nonneg (by omega)]; omega
  rw [em]
  refine condB_eq (fun h0 => ?_) (fun h0 => ?_)
  · refine H.ldS 0 rfl (off := 0) rfl ?_
    refine newRow (sz := 1) (n := 1) rfl (by decide) fun b2 w2 hr2 hb2 hc2 => ?_
    have hr' := hr.chg hc2 (off_no _)
    refine appJ_row slT_u8 hr' hr2.sl (one1_bcells [0]) (by simp) (by omega) (by simp only [maxLen]; omega) fun p' c' w' hr3 hc3 hf3 => ?_
    have tb2 : typ w2 b = some T_label_writer := typ_chg hc2 tb (fun h => h)
    have H2 := H.step0 hc2
    have H3 := H2.step hc3 (fun q hq => by
      rw [List.mem_singleton.1 hq]
      rintro ⟨a, ha, e⟩
      exact typ_ne (hr'.typ a ha) tb2 (by decide) e) (fresh_no hf)
    have hf' : fresh w0 p' := by
      rcases hf3 with rfl | hf3
      · exact hf
      · intro a ha; have := hf3 a ha; have := H2.chg.size; omega
    refine H3.stV 0 rfl (off := 0) (by simp) fun w4 H4 hc4 => ?_
    have tb3 : typ w' b = some T_label_writer := typ_of (H3.get 0 rfl)
    refine k0 w4 p' (l + 1) c' (bs ++ [0]) (by rw [if_pos (by omega)]) H4 ?_ hf'
    have e : bcells (bs ++ [0]) = bcells bs ++ [Value.int .u8 0] := by simp [bcells]
    rw [e]
    exact hr3.chg hc4 fun a ha e => typ_ne (hr3.typ a ha) tb3 (by decide) e
  · exact k0 w p l c bs (by rw [if_neg (by omega)]) H hr hf

theorem WNum_ok {w0 : World} {b : Nat} {bits : List Bool} {v : Int} {J : World → Prop} (h : Wri w0 w b bits) (hn : bits.length ≤ 90000) (h1 : -1073741824 ≤ v) (h2 : v ≤ 1073741824) (K : ∀ w', Wri w0 w' b (bits ++ bitsV v) → J w') :
    callJ Try.prog fn_label_writer_number #[.pointer (some ⟨b, 0, none⟩), .int .i64 v] w [] J := by
  refine c_label_writer_number_n0 ?_
  unfold VC_label_writer_number_n0
  refine withJ_i fun J0 hJ0 => ?_
  have k0 : ∀ (m : Nat) (s : Bool), m ≠ 0 → m < 2 ^ 31 → s = !(decide (v < 0)) → bitsV v = encN s m → J0 (m : Int) w := by
    intro m s hm hm2 hs e; subst hJ0
    rw [← hs]
    have hneg : decide (v < 0) = !s := by rw [hs, Bool.not_not]
    have hk := blen_le hm2
    obtain ⟨j0, ej, _⟩ := blen_spec hm
    refine WBit_ok h (by omega) fun w1 hw1 => ?_
    refine Len_ok (by omega) ?_
    have ek1 : w64 (((blen m : Nat) : Int) - 1) = ((blen m - 1 : Nat) : Int) := by rw [w64_of] <;> omega
    rw [ek1]
    refine ⟨fun x w' t => ∃ i : Nat, x = i ∧ i ≤ blen m - 1 ∧ t = blen m - 1 - i ∧ Wri w0 w' b (bits ++ List.replicate (i + 1) s), ⟨_, 0, rfl, Nat.zero_le _, rfl, hw1⟩, ?_⟩
    rintro x w2 t ⟨i, rfl, hi, rfl, hw2⟩
    refine condB_d (fun hlt => ?_) (fun hge => ?_)
    · refine WBit_ok hw2 (by simp; omega) fun w3 hw3 => ⟨_, by omega, i + 1, by rw [w64_of] <;> omega, by omega, rfl, ?_⟩
      rw [List.append_assoc, ← List.replicate_succ'] at hw3
      exact hw3
    · have hie : i = blen m - 1 := by omega
      subst hie
      rw [show blen m - 1 + 1 = blen m by omega] at hw2
      rw [hneg]
      refine WBit_ok hw2 (by simp; omega) fun w3 hw3 => ?_
      rw [List.append_assoc] at hw3
      have ek2 : w64 (((blen m : Nat) : Int) - 2) = ((blen m - 1 : Nat) : Int) - 1 := by rw [w64_of] <;> omega
      rw [ek2]
      refine ⟨fun x w' t => ∃ (j : Nat) (acc : List Bool), x = (j : Int) - 1 ∧ j ≤ blen m - 1 ∧ j = t ∧ Wri w0 w' b acc ∧ acc.length ≤ 95000 ∧ acc ++ (lowB m j).map (· == s) = bits ++ bitsV v, ⟨_, blen m - 1, _, rfl, Nat.le_refl _, rfl, hw3, by simp; omega, ?_⟩, ?_⟩
      · rw [e]; unfold encN; simp
      rintro x w4 t ⟨j, acc, rfl, hj, rfl, hw4, hacc, htot⟩
      refine condB_d (fun hlt => ?_) (fun hge => ?_)
      · obtain ⟨j', rfl⟩ : ∃ j', j = j' + 1 := ⟨j - 1, by omega⟩
        have ej1 : (((j' + 1 : Nat) : Int) - 1) = (j' : Int) := by omega
        rw [ej1, u64_bit m (by omega)]
        have ebit : (!(m.testBit j' == !s)) = (m.testBit j' == s) := by cases m.testBit j' <;> cases s <;> rfl
        rw [ebit]
        have hlen : acc.length + (j' + 1) = bits.length + 2 * blen m := by
          have := congrArg List.length htot
          rw [List.length_append, List.length_map, lowB_len, List.length_append, e, encN_len s hm] at this
          exact this
        refine ⟨by omega, WBit_ok hw4 (by omega) fun w5 hw5 => ⟨_, by omega, j', _, by rw [w64_of] <;> omega, by omega, rfl, hw5, by rw [List.length_append, List.length_singleton]; omega, ?_⟩⟩
        rw [← htot, lowB, List.map_cons, List.append_assoc]; rfl
      · have hj0 : j = 0 := by omega
        subst hj0
        rw [lowB, List.map_nil, List.append_nil] at htot
        subst htot
        exact K w4 hw4
  clear hJ0
  refine condB_d (fun hneg => ?_) (fun hneg => ?_)
  · have e : IntKind.u64.wrap (w64 (0 - v)) = (((-v).toNat : Nat) : Int) := by rw [w64_of (by omega) (by omega), wrap_u64]; omega
    rw [e]
    exact k0 _ false (by omega) (by omega) (by rw [decide_eq_true hneg]; rfl) (by unfold bitsV; rw [if_pos hneg])
  · have e : IntKind.u64.wrap (w64 (v + 1)) = (((v + 1).toNat : Nat) : Int) := by rw [w64_of (by omega) (by omega), wrap_u64]; omega
    rw [e]
    exact k0 _ true (by omega) (by omega) (by rw [decide_eq_false hneg]; rfl) (by unfold bitsV; rw [if_neg hneg])

/-! ### A label's bytes -/
def offB (v : Int) : Bool := decide (v < -1073741824) || decide (v > 1073741824)
theorem Far_ok {p : Option Addr} {l c : Nat} {xs : List Int} {J : Bool → World → Prop} (h : Ints w p l xs) (hm : l ≤ 140737488351232) (k : J (xs.any offB) w) :
    callJ Try.prog fn_slices_ContainsFunc_sl_int_int #[.slice p l c, .func (.func 31) #[] #[]] w [.one .bool] J := by
  refine c_slices_ContainsFunc_sl_int_int_f1_31 ?_
  unfold VC_slices_ContainsFunc_sl_int_int_f1_31
  refine c_slices_IndexFunc_sl_int_int_f1_31 ?_
  unfold VC_slices_IndexFunc_sl_int_int_f1_31
  have hl := h.len
  refine ⟨fun x w' t => ∃ i : Nat, x = i ∧ i ≤ l ∧ t = l - i ∧ w' = w ∧ (xs.take i).any offB = false, ⟨_, 0, rfl, Nat.zero_le _, rfl, rfl, by simp⟩, ?_⟩
  rintro x w' t ⟨i, rfl, hi, rfl, rfl, hno⟩
  refine condB_d (fun hlt => ?_) (fun hge => ?_)
  · refine int_i h (by omega) hlt fun n hn => ?_
    rw [Int.toNat_natCast] at hn
    refine c_label_Bytes_1 ?_
    unfold VC_label_Bytes_1
    refine withJ_i fun J2 hJ2 => ?_
    have k2 : ∀ b, b = offB n → J2 b w' := by
      intro b hb; subst hJ2
      refine condB_i (fun hx => ?_) (fun hx => ?_)
      · have : xs.any offB = true := List.any_eq_true.2 ⟨n, List.mem_of_getElem? hn, by rw [← hb]; exact hx⟩
        show J (decide ((i : Int) ≥ 0)) w'
        rw [show decide ((i : Int) ≥ 0) = true from decide_eq_true (by omega), ← this]
        exact k
      · refine ⟨_, by omega, i + 1, by rw [w64_of] <;> omega, by omega, rfl, rfl, ?_⟩
        obtain ⟨hlt', e'⟩ := List.getElem?_eq_some_iff.1 hn
        rw [List.take_succ_eq_append_getElem hlt', List.any_append, hno, e']
        simp only [List.any_cons, List.any_nil, Bool.or_false, Bool.false_or]
        rw [← hb]; exact hx
    clear hJ2
    unfold offB at k2
    refine condB_d (fun h1 => k2 _ (by simp [h1])) (fun h1 => k2 _ (by simp [h1]))
  · have : i = l := by omega
    subst this
    rw [List.take_of_length_le (by omega)] at hno
    show J (decide ((-1 : Int) ≥ 0)) w'
    rw [show decide ((-1 : Int) ≥ 0) = false from by decide, ← hno]
    exact k

theorem flatB_take_le (xs : List Int) (i : Nat) : (flatB (xs.take i)).length ≤ (flatB xs).length := by
  conv => rhs; rw [← List.take_append_drop i xs, flatB_append, List.length_append]
  omega
theorem bad_any {xs : List Int} (h : xs.any offB = false) : ∀ v ∈ xs, -1073741824 ≤ v ∧ v ≤ 1073741824 := by
  intro v hv
  rw [List.any_eq_false] at h
  have := h v hv
  unfold offB at this
  simp only [Bool.or_eq_true, decide_eq_true_eq, not_or] at this
  omega
theorem Bytes_ok {p : Option Addr} {l c : Nat} {xs : List Int} {J : Option Addr → Nat → Nat → Int → World → Prop} (h : Ints w p l xs) (hm : l ≤ 140737488351232)
    (K : ∀ q m d w', Row w' T_uint8 1 q m d (bcells (lab xs).1) → fresh w q → Chg No w w' → J q m d (lab xs).2 w') : callJ Try.prog fn_label_Bytes #[.slice p l c] w [.one .slice, .one (.int .i64)] J := by
  refine c_label_Bytes ?_
  unfold VC_label_Bytes
  have hl := h.len
  refine withJ_i fun J23 hJ23 => ?_
  have k23 : ∀ b, b = badB xs → J23 b w := by
    intro b hb; subst hJ23
    refine condB_i (fun hx => ?_) (fun hx => ?_)
    · have e : lab xs = ([], 11) := by unfold lab; rw [← hb, if_pos hx]
      rw [e] at K
      exact K none 0 0 w (Row.nil _ _ _) (by rintro a ⟨⟩) (Chg.refl _ _)
    · rw [hx] at hb
      have hrange := bad_range hb.symm
      refine (Hp.start w No).newB fun b25 w2 H2 hb25 hc2 => ?_
      have start : Wri w w2 b25 (flatB (xs.take 0)) := ⟨[], none, 0, 0, by simpa [flatB_nil] using H2, Row.nil _ _ _, (by rintro a ⟨⟩), by rw [List.take_zero, flatB_nil]; exact Rp.nil⟩
      refine ⟨fun x w' t => ∃ i : Nat, x = i ∧ i ≤ l ∧ t = l - i ∧ Wri w w' b25 (flatB (xs.take i)) ∧ (flatB (xs.take i)).length ≤ 960, ⟨_, 0, rfl, Nat.zero_le _, rfl, start, by simp [flatB_nil]⟩, ?_⟩
      rintro x w3 t ⟨i, rfl, hi, rfl, hw3, hlen⟩
      have hc3 : Chg No w w3 := by obtain ⟨bs, q, m, d, hw⟩ := hw3; exact hw.H.chg
      refine condB_d (fun hlt => ?_) (fun hge => ?_)
      · refine int_i (h.chg hc3 (off_no _)) (by omega) hlt fun v hv => ?_
        rw [Int.toNat_natCast] at hv
        have hr := hrange v (List.mem_of_getElem? hv)
        have hi1 : flatB (xs.take (i + 1)) = flatB (xs.take i) ++ bitsV v := by
          obtain ⟨hlt', e'⟩ := List.getElem?_eq_some_iff.1 hv
          rw [List.take_succ_eq_append_getElem hlt', flatB_append, e', flatB_cons, flatB_nil, List.append_nil]
        refine WNum_ok hw3 (by omega) hr.1 hr.2 fun w4 hw4 => ?_
        rw [← hi1] at hw4
        have hw4' := hw4
        obtain ⟨bs, q, m, d, hw⟩ := hw4'
        refine hw.H.ldS 0 rfl (off := 0) rfl ?_
        have hbm : bs.length = m := hw.row.bytes.len
        have hrp := hw.rp.1
        refine condB_d (fun hgt => ?_) (fun hle => ?_)
        · have hbig : (flatB xs).length > 960 := by have := flatB_take_le xs (i + 1); omega
          have e : lab xs = ([], 5) := by unfold lab; rw [← hb, if_neg (by simp), if_pos hbig]
          rw [e] at K
          exact K none 0 0 w4 (Row.nil _ _ _) (by rintro a ⟨⟩) hw.H.chg
        · exact ⟨_, by omega, i + 1, by rw [w64_of] <;> omega, by omega, rfl, hw4, by omega⟩
      · have hie : i = l := by omega
        subst hie
        rw [List.take_of_length_le (by omega)] at hw3 hlen
        obtain ⟨bs, q, m, d, hw⟩ := hw3
        refine hw.H.ldS 0 rfl (off := 0) rfl ?_
        have e : lab xs = (pack (flatB xs), 0) := by unfold lab; rw [← hb, if_neg (by simp), if_neg (by omega)]
        have e2 : bs = pack (flatB xs) := hw.rp.uniq (pack_rp _)
        rw [e] at K
        refine K q m d w3 ?_ hw.fr hc3
        rw [← e2]; exact hw.row
  clear hJ23
  refine Far_ok h hm ?_
  have hbad : badB xs = (xs.any offB || (match xs.getLast? with | some v => decide (v % 2 = 0) | none => false)) := rfl
  refine condB_i (fun hx => k23 _ (by rw [hbad, hx]; rfl)) (fun hx => ?_)
  rw [hx, Bool.false_or] at hbad
  refine condB_d (fun hpos => ?_) (fun hpos => ?_)
  · have e1 : w64 ((l : Int) - 1) = ((l - 1 : Nat) : Int) := by rw [w64_of] <;> omega
    rw [e1]
    refine int_i h (by omega) (by omega) fun v hv => ?_
    rw [Int.toNat_natCast] at hv
    refine Odd_ok (k23 _ ?_)
    rw [hbad, List.getLast?_eq_getElem?, hl, hv]
    simp only
    unfold oddZ
    by_cases hv2 : v % 2 = 1
    · rw [decide_eq_true hv2, decide_eq_false (by omega)]; rfl
    · rw [decide_eq_false hv2, decide_eq_true (by omega)]; rfl
  · refine k23 _ ?_
    have : xs = [] := List.eq_nil_of_length_eq_zero (by omega)
    rw [hbad, this]; rfl
theorem Check_ok {p : Option Addr} {l c : Nat} {xs : List Int} {J : Int → World → Prop} (h : Ints w p l xs) (hm : l ≤ 140737488351232) (K : ∀ w', Chg No w w' → J (lab xs).2 w') : callJ Try.prog fn_label_Check #[.slice p l c] w [.one (.int .i64)] J :=
  c_label_Check (Bytes_ok h hm fun _ _ _ w' _ _ hc => K w' hc)
end
end Go.Proofs.Ytjjmnfpdkgnmoaa

