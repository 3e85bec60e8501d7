/-
  Labels: the program's reader; how labels stand; parents, levels.
-/
import Derived.Test.YtjjmnfpdkgnmoaaLab
set_option linter.unusedVariables false
set_option linter.unusedSimpArgs false
namespace Go.Proofs.Ytjjmnfpdkgnmoaa
open Go Go.Vc

section
variable {w : World}

theorem tmod8 (n : Nat) : Int.tmod ((n : Nat) : Int) 8 = ((n % 8 : Nat) : Int) := by rw [Int.tmod_eq_emod_of_nonneg (by omega)]; omega
theorem tdiv8 {n : Nat} (h : n ≤ 1000000000) : w64 (Int.tdiv ((n : Nat) : Int) 8) = ((n / 8 : Nat) : Int) := by
  rw [Int.tdiv_eq_ediv_of_nonneg (by omega), w64_of (by omega) (by omega)]; omega
theorem bitAt_of {bs : List UInt8} {n : Nat} {x : UInt8} (h : bs[n / 8]? = some x) : bitAt bs n = x.toNat.testBit (7 - n % 8) := by
  unfold bitAt; rw [List.getD_eq_getElem?_getD, h]; rfl

def RH (w0 w : World) (b : Nat) (p : Option Addr) (l c n : Nat) : Prop := Hp w0 No w [⟨b, [.slice p l c, .int .i64 (n : Nat)], T_label_reader⟩]

theorem RBit_ok {w0 : World} {b : Nat} {p : Option Addr} {l c n : Nat} {bs : List UInt8} {J : Bool → World → Prop} (H : RH w0 w b p l c n) (hB : Bytes w0 p l bs) (hl : l ≤ 120) (hn : n ≤ 100000)
    (K : ∀ w', RH w0 w' b p l c (n + 1) → Chg (fun x => x = b) w w' → J (bitAt bs n) w') : callJ Try.prog fn_label_reader_bit #[.pointer (some ⟨b, 0, none⟩)] w [.one .bool] J := by
  refine c_label_reader_bit_n0 ?_
  unfold VC_label_reader_bit_n0
  have ea : (⟨b, 0, none⟩ : Addr).add 1 = ⟨b, 1, none⟩ := by rw [Addr.add_mk]
  simp only [ea]
  have hbl := hB.len
  have Hd := Hp.drew H
  refine withJ_i fun J3 hJ3 => ?_
  have k3 : ∀ x, x = bitAt bs n → J3 x w.drew := by
    intro x hx; subst hJ3
    refine Hd.ldI 0 rfl (off := 1) rfl ?_
    refine Hd.stV 0 rfl (off := 1) (by simp) fun w3 H3 hc3 => ?_
    have e : w64 (((n : Nat) : Int) + 1) = ((n + 1 : Nat) : Int) := by rw [w64_of] <;> omega
    rw [e] at H3
    rw [hx]
    exact K w3 H3 ((Chg.refl (fun x => x = b) w).drew.trans hc3 fun _ _ h => h)
  clear hJ3
  refine Hd.ldI 0 rfl (off := 1) rfl ?_
  refine Hd.ldS 0 rfl (off := 0) rfl ?_
  have e8 : w64 ((8 : Int) * ((l : Nat) : Int)) = ((8 * l : Nat) : Int) := by rw [w64_of] <;> omega
  rw [e8]
  refine condB_d (fun hlt => ?_) (fun hge => k3 _ (bitAt_end (by omega)).symm)
  refine Hd.ldS 0 rfl (off := 0) rfl ?_
  refine Hd.ldI 0 rfl (off := 1) rfl ?_
  rw [tdiv8 (by omega)]
  refine ⟨by decide, byte_i (Hd.oldBytes hB (off_no _)) (by omega) (by omega) fun x hx => ?_⟩
  rw [Int.toNat_natCast] at hx
  refine Hd.ldI 0 rfl (off := 1) rfl ⟨by decide, ?_⟩
  rw [tmod8, bit_test x (Nat.mod_lt _ (by decide))]
  exact ⟨by omega, k3 _ (bitAt_of hx).symm⟩

theorem RNum_ok {w0 : World} {b : Nat} {p : Option Addr} {l c n : Nat} {bs : List UInt8} {J : Int → World → Prop} (H : RH w0 w b p l c n) (hB : Bytes w0 p l bs) (hl : l ≤ 120) (hn : n ≤ 90000)
    (K : ∀ (v : Int) (n' : Nat) w', RH w0 w' b p l c n' → Chg (fun x => x = b) w w' → n < n' → n' ≤ n + 82 → InI v →
      (∀ u : Int, -1073741824 ≤ u → u ≤ 1073741824 → Begins (bitAt bs) n (bitsV u) → v = u ∧ n' = n + (bitsV u).length) → J v w') :
    callJ Try.prog fn_label_reader_number #[.pointer (some ⟨b, 0, none⟩)] w [.one (.int .i64)] J := by
  refine c_label_reader_number_n0 ?_
  unfold VC_label_reader_number_n0
  refine RBit_ok H hB hl (by omega) fun w1 H1 hc1 => ?_
  refine ⟨fun x w' t => ∃ k : Nat, x = k ∧ 1 ≤ k ∧ k ≤ 40 ∧ t = 40 - k ∧ RH w0 w' b p l c (n + k) ∧ Chg (fun x => x = b) w w' ∧ ∀ i, i < k → bitAt bs (n + i) = bitAt bs n,
    ⟨_, 1, rfl, Nat.le_refl _, by decide, rfl, H1, hc1, fun i hi => by rw [show i = 0 by omega, Nat.add_zero]⟩, ?_⟩
  rintro x w2 t ⟨k, rfl, hk1, hk40, rfl, H2, hc2, hrun⟩
  refine RBit_ok H2 hB hl (by omega) fun w3 H3 hc3 => ?_
  have hc03 := hc2.trans hc3 fun _ _ h => h
  have ek : w64 (((k : Nat) : Int) + 1) = ((k + 1 : Nat) : Int) := by rw [w64_of] <;> omega
  rw [ek]
  refine condB_i (fun heq => ?_) (fun hne => ?_)
  · have heq : bitAt bs (n + k) = bitAt bs n := by simpa using heq
    have hrun' : ∀ i, i < k + 1 → bitAt bs (n + i) = bitAt bs n := fun i hi => by
      by_cases h : i < k
      · exact hrun i h
      · rw [show i = k by omega]; exact heq
    refine condB_d (fun hbig => ?_) (fun hsm => ⟨_, by omega, k + 1, rfl, by omega, by omega, rfl, H3, hc03, hrun'⟩)
    refine K _ _ w3 H3 hc03 (by omega) (by omega) (by unfold InI; omega) fun u h1 h2 hb => ?_
    obtain ⟨s, m, hN⟩ := numAt_of h1 h2 hb
    have := hN.run_le hrun'
    have := hN.small
    omega
  · have hne : bitAt bs (n + k) ≠ bitAt bs n := by simpa using hne
    have ek1 : w64 (((k : Nat) : Int) - 1) = ((k - 1 : Nat) : Int) := by rw [w64_of] <;> omega
    rw [ek1]
    refine ⟨fun a x w' t => ∃ i acc : Nat, x = i ∧ a = acc ∧ i ≤ k - 1 ∧ t = k - 1 - i ∧ RH w0 w' b p l c (n + k + 1 + i) ∧ Chg (fun x => x = b) w w' ∧ 1 ≤ acc ∧ acc < 2 ^ (i + 1) ∧
        ∀ u s m, NumAt (bitAt bs) n u s m → acc = m / 2 ^ (blen m - 1 - i), ⟨_, 0, 1, rfl, rfl, Nat.zero_le _, rfl, H3, hc03, by decide, by decide, fun u s m hN => (blen_top hN.hm).symm⟩, ?_⟩
    rintro a x w4 t ⟨i, acc, rfl, rfl, hi, rfl, H4, hc4, ha1, ha2, hacc⟩
    have hpw : 2 ^ (i + 1) ≤ 2 ^ 40 := Nat.pow_le_pow_right (by decide) (by omega)
    refine condB_d (fun hlt => ?_) (fun hge => ?_)
    · refine withJ_i fun J5 hJ5 => ?_
      have k5 : ∀ (a' : Nat) w6, RH w0 w6 b p l c (n + k + 1 + i + 1) → Chg (fun x => x = b) w w6 → (a' = 2 * acc ∨ a' = 2 * acc + 1) → (∀ u s m, NumAt (bitAt bs) n u s m → a' = m / 2 ^ (blen m - 1 - (i + 1))) → J5 (a' : Int) w6 := by
        intro a' w6 H6 hc6 ha' hm'; subst hJ5
        exact ⟨k - 1 - (i + 1), by omega, i + 1, a', by rw [w64_of] <;> omega, rfl, by omega, rfl, H6, hc6, by omega, by rw [Nat.pow_succ]; omega, hm'⟩
      clear hJ5
      refine RBit_ok H4 hB hl (by omega) fun w6 H6 hc6 => ?_
      have hc06 := hc4.trans hc6 fun _ _ h => h
      have step : ∀ (d : Nat), (bitAt bs (n + k + 1 + i) = bitAt bs n → d = 1) → (bitAt bs (n + k + 1 + i) ≠ bitAt bs n → d = 0) → ∀ u s m, NumAt (bitAt bs) n u s m → 2 * acc + d = m / 2 ^ (blen m - 1 - (i + 1)) := by
        intro d hd1 hd0 u s m hN
        have hkm : k = blen m := hN.run_eq hrun hne
        have hlow := hN.low i (by omega)
        rw [← hkm, ← hN.sign] at hlow
        have e1 := hacc u s m hN
        have e2 := shr_step m (blen m - 1 - (i + 1))
        rw [show blen m - 1 - (i + 1) + 1 = blen m - 1 - i by omega, ← e1] at e2
        rw [e2]
        rw [show k - 2 - i = blen m - 1 - (i + 1) by omega] at hlow
        cases htb : m.testBit (blen m - 1 - (i + 1)) with
        | true =>
          rw [htb] at hlow
          by_cases hs : bitAt bs (n + k + 1 + i) = bitAt bs n
          · rw [hd1 hs]; rfl
          · exfalso; rw [hlow] at hs; cases h : bitAt bs n <;> rw [h] at hs hlow <;> simp_all
        | false =>
          rw [htb] at hlow
          by_cases hs : bitAt bs (n + k + 1 + i) = bitAt bs n
          · exfalso; rw [hlow] at hs; cases h : bitAt bs n <;> rw [h] at hs hlow <;> simp_all
          · rw [hd0 hs]; rfl
      have e2 : w64 ((acc : Int) * 2) = ((2 * acc : Nat) : Int) := by rw [w64_of] <;> omega
      rw [e2]
      refine condB_i (fun heq => ?_) (fun hnq => ?_)
      · have heq : bitAt bs (n + k + 1 + i) = bitAt bs n := by simpa using heq
        have e3 : w64 (((2 * acc : Nat) : Int) + 1) = ((2 * acc + 1 : Nat) : Int) := by rw [w64_of] <;> omega
        rw [e3]
        exact k5 _ w6 H6 hc06 (.inr rfl) (step 1 (fun _ => rfl) (fun h => absurd heq h))
      · have hnq : bitAt bs (n + k + 1 + i) ≠ bitAt bs n := by simpa using hnq
        exact k5 _ w6 H6 hc06 (.inl rfl) (step 0 (fun h => absurd h hnq) (fun _ => rfl))
    · have hik : i = k - 1 := by omega
      subst hik
      have fin : ∀ v : Int, InI v → (∀ u s m, NumAt (bitAt bs) n u s m → v = u) → J v w4 := by
        intro v hv hu
        refine K v _ w4 H4 hc4 (by omega) (by omega) hv fun u h1 h2 hb => ?_
        obtain ⟨s, m, hN⟩ := numAt_of h1 h2 hb
        refine ⟨hu u s m hN, ?_⟩
        have := hN.run_eq hrun hne
        rw [hN.len]; omega
      have val : ∀ u s m, NumAt (bitAt bs) n u s m → acc = m := by
        intro u s m hN
        have e1 := hacc u s m hN
        have hkm : k = blen m := hN.run_eq hrun hne
        rw [← hkm, Nat.sub_self] at e1
        simpa using e1
      refine condB_i (fun hs => ?_) (fun hs => ?_)
      · rw [w64_of (by omega) (by omega)]
        refine fin _ (by unfold InI; omega) fun u s m hN => ?_
        rw [hN.val, val u s m hN, ← hN.sign, hs]; rfl
      · rw [w64_of (by omega) (by omega)]
        refine fin _ (by unfold InI; omega) fun u s m hN => ?_
        rw [hN.val, val u s m hN, ← hN.sign, hs]; simp

theorem Done_ok {p : Option Addr} {l c n : Nat} {bs : List UInt8} {J : Bool → World → Prop} (hB : Bytes w p l bs) (hl : l ≤ 120) (hn : n ≤ 100000)
    (K : ∀ d w', (d = true ↔ ∀ i, n ≤ i → bitAt bs i = false) → Chg No w w' → J d w') : callJ Try.prog fn_label_done #[.slice p l c, .int .i64 (n : Int)] w [.one .bool] J := by
  refine c_label_done ?_
  unfold VC_label_done
  have hbl := hB.len
  have e8 : w64 ((8 : Int) * ((l : Nat) : Int)) = ((8 * l : Nat) : Int) := by rw [w64_of] <;> omega
  rw [e8]
  refine ⟨fun x w' t => ∃ j : Nat, x = j ∧ n ≤ j ∧ j ≤ n + 8 * l ∧ t = n + 8 * l - j ∧ Chg No w w' ∧ ∀ i, n ≤ i → i < j → bitAt bs i = false, ⟨_, n, rfl, Nat.le_refl _, by omega, rfl, Chg.refl _ _, fun i h1 h2 => by omega⟩, ?_⟩
  rintro x w1 t ⟨j, rfl, hj1, hj2, rfl, hc, hz⟩
  refine condB_d (fun hlt => ?_) (fun hge => ?_)
  · refine ⟨by decide, ?_⟩
    have hcd := hc.drew
    rw [tdiv8 (by omega)]
    refine byte_i (hB.chg hcd (off_no _)) (by omega) (by omega) fun x hx => ⟨by decide, ?_⟩
    rw [Int.toNat_natCast] at hx
    rw [tmod8, bit_test x (Nat.mod_lt _ (by decide))]
    have hbit := bitAt_of hx
    refine ⟨by omega, ?_⟩
    rw [← hbit]
    refine condB_i (fun h1 => ?_) (fun h0 => ?_)
    · exact K false _ ⟨fun h => (by cases h), fun h => by rw [h j hj1] at h1; cases h1⟩ hcd
    · exact ⟨_, by omega, j + 1, by rw [w64_of] <;> omega, by omega, by omega, rfl, hcd, fun i h1 h2 => by
        by_cases h : i < j
        · exact hz i h1 h
        · rw [show i = j by omega]; exact h0⟩
  · refine K true w1 ⟨fun _ i hi => ?_, fun _ => rfl⟩ hc
    by_cases h : i < j
    · exact hz i hi h
    · exact bitAt_end (by omega)

theorem BEqual_ok {p q : Option Addr} {l c l2 c2 : Nat} {xs bs : List UInt8} {J : Bool → World → Prop} (h : Bytes w p l xs) (h2 : Bytes w q l2 bs) (k : J (decide (xs = bs)) w) :
    callJ Try.prog fn_bytes_Equal #[.slice p l c, .slice q l2 c2] w [.one .bool] J := by
  refine c_bytes_Equal (bytesOf_i h (bytesOf_i h2 ?_))
  rw [ByteArray.toList_mk, ByteArray.toList_mk]
  have : (xs == bs) = decide (xs = bs) := by by_cases h : xs = bs <;> simp [h]
  rw [this]; exact k

/-- One number more. -/
theorem appI {w0 wa : World} {p : Option Addr} {l c : Nat} {xs : List Int} {n : Int} {K : Option Addr → Nat → Nat → World → Prop} (hr : Row wa T_int 1 p l c (ints xs)) (hlm : l + 1 ≤ 17592186044416)
    (hf : fresh w0 p) (hc : Chg No w0 wa) (k : ∀ p' c' w', Row w' T_int 1 p' (l + 1) c' (ints (xs ++ [n])) → fresh w0 p' → Chg No w0 w' → Chg (isB p) wa w' → K p' (l + 1) c' w') :
    newB wa (.cells ⟨[.int .i64 n]⟩ T_int) fun b36 w5 => appJ Try.prog T_sl_int T_sl_int (.slice p l c) (.slice (some ⟨b36, 0, none⟩) 1 1) w5 K := by
  refine newRow (sz := 1) (n := 1) rfl (by decide) fun b2 w2 hr2 _ hc2 => ?_
  refine appJ_row slT_int (hr.chg hc2 (off_no _)) hr2.sl (one1_ints [n]) (by simp) (by omega) (by simp only [maxLen]; omega) fun p' c' w' hr' hc' hf' => ?_
  refine k p' c' w' (by simpa [ints] using hr') ?_ ((hc.trans0 hc2).trans hc' (fresh_no hf)) ((hc2.mono fun _ _ h => h.elim).trans hc' fun _ _ h => h)
  rcases hf' with rfl | hf'
  · exact hf
  · intro a ha; have := hf' a ha; have := hc2.size; have := hc.size; omega

theorem Read_ok {p : Option Addr} {l c : Nat} {bs : List UInt8} {J : Option Addr → Nat → Nat → Int → World → Prop} (hB : Bytes w p l bs) (hc0 : l ≤ c)
    (K1 : ∀ L, lab L = (bs, 0) → ∀ q m d w', Row w' T_int 1 q m d (ints L) → fresh w q → Chg No w w' → J q m d 0 w') (K2 : (∀ L, lab L ≠ (bs, 0)) → ∀ w', Chg No w w' → J none 0 0 11 w') :
    callJ Try.prog fn_label_Read #[.slice p l c] w [.one .slice, .one (.int .i64)] J := by
  refine c_label_Read ?_
  unfold VC_label_Read
  have hbl := hB.len
  refine condB_d (fun hbig => ?_) (fun hsm => ?_)
  · refine K2 (fun L hL => ?_) w (Chg.refl _ _)
    have := lab_bits hL
    omega
  refine (Hp.start w No).newB fun b13 w1 H1 hb13 hc1 => ?_
  refine ⟨fun q m d w' t => ∃ (n : Nat) (L : List Int), RH w w' b13 p l c n ∧ Row w' T_int 1 q m d (ints L) ∧ fresh w q ∧ n ≤ 2000 ∧ m ≤ n ∧ t = 3000 - n ∧ ∀ M, lab M = (bs, 0) → ∃ rest, M = L ++ rest ∧ n = (flatB L).length,
    ⟨_, 0, [], H1, Row.nil _ _ _, by rintro a ⟨⟩, by decide, Nat.le_refl _, rfl, fun M _ => ⟨M, rfl, rfl⟩⟩, ?_⟩
  rintro q m d w2 t ⟨n, L, H2, hr2, hf2, hn, hm, rfl, hv⟩
  refine Hp.ldI H2 0 rfl (off := 1) rfl ?_
  refine Done_ok (Hp.oldBytes H2 hB (off_no _)) (by omega) (by omega) fun dn w3 hdn hc3 => ?_
  have H3 : RH w w3 b13 p l c n := Hp.step0 H2 hc3
  have hr3 := hr2.chg hc3 (off_no _)
  have hc03 : Chg No w w3 := H3.chg
  refine condB_not (fun hnd => ?_) (fun hd => ?_)
  · -- some bit stands from n on
    have hsome : ∃ i, n ≤ i ∧ bitAt bs i = true := by
      apply Classical.byContradiction
      intro hno
      have : dn = true := hdn.2 fun i hi => by
        cases h : bitAt bs i with
        | false => rfl
        | true => exact absurd ⟨i, hi, h⟩ hno
      rw [hnd] at this; cases this
    have hn8 : n < 8 * l := by
      obtain ⟨i, hi, hb⟩ := hsome
      rcases Nat.lt_or_ge i (8 * bs.length) with h | h
      · omega
      · rw [bitAt_end h] at hb; cases hb
    refine RNum_ok H3 hB (by omega) (by omega) fun v n' w4 H4 hc4 hlt hle hin hval => ?_
    have tb3 : typ w3 b13 = some T_label_reader := typ_of (Hp.get H3 0 rfl)
    have hr4 := hr3.chg hc4 fun a ha e => typ_ne (hr3.typ a ha) tb3 (by decide) e
    refine appI hr4 (by omega) hf2 H4.chg fun q' d' w5 hr5 hf5 hc5 hcc5 => ?_
    have tb4 : typ w4 b13 = some T_label_reader := typ_of (Hp.get H4 0 rfl)
    have H5 : RH w w5 b13 p l c n' := Hp.step H4 hcc5 (fun z hz => by
      rw [List.mem_singleton.1 hz]
      rintro ⟨a, ha, e⟩
      exact typ_ne (hr4.typ a ha) tb4 (by decide) e) (fresh_no hf2)
    refine ⟨_, by omega, n', L ++ [v], H5, hr5, hf5, by omega, by omega, rfl, fun M hM => ?_⟩
    obtain ⟨rest, rfl, hnL⟩ := hv M hM
    obtain ⟨hb1, hb2, hb3, hb4⟩ := lab_bits hM
    cases rest with
    | nil =>
      exfalso
      rw [List.append_nil] at hb1
      obtain ⟨i, hi, hb⟩ := hsome
      rw [rest_none hb1 (by omega)] at hb; cases hb
    | cons u r =>
      obtain ⟨hbeg, _⟩ := rest_some hb1
      rw [← hnL] at hbeg
      have hu := bad_range hb3 u (by simp)
      obtain ⟨rfl, e2⟩ := hval u hu.1 hu.2 hbeg
      refine ⟨r, by simp, ?_⟩
      rw [e2, hnL, flatB_append, List.length_append, flatB_cons, flatB_nil, List.append_nil]
  · have hall := hdn.1 hd
    have hIr : Ints w3 q m L := hr3.sl
    refine Bytes_ok hIr (by omega) fun q6 m6 d6 w6 hr6 hf6 hc6 => ?_
    have hc06 := hc03.trans0 hc6
    have hrL := hr3.chg hc6 (off_no _)
    have uni : ∀ M, lab M = (bs, 0) → M = L := by
      intro M hM
      obtain ⟨rest, rfl, hnL⟩ := hv M hM
      obtain ⟨hb1, _⟩ := lab_bits hM
      cases rest with
      | nil => simp
      | cons u r =>
        obtain ⟨_, i, hi, hb⟩ := rest_some hb1
        rw [hall i (by omega)] at hb; cases hb
    refine withJ_i fun J38 hJ38 => ?_
    have k38 : ∀ x, (x = true ↔ lab L ≠ (bs, 0)) → J38 x w6 := by
      intro x hx; subst hJ38
      refine condB_i (fun h => ?_) (fun h => ?_)
      · exact K2 (fun M hM => hx.1 h (by rw [← uni M hM]; exact hM)) w6 hc06
      · have hL : lab L = (bs, 0) := by
          apply Classical.byContradiction
          intro hne
          rw [hx.2 hne] at h; cases h
        exact K1 L hL q m d w6 hrL hf2 hc06
    clear hJ38
    refine condB_ne (fun hne => k38 true ⟨fun _ e => hne (by rw [e]), fun _ => rfl⟩) (fun he => ?_)
    refine BEqual_ok hr6.bytes (hB.chg hc06 (off_no _)) (k38 _ ?_)
    simp only [Bool.not_eq_true', decide_eq_false_iff_not, ne_eq]
    constructor
    · intro h e; exact h (by rw [e])
    · intro h e; exact h (Prod.ext e he)

/-! ### How labels stand -/
theorem Cmp_ok {a b : Int} {J : Int → World → Prop} (k : J (if a < b then -1 else if a > b then 1 else 0) w) : callJ Try.prog fn_cmp_Compare_int #[.int .i64 a, .int .i64 b] w [.one (.int .i64)] J := by
  refine c_cmp_Compare_int ?_
  unfold VC_cmp_Compare_int
  refine c_cmp_isNaN_int ?_
  unfold VC_cmp_isNaN_int
  refine c_cmp_isNaN_int ?_
  unfold VC_cmp_isNaN_int
  refine condB_ne (fun h => absurd rfl h) fun _ => condB_ne (fun h => absurd rfl h) fun _ => ?_
  refine condB_d (fun h => by rw [if_pos h] at k; exact k) (fun h => ?_)
  rw [if_neg h] at k
  exact condB_d (fun h => by rw [if_pos h] at k; exact k) (fun h => by rw [if_neg h] at k; exact k)
theorem cmpL_at {xs ys : List Int} {i : Nat} {a b : Int} (ha : xs[i]? = some a) (hb : ys[i]? = some b) : cmpL (xs.drop i) (ys.drop i) = if a < b then -1 else if a > b then 1 else cmpL (xs.drop (i + 1)) (ys.drop (i + 1)) := by
  obtain ⟨h1, rfl⟩ := List.getElem?_eq_some_iff.1 ha
  obtain ⟨h2, rfl⟩ := List.getElem?_eq_some_iff.1 hb
  rw [List.drop_eq_getElem_cons h1, List.drop_eq_getElem_cons h2, cmpL]
theorem SCompare_ok {p q : Option Addr} {l c l2 c2 : Nat} {xs ys : List Int} {J : Int → World → Prop} (h : Ints w p l xs) (h2 : Ints w q l2 ys) (hm : l ≤ 140737488351232) (k : J (cmpL xs ys) w) :
    callJ Try.prog fn_slices_Compare_sl_int_int #[.slice p l c, .slice q l2 c2] w [.one (.int .i64)] J := by
  refine c_slices_Compare_sl_int_int ?_
  unfold VC_slices_Compare_sl_int_int
  have hl := h.len
  have hl2 := h2.len
  refine ⟨fun x w' t => ∃ i : Nat, x = i ∧ i ≤ l ∧ t = l - i ∧ w' = w ∧ i ≤ l2 ∧ cmpL (xs.drop i) (ys.drop i) = cmpL xs ys, ⟨_, 0, rfl, Nat.zero_le _, rfl, rfl, Nat.zero_le _, rfl⟩, ?_⟩
  rintro x w' t ⟨i, rfl, hi, rfl, rfl, hi2, hcm⟩
  refine condB_d (fun hlt => ?_) (fun hge => ?_)
  · refine int_i h (by omega) hlt fun a ha => ?_
    rw [Int.toNat_natCast] at ha
    refine condB_d (fun hge2 => ?_) (fun hlt2 => ?_)
    · have : i = ys.length := by omega
      obtain ⟨h1, rfl⟩ := List.getElem?_eq_some_iff.1 ha
      rw [this, List.drop_of_length_le (Nat.le_refl _), ← this, List.drop_eq_getElem_cons h1] at hcm
      rw [← hcm] at k
      exact k
    · refine int_i h2 (by omega) (by omega) fun b hb => ?_
      rw [Int.toNat_natCast] at hb
      refine Cmp_ok ?_
      rw [cmpL_at ha hb] at hcm
      refine condB_ne (fun hne => ?_) (fun he => ?_)
      · by_cases h1 : a < b
        · rw [if_pos h1] at hcm ⊢; rw [hcm]; exact k
        · by_cases h3 : a > b
          · rw [if_neg h1, if_pos h3] at hcm ⊢; rw [hcm]; exact k
          · rw [if_neg h1, if_neg h3] at hne; exact absurd rfl hne
      · by_cases h1 : a < b
        · rw [if_pos h1] at he; cases he
        · by_cases h3 : a > b
          · rw [if_neg h1, if_pos h3] at he; cases he
          · rw [if_neg h1, if_neg h3] at hcm
            exact ⟨_, by omega, i + 1, by rw [w64_of] <;> omega, by omega, rfl, rfl, by omega, hcm⟩
  · have : i = xs.length := by omega
    rw [this, List.drop_of_length_le (Nat.le_refl _), ← this] at hcm
    refine condB_d (fun hlt2 => ?_) (fun hge2 => ?_)
    · have h1 : i < ys.length := by omega
      rw [List.drop_eq_getElem_cons h1] at hcm
      rw [← hcm] at k
      exact k
    · rw [List.drop_of_length_le (by omega)] at hcm
      rw [← hcm] at k
      exact k
theorem Compare_ok {p q : Option Addr} {l c l2 c2 : Nat} {xs ys : List Int} {J : Int → World → Prop} (h : Ints w p l xs) (h2 : Ints w q l2 ys) (hm : l ≤ 140737488351232) (k : J (cmpL xs ys) w) :
    callJ Try.prog fn_label_Compare #[.slice p l c, .slice q l2 c2] w [.one (.int .i64)] J := c_label_Compare (SCompare_ok h h2 hm k)
theorem take_snoc {α : Type} {xs : List α} {i : Nat} {a : α} (h : xs[i]? = some a) : xs.take (i + 1) = xs.take i ++ [a] := by
  obtain ⟨h1, rfl⟩ := List.getElem?_eq_some_iff.1 h
  exact List.take_succ_eq_append_getElem h1
theorem IEqual_ok {p q : Option Addr} {l c l2 c2 : Nat} {xs ys : List Int} {J : Bool → World → Prop} (h : Ints w p l xs) (h2 : Ints w q l2 ys) (hm : l ≤ 140737488351232) (k : ∀ w', Chg No w w' → J (decide (xs = ys)) w') :
    callJ Try.prog fn_slices_Equal_sl_int_int #[.slice p l c, .slice q l2 c2] w [.one .bool] J := by
  refine c_slices_Equal_sl_int_int ?_
  unfold VC_slices_Equal_sl_int_int
  have hl := h.len
  have hl2 := h2.len
  refine condB_ne (fun hne => ?_) (fun he => ?_)
  · have e : decide (xs = ys) = false := decide_eq_false fun e => hne (by rw [← hl, ← hl2, e])
    rw [e] at k; exact k w (Chg.refl _ _)
  have hll : l = l2 := by omega
  subst hll
  refine ⟨fun x w' t => ∃ i : Nat, x = i ∧ i ≤ l ∧ t = l - i ∧ Chg No w w' ∧ xs.take i = ys.take i, ⟨_, 0, rfl, Nat.zero_le _, rfl, Chg.refl _ _, by simp⟩, ?_⟩
  rintro x w' t ⟨i, rfl, hi, rfl, hc, htk⟩
  have hcd := hc.drew
  refine condB_d (fun hlt => ?_) (fun hge => ?_)
  · refine int_i (h.chg hcd (off_no _)) (by omega) hlt fun a ha => ?_
    refine int_i (h2.chg hcd (off_no _)) (by omega) hlt fun b hb => ?_
    rw [Int.toNat_natCast] at ha hb
    refine condB_ne (fun hne => ?_) (fun he => ?_)
    · have e : decide (xs = ys) = false := decide_eq_false fun e => hne (by rw [e, hb] at ha; cases ha; rfl)
      rw [e] at k; exact k _ hcd
    · refine ⟨_, by omega, i + 1, by rw [w64_of] <;> omega, by omega, rfl, hcd, ?_⟩
      rw [take_snoc ha, take_snoc hb, htk, he]
  · have : i = l := by omega
    subst this
    rw [List.take_of_length_le (by omega), List.take_of_length_le (by omega)] at htk
    have e : decide (xs = ys) = true := decide_eq_true htk
    rw [e] at k; exact k w' hc
theorem IClone_ok {p : Option Addr} {l c : Nat} {xs : List Int} {J : Option Addr → Nat → Nat → World → Prop} (h : Ints w p l xs) (hp : p = none → l = 0) (hm : l ≤ 17592186043904)
    (k : ∀ p' c' w', Row w' T_int 1 p' l c' (ints xs) → fresh w p' → Chg No w w' → J p' l c' w') :
    callJ Try.prog fn_slices_Clone_sl_int_int #[.slice p l c] w [.one .slice] J :=
  c_slices_Clone_sl_int_int (clone_cond slT_int h (one1_ints xs) hp (by omega) (by simp only [maxLen]; omega) k)
theorem Above_ok {p q : Option Addr} {l c l2 c2 : Nat} {xs ys : List Int} {J : Bool → World → Prop} (h : Ints w p l xs) (h2 : Ints w q l2 ys) (hc2 : l2 ≤ c2) (hm : l ≤ 140737488351232) (k : ∀ w', Chg No w w' → J (aboveB xs ys) w') :
    callJ Try.prog fn_label_Above #[.slice p l c, .slice q l2 c2] w [.one .bool] J := by
  refine c_label_Above ?_
  unfold VC_label_Above
  have hl := h.len
  have hl2 := h2.len
  refine withJ_i fun J4 hJ4 => ?_
  subst hJ4
  refine condB_d (fun hgt => ?_) (fun hle => ?_)
  · refine cutI h2 (i := 0) (j := l) (Nat.zero_le _) (by omega) hc2 rfl rfl fun q' hq' hq0 => ?_
    rw [List.drop_zero, Nat.sub_zero] at hq'
    refine IEqual_ok h hq' hm fun w' hc' => ?_
    have e : decide (xs = ys.take l) = aboveB xs ys := by
      unfold aboveB
      apply decide_eq_decide.2
      rw [hl]
      exact ⟨fun e => ⟨by omega, e.symm⟩, fun e => e.2.symm⟩
    rw [e]; exact k w' hc'
  · have e : aboveB xs ys = false := decide_eq_false fun h => by omega
    rw [e] at k; exact k w (Chg.refl _ _)
theorem Level_ok {p : Option Addr} {l c : Nat} {xs : List Int} {J : Int → World → Prop} (h : Ints w p l xs) (hm : l ≤ 140737488351232) (k : J ((levL xs : Nat) : Int) w) :
    callJ Try.prog fn_label_Level #[.slice p l c] w [.one (.int .i64)] J := by
  refine c_label_Level ?_
  unfold VC_label_Level
  have hl := h.len
  refine ⟨fun n x w' t => ∃ i : Nat, x = i ∧ i ≤ l ∧ t = l - i ∧ w' = w ∧ n = ((levL (xs.take i) : Nat) : Int) ∧ levL (xs.take i) ≤ i, ⟨_, 0, rfl, Nat.zero_le _, rfl, rfl, by simp [levL], by simp [levL]⟩, ?_⟩
  rintro n x w' t ⟨i, rfl, hi, rfl, rfl, rfl, hle⟩
  refine condB_d (fun hlt => ?_) (fun hge => ?_)
  · refine withJ_i fun J3 hJ3 => ?_
    refine int_i h (by omega) hlt fun a ha => ?_
    rw [Int.toNat_natCast] at ha
    have e : levL (xs.take (i + 1)) = levL (xs.take i) + (if oddZ a = true then 1 else 0) := by
      unfold levL; rw [take_snoc ha, List.countP_append, List.countP_cons, List.countP_nil, Nat.zero_add]
    refine Odd_ok ?_
    subst hJ3
    refine condB_i (fun ho => ?_) (fun ho => ?_)
    · rw [if_pos ho] at e
      exact ⟨_, by omega, i + 1, by rw [w64_of] <;> omega, by omega, rfl, rfl, by rw [w64_of] <;> omega, by omega⟩
    · rw [if_neg (by simp [ho])] at e
      exact ⟨_, by omega, i + 1, by rw [w64_of] <;> omega, by omega, rfl, rfl, by omega, by omega⟩
  · have : i = l := by omega
    subst this
    rw [List.take_of_length_le (by omega)]
    exact k
theorem Up_ok {p : Option Addr} {l c : Nat} {xs : List Int} {J : Option Addr → Nat → Nat → World → Prop} (h : Ints w p l xs) (hm : l ≤ 17592186043904) (hlc : l ≤ c) (k : ∀ q m d w', Row w' T_int 1 q m d (ints (upL xs)) → fresh w q → Chg No w w' → J q m d w') :
    callJ Try.prog fn_label_Up #[.slice p l c] w [.one .slice] J := by
  refine c_label_Up ?_
  unfold VC_label_Up
  have hl := h.len
  have hup : upL xs = cutE (xs.take (l - 1)) := by unfold upL; rw [List.dropLast_eq_take, hl]
  refine ⟨fun x w' t => ∃ i : Nat, (x = i ∨ (x = -1 ∧ i = 0)) ∧ (i < l ∨ i = 0) ∧ i = t ∧ w' = w ∧ upL xs = cutE (xs.take i), ⟨_, l - 1, by rw [w64_of] <;> omega, by omega, rfl, rfl, hup⟩, ?_⟩
  rintro x w' t ⟨i, hx, hi, rfl, rfl, hcut⟩
  refine withJ_i fun J17 hJ17 => ?_
  have k17 : ∀ b, (b = true → x = i ∧ 0 < i ∧ upL xs = cutE (xs.take (i - 1))) → (b = false → upL xs = xs.take i) → J17 b w' := by
    intro b h1 h0; subst hJ17
    refine condB_i (fun hb => ?_) (fun hb => ?_)
    · obtain ⟨rfl, h2, h3⟩ := h1 hb
      exact ⟨i - 1, by omega, i - 1, .inl (by rw [w64_of] <;> omega), by omega, rfl, rfl, h3⟩
    · have e : (if (0 : Int) > x then (0 : Int) else x) = (i : Int) := by split <;> omega
      rw [e]
      refine cutI h (i := 0) (j := i) (Nat.zero_le _) (by omega) hlc rfl rfl fun q' hq' hq0 => ?_
      rw [List.drop_zero, Nat.sub_zero, ← h0 hb] at hq'
      rw [Nat.sub_zero]
      exact IClone_ok hq' (by simpa using hq0) (by omega) fun p' c' w2 hr hf hc => k p' i c' w2 hr hf hc
  clear hJ17
  refine condB_d (fun hpos => ?_) (fun hpos => ?_)
  · have hxi : x = i := by omega
    have e1 : w64 (x - 1) = ((i - 1 : Nat) : Int) := by rw [w64_of] <;> omega
    rw [e1]
    refine int_i h (by omega) (by omega) fun a ha => ?_
    rw [Int.toNat_natCast] at ha
    have hs := take_snoc ha
    rw [show i - 1 + 1 = i by omega] at hs
    refine Odd_ok (k17 _ (fun hb => ⟨hxi, by omega, ?_⟩) (fun hb => ?_))
    · rw [hcut, hs]; exact cutE_snoc_even (by simpa using hb)
    · rw [hcut, hs]; exact cutE_snoc_odd (by simpa using hb)
  · have hi0 : i = 0 := by omega
    subst hi0
    exact k17 false (fun hb => by cases hb) (fun _ => by rw [hcut]; rfl)
theorem Kid_ok {p q : Option Addr} {l c l2 c2 : Nat} {up xs : List Int} {J : Bool → World → Prop} (h : Ints w p l up) (h2 : Ints w q l2 xs) (hm : l2 ≤ 17592186043904) (hlc : l2 ≤ c2) (k : ∀ w', Chg No w w' → J (kidB up xs) w') :
    callJ Try.prog fn_label_kid #[.slice p l c, .slice q l2 c2] w [.one .bool] J := by
  refine c_label_kid ?_
  unfold VC_label_kid
  have hl2 := h2.len
  refine withJ_i fun J4 hJ4 => ?_
  subst hJ4
  refine condB_d (fun hgt => ?_) (fun hle => ?_)
  · refine Check_ok h2 (by omega) fun w1 hc1 => ?_
    refine condB_eq (fun he => ?_) (fun hne => ?_)
    · refine Up_ok (h2.chg hc1 (off_no _)) hm hlc fun q' m' d' w2 hr2 hf2 hc2 => ?_
      have hIr : Ints w2 q' m' (upL xs) := hr2.sl
      refine IEqual_ok hIr (h.chg (hc1.trans0 hc2) (off_no _)) ?_ fun w3 hc3 => ?_
      · have := hr2.le; simp only [maxLen] at this
        have h3 := hr2.len
        have h4 : (upL xs).length ≤ l2 := by
          unfold upL
          rcases cutE_cases xs.dropLast with ⟨_, e⟩ | ⟨a, v, e', h1, _, _, e⟩
          · rw [e]; simp
          · rw [e]
            have := congrArg List.length h1
            simp at this ⊢; omega
        rw [ints_length] at h3; omega
      · have e : decide (upL xs = up) = kidB up xs := by
          unfold kidB
          apply decide_eq_decide.2
          exact ⟨fun e => ⟨by intro e0; rw [e0] at hl2; simp at hl2; omega, he, e⟩, fun e => e.2.2⟩
        rw [e]
        exact k w3 ((hc1.trans0 hc2).trans0 hc3)
    · have e : kidB up xs = false := decide_eq_false fun h => hne h.2.1
      rw [e] at k; exact k w1 hc1
  · have e : kidB up xs = false := decide_eq_false fun h => h.1 (List.eq_nil_of_length_eq_zero (by omega))
    rw [e] at k; exact k w (Chg.refl _ _)
end
end Go.Proofs.Ytjjmnfpdkgnmoaa

