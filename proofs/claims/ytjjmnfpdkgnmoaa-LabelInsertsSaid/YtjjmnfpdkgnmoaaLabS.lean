/-
  Labels: the document's reading, order and new labels.
-/
import Derived.Test.YtjjmnfpdkgnmoaaLabR
set_option linter.unusedVariables false
set_option linter.unusedSimpArgs false
namespace Go.Vc
open Go
theorem bits8 (b : List UInt8) (i t : Nat) (ht : t < 8) : bitAt b (8 * i + t) = (b.getD i 0).toNat.testBit (7 - t) := by
  unfold bitAt
  rw [show (8 * i + t) / 8 = i by omega, show (8 * i + t) % 8 = t by omega]
/-- The bits of bytes. -/
def bitsL (b : List UInt8) (n : Nat) : List Bool := (List.range n).map (bitAt b)
theorem bitsL_succ (b : List UInt8) (n : Nat) : bitsL b (n + 1) = bitsL b n ++ [bitAt b n] := by
  unfold bitsL; rw [List.range_succ, List.map_append]; rfl
theorem bitsL_len (b : List UInt8) (n : Nat) : (bitsL b n).length = n := by simp [bitsL]
theorem bitsL_get {b : List UInt8} {n i : Nat} {x : Bool} (h : (bitsL b n)[i]? = some x) : x = bitAt b i ∧ i < n := by
  unfold bitsL at h
  rw [List.getElem?_map] at h
  have hi : i < n := by
    rcases Nat.lt_or_ge i n with h1 | h1
    · exact h1
    · rw [List.getElem?_eq_none (by simpa using h1)] at h; cases h
  rw [List.getElem?_range hi] at h
  simp at h
  exact ⟨h.symm, hi⟩
end Go.Vc
namespace Go.Proofs.Ytjjmnfpdkgnmoaa
open Go Go.Vc

section
variable {w : World}
theorem RNumber_ok {s : ByteArray} {bs : List UInt8} {n at_ : Nat} {J : Int → Int → World → Prop} (hs : SB s (bitsL bs n)) (hn : n ≤ 960) (hz : ∀ i, n ≤ i → bitAt bs i = false) (K0 : (∀ u : Int, -1073741824 ≤ u → u ≤ 1073741824 → Begins (bitAt bs) at_ (bitsV u) → at_ + (bitsV u).length ≤ n → False) → J 0 (-1) w)
    (K : ∀ (v : Int) (next : Nat), at_ < next → next ≤ n → InI v → (∀ u : Int, -1073741824 ≤ u → u ≤ 1073741824 → Begins (bitAt bs) at_ (bitsV u) → v = u ∧ next = at_ + (bitsV u).length) → J v next w) :
    callJ Try.prog fn_ref12_number #[.string s, .int .i64 (at_ : Int)] w [.one (.int .i64), .one (.int .i64)] J := by
  refine c_ref12_number ?_
  unfold VC_ref12_number
  have hss := hs.size
  rw [bitsL_len] at hss
  refine condB_d (fun hge => K0 fun u _ _ _ h4 => by have := bitsV_len_pos u; omega) (fun hlt => ?_)
  refine hs.at (by omega) (by omega) fun b0 hb0 => ?_
  rw [Int.toNat_natCast] at hb0
  obtain ⟨rfl, _⟩ := bitsL_get hb0
  have ea : w64 ((at_ : Int) + 1) = ((at_ + 1 : Nat) : Int) := by rw [w64_of] <;> omega
  rw [ea]
  refine ⟨fun x w' t => ∃ k : Nat, x = ((at_ + k : Nat) : Int) ∧ 1 ≤ k ∧ at_ + k ≤ n ∧ t = n - (at_ + k) ∧ w' = w ∧ ∀ i, i < k → bitAt bs (at_ + i) = bitAt bs at_, ⟨_, 1, rfl, Nat.le_refl _, by omega, rfl, rfl, fun i hi => by rw [show i = 0 by omega, Nat.add_zero]⟩, ?_⟩
  rintro x w' t ⟨k, rfl, hk1, hkn, rfl, rfl, hrun⟩
  refine withJ_i fun J30 hJ30 => ?_
  have k30 : ∀ b, (b = true → at_ + k < n ∧ bitAt bs (at_ + k) = bitAt bs at_) → (b = false → at_ + k < n → bitAt bs (at_ + k) ≠ bitAt bs at_) → J30 b w' := by
    intro b h1 h0; subst hJ30
    refine condB_i (fun hb => ?_) (fun hb => ?_)
    · obtain ⟨g1, g2⟩ := h1 hb
      refine ⟨_, by omega, k + 1, by rw [w64_of] <;> omega, by omega, by omega, rfl, rfl, fun i hi => ?_⟩
      by_cases h : i < k
      · exact hrun i h
      · rw [show i = k by omega]; exact g2
    · have hstop := h0 hb
      have e1 : w64 (((at_ + k : Nat) : Int) - (at_ : Int)) = (k : Int) := by rw [w64_of] <;> omega
      have e2 : w64 ((k : Int) - 1) = ((k - 1 : Nat) : Int) := by rw [w64_of] <;> omega
      have e3 : w64 (((at_ + k : Nat) : Int) + 1) = ((at_ + k + 1 : Nat) : Int) := by rw [w64_of] <;> omega
      rw [e1, e2, e3]
      have e4 : w64 (((at_ + k + 1 : Nat) : Int) + ((k - 1 : Nat) : Int)) = ((at_ + 2 * k : Nat) : Int) := by rw [w64_of] <;> omega
      rw [e4]
      refine withJ_i fun J47 hJ47 => ?_
      have k47 : ∀ b, (b = true → at_ + 2 * k > n ∨ k - 1 > 31) → (b = false → at_ + 2 * k ≤ n ∧ k - 1 ≤ 31) → J47 b w' := by
        intro b h1 h0; subst hJ47
        refine condB_i (fun hb => ?_) (fun hb => ?_)
        · refine K0 fun u g1 g2 g3 g4 => ?_
          obtain ⟨s', m, hN⟩ := numAt_of g1 g2 g3
          have hlen := hN.len
          have hkb := hN.run_le hrun
          have hsm := hN.small
          rcases h1 hb with h | h
          · -- the row would end behind the end
            have hkn2 : at_ + k < n := by have := hN.pos; omega
            have := hN.run_eq hrun (hstop hkn2)
            omega
          · omega
        · obtain ⟨g1, g2⟩ := h0 hb
          have hne := hstop (by omega)
          have p40 : ∀ i, i ≤ k - 1 → 2 ^ (i + 1) ≤ 2 ^ 32 := fun i hi => Nat.pow_le_pow_right (by decide) (by omega)
          refine ⟨fun a x w2 t => ∃ i acc : Nat, x = ((at_ + k + 1 + i : Nat) : Int) ∧ a = acc ∧ i ≤ k - 1 ∧ t = k - 1 - i ∧ w2 = w' ∧ 1 ≤ acc ∧ acc < 2 ^ (i + 1) ∧ ∀ u s' m, NumAt (bitAt bs) at_ u s' m → acc = m / 2 ^ (blen m - 1 - i),
            ⟨_, 0, 1, rfl, rfl, Nat.zero_le _, rfl, rfl, by decide, by decide, fun u s' m hN => (blen_top hN.hm).symm⟩, ?_⟩
          rintro a x w2 t ⟨i, acc, rfl, rfl, hi, rfl, rfl, ha1, ha2, hacc⟩
          have hpw := p40 i hi
          refine condB_d (fun hlt => ?_) (fun hge => ?_)
          · refine withJ_i fun J9 hJ9 => ?_
            refine hs.at (by omega) (by omega) fun b1 hb1 => ?_
            rw [Int.toNat_natCast] at hb1
            obtain ⟨rfl, _⟩ := bitsL_get hb1
            have k9 : ∀ a' : Nat, (a' = 2 * acc ∨ a' = 2 * acc + 1) → (∀ u s' m, NumAt (bitAt bs) at_ u s' m → a' = m / 2 ^ (blen m - 1 - (i + 1))) → J9 (a' : Int) w2 := by
              intro a' ha' hm'; subst hJ9
              exact ⟨_, by omega, i + 1, a', by rw [w64_of] <;> omega, rfl, by omega, rfl, rfl, by omega, by rw [Nat.pow_succ]; omega, hm'⟩
            clear hJ9
            have step : ∀ (d : Nat), (bitAt bs (at_ + k + 1 + i) = bitAt bs at_ → d = 1) → (bitAt bs (at_ + k + 1 + i) ≠ bitAt bs at_ → d = 0) → ∀ u s' m, NumAt (bitAt bs) at_ u s' m → 2 * acc + d = m / 2 ^ (blen m - 1 - (i + 1)) := by
              intro d hd1 hd0 u s' m hN
              have hkm : k = blen m := hN.run_eq hrun hne
              have hlow := hN.low i (by omega)
              rw [← hkm, ← hN.sign] at hlow
              have e1 := hacc u s' m hN
              have e2 := shr_step m (blen m - 1 - (i + 1))
              rw [show blen m - 1 - (i + 1) + 1 = blen m - 1 - i by omega, ← e1] at e2
              rw [e2]
              rw [show k - 2 - i = blen m - 1 - (i + 1) by omega] at hlow
              cases htb : m.testBit (blen m - 1 - (i + 1)) with
              | true =>
                rw [htb] at hlow
                by_cases hs : bitAt bs (at_ + k + 1 + i) = bitAt bs at_
                · rw [hd1 hs]; rfl
                · exfalso; rw [hlow] at hs; cases h : bitAt bs at_ <;> rw [h] at hs hlow <;> simp_all
              | false =>
                rw [htb] at hlow
                by_cases hs : bitAt bs (at_ + k + 1 + i) = bitAt bs at_
                · exfalso; rw [hlow] at hs; cases h : bitAt bs at_ <;> rw [h] at hs hlow <;> simp_all
                · rw [hd0 hs]; rfl
            have e2 : w64 ((2 : Int) * (acc : Int)) = ((2 * acc : Nat) : Int) := by rw [w64_of] <;> omega
            rw [e2, sgn_eq]
            refine condB_i (fun heq => ?_) (fun hnq => ?_)
            · have heq : bitAt bs (at_ + k + 1 + i) = bitAt bs at_ := by simpa using heq
              have e3 : w64 (((2 * acc : Nat) : Int) + 1) = ((2 * acc + 1 : Nat) : Int) := by rw [w64_of] <;> omega
              rw [e3]
              exact k9 _ (.inr rfl) (step 1 (fun _ => rfl) (fun h => absurd heq h))
            · have hnq : bitAt bs (at_ + k + 1 + i) ≠ bitAt bs at_ := by simpa using hnq
              exact k9 _ (.inl rfl) (step 0 (fun h => absurd h hnq) (fun _ => rfl))
          · have hik : i = k - 1 := by omega
            subst hik
            have fin : ∀ v : Int, InI v → (∀ u s' m, NumAt (bitAt bs) at_ u s' m → v = u) → J v ((at_ + 2 * k : Nat) : Int) w2 := by
              intro v hv hu
              refine K v _ (by omega) g1 hv fun u h1 h2 hb => ?_
              obtain ⟨s', m, hN⟩ := numAt_of h1 h2 hb
              refine ⟨hu u s' m hN, ?_⟩
              have := hN.run_eq hrun hne
              rw [hN.len]; omega
            have val : ∀ u s' m, NumAt (bitAt bs) at_ u s' m → acc = m := by
              intro u s' m hN
              have e1 := hacc u s' m hN
              have hkm : k = blen m := hN.run_eq hrun hne
              rw [← hkm, Nat.sub_self] at e1
              simpa using e1
            rw [sgn_one]
            refine condB_i (fun hs => ?_) (fun hs => ?_)
            · rw [w64_of (by omega) (by omega)]
              refine fin _ (by unfold InI; omega) fun u s' m hN => ?_
              rw [hN.val, val u s' m hN, ← hN.sign, hs]; rfl
            · rw [w64_of (by omega) (by omega)]
              refine fin _ (by unfold InI; omega) fun u s' m hN => ?_
              rw [hN.val, val u s' m hN, ← hN.sign, hs]; simp
      clear hJ47
      rw [hss]
      refine condB_d (fun h => k47 true (fun _ => .inl (by omega)) (fun h => by cases h)) (fun h => ?_)
      refine k47 _ (fun h2 => .inr ?_) (fun h2 => ⟨by omega, ?_⟩)
      · have := of_decide_eq_true h2; omega
      · have := of_decide_eq_false h2; omega
  clear hJ30
  rw [hss]
  refine condB_d (fun hlt2 => ?_) (fun hge2 => k30 false (fun h => by cases h) (fun _ h => by omega))
  refine hs.at (by omega) (by omega) fun b1 hb1 => ?_
  rw [Int.toNat_natCast] at hb1
  obtain ⟨rfl, _⟩ := bitsL_get hb1
  rw [sgn_eq]
  exact k30 _ (fun h => ⟨by omega, by simpa using h⟩) (fun h _ => by simpa using h)

theorem RRead_ok {p : Option Addr} {l c : Nat} {bs : List UInt8} {J : Option Addr → Nat → Nat → Bool → World → Prop} (hB : Bytes w p l bs) (hm : l ≤ 140737488351232)
    (K1 : ∀ L, lab L = (bs, 0) → ∀ q m d w', Row w' T_int 1 q m d (ints L) → fresh w q → Chg No w w' → J q m d true w') (K2 : (∀ L, lab L ≠ (bs, 0)) → ∀ q m d w', Chg No w w' → J q m d false w') :
    callJ Try.prog fn_ref12_Read #[.slice p l c] w [.one .slice, .one .bool] J := by
  refine c_ref12_Read ?_
  unfold VC_ref12_Read
  have hbl := hB.len
  refine ⟨fun s x w' t => ∃ i : Nat, x = i ∧ i ≤ l ∧ t = l - i ∧ w' = w ∧ SB s (bitsL bs (8 * i)), ⟨_, 0, rfl, Nat.zero_le _, rfl, rfl, SB.nil⟩, ?_⟩
  rintro s x w' t ⟨i, rfl, hi, rfl, rfl, hs⟩
  refine condB_d (fun hlt => ?_) (fun hge => ?_)
  · refine byte_i hB (by omega) hlt fun y hy => ?_
    rw [Int.toNat_natCast] at hy
    refine ⟨fun s x w2 t => ∃ j : Nat, x = (j : Int) - 1 ∧ j ≤ 8 ∧ j = t ∧ w2 = w' ∧ SB s (bitsL bs (8 * i + (8 - j))), ⟨_, 8, rfl, Nat.le_refl _, rfl, rfl, by simpa using hs⟩, ?_⟩
    rintro s2 x w2 t ⟨j, rfl, hj, rfl, rfl, hs2⟩
    refine condB_d (fun hj0 => ?_) (fun hj0 => ?_)
    · obtain ⟨j', rfl⟩ : ∃ j', j = j' + 1 := ⟨j - 1, by omega⟩
      have ej : (((j' + 1 : Nat) : Int) - 1) = (j' : Int) := by omega
      rw [ej]
      have hs2s := hs2.size
      rw [bitsL_len] at hs2s
      refine withJ_i fun J4 hJ4 => ?_
      have k4 : ∀ s3, SB s3 (bitsL bs (8 * i + (8 - (j' + 1))) ++ [y.toNat.testBit j']) → J4 s3 w2 := by
        intro s3 h3; subst hJ4
        refine ⟨j', by omega, j', by rw [w64_of] <;> omega, by omega, rfl, rfl, ?_⟩
        have hbt : bitAt bs (8 * i + (8 - (j' + 1))) = y.toNat.testBit j' := by
          rw [bits8 _ _ _ (by omega), List.getD_eq_getElem?_getD, hy, show 7 - (8 - (j' + 1)) = j' by omega]; rfl
        rw [← hbt, ← bitsL_succ, show 8 * i + (8 - (j' + 1)) + 1 = 8 * i + (8 - j') by omega] at h3
        exact h3
      clear hJ4
      rw [bit_low y (by omega)]
      have hs1 : ((⟨#[49]⟩ : ByteArray).size) = 1 := rfl
      have hs0 : ((⟨#[48]⟩ : ByteArray).size) = 1 := rfl
      refine ⟨by omega, condB_i (fun hb => ⟨by rw [hs1]; omega, k4 _ ?_⟩) (fun hb => ⟨by rw [hs0]; omega, k4 _ ?_⟩)⟩
      · rw [hb]; exact hs2.append SB.one
      · rw [hb]; exact hs2.append SB.zero
    · have hj00 : j = 0 := by omega
      subst hj00
      exact ⟨_, by omega, i + 1, by rw [w64_of] <;> omega, by omega, rfl, rfl, by rw [Nat.mul_succ]; exact hs2⟩
  · have hie : i = l := by omega
    subst hie
    have hss := hs.size
    rw [bitsL_len] at hss
    rw [hss]
    refine condB_d (fun hbig => ?_) (fun hsm => ?_)
    · refine K2 (fun L hL => ?_) _ _ _ w' (Chg.refl _ _)
      have := lab_bits hL
      omega
    have hz : ∀ j, 8 * i ≤ j → bitAt bs j = false := fun j hj => bitAt_end (by omega)
    refine (Hp.start w' No).newB fun b39 w4 H4 hb39 hc4 => ?_
    have hrow : Row w4 T_int 1 (some ⟨b39, 0, none⟩) 0 0 (ints []) := H4.asRow 0 rfl (rest := []) rfl (by simp [ints]) (Nat.le_refl _) (by decide) (by simp)
    refine ⟨fun q m d x w5 t => ∃ (n : Nat) (L : List Int), x = n ∧ Row w5 T_int 1 q m d (ints L) ∧ fresh w' q ∧ Chg No w' w5 ∧ n ≤ 8 * i ∧ m ≤ n ∧ t = 8 * i - n ∧ ∀ M, lab M = (bs, 0) → ∃ rest, M = L ++ rest ∧ n = (flatB L).length,
      ⟨_, 0, [], rfl, hrow, by rintro a ⟨⟩; exact hb39, hc4, Nat.zero_le _, Nat.le_refl _, rfl, fun M _ => ⟨M, rfl, rfl⟩⟩, ?_⟩
    rintro q m d x w5 t ⟨n, L, rfl, hr, hf, hc, hn, hmn, rfl, hv⟩
    refine ⟨fun r x w6 t => ∃ j : Nat, x = j ∧ n ≤ j ∧ j ≤ 8 * i ∧ t = 8 * i - j ∧ w6 = w5 ∧ (r = true ↔ ∀ k, n ≤ k → k < j → bitAt bs k = false), ⟨_, n, rfl, Nat.le_refl _, hn, rfl, rfl, ⟨fun _ k h1 h2 => by omega, fun _ => rfl⟩⟩, ?_⟩
    rintro r x w6 t ⟨j, rfl, hj1, hj2, rfl, rfl, hr0⟩
    refine condB_d (fun hlt => ?_) (fun hge2 => ?_)
    · refine withJ_i fun J10 hJ10 => ?_
      have k10 : ∀ b, (b = true ↔ (r = true ∧ bitAt bs j = false)) → J10 b w6 := by
        intro b hb; subst hJ10
        refine ⟨_, by omega, j + 1, by rw [w64_of] <;> omega, by omega, by omega, rfl, rfl, ?_⟩
        rw [hb, hr0]
        constructor
        · rintro ⟨h1, h2⟩ k h3 h4
          by_cases h : k < j
          · exact h1 k h3 h
          · rw [show k = j by omega]; exact h2
        · exact fun h => ⟨fun k h1 h2 => h k h1 (by omega), h j hj1 (by omega)⟩
      clear hJ10
      refine condB_i (fun hrt => ?_) (fun hrf => k10 false ⟨fun h => (by cases h), fun h => by rw [hrf] at h; cases h.1⟩)
      refine hs.at (by omega) (by omega) fun b hb => ?_
      rw [Int.toNat_natCast] at hb
      obtain ⟨rfl, _⟩ := bitsL_get hb
      rw [sgn_zero]
      refine k10 _ ⟨fun h => ⟨hrt, by simpa using h⟩, fun h => by simpa using h.2⟩
    · have hje : j = 8 * i := by omega
      subst hje
      refine condB_i (fun hrt => ?_) (fun hrf => ?_)
      · have hall : ∀ k, n ≤ k → bitAt bs k = false := fun k hk => by
          by_cases h : k < 8 * i
          · exact hr0.1 hrt k hk h
          · exact hz k (by omega)
        have hI : Ints w6 q m L := hr.sl
        refine RBytes_ok hI (by omega) fun q7 m7 d7 w7 hr7 hf7 hc7 => ?_
        have hc07 := (hc.trans0 hc7).drew
        have hc7d := hc7.drew
        have hrL := hr.chg hc7d (off_no _)
        have uni : ∀ M, lab M = (bs, 0) → M = L := by
          intro M hM
          obtain ⟨rest, rfl, hnL⟩ := hv M hM
          obtain ⟨hb1, _⟩ := lab_bits hM
          cases rest with
          | nil => simp
          | cons u r =>
            obtain ⟨_, k, hk, hb⟩ := rest_some hb1
            rw [hall k (by omega)] at hb; cases hb
        refine withJ_i fun J2 hJ2 => ?_
        have k2 : ∀ b, (b = true ↔ lab L = (bs, 0)) → J2 q m d b w7.drew := by
          intro b hb; subst hJ2
          cases hbb : b with
          | true => exact K1 L (hb.1 hbb) q m d _ hrL hf hc07
          | false => exact K2 (fun M hM => by rw [hb.2 (by rw [← uni M hM]; exact hM)] at hbb; cases hbb) q m d _ hc07
        clear hJ2
        refine condB_eq (fun he => ?_) (fun hne => k2 false ⟨fun h => (by cases h), fun h => by rw [h] at hne; exact absurd rfl hne⟩)
        have cd : Chg No w7 w7.drew := (Chg.refl _ _).drew
        refine bytesOf_i (hr7.bytes.chg cd (off_no _)) (bytesOf_i (hB.chg hc07 (off_no _)) (k2 _ ?_))
        rw [ByteArray.toList_mk, ByteArray.toList_mk]
        simp only [beq_iff_eq]
        exact ⟨fun h => Prod.ext h he, fun h => by rw [h]⟩
      · have hsome : ∃ k, n ≤ k ∧ bitAt bs k = true := by
          apply Classical.byContradiction
          intro hno
          have : r = true := hr0.2 fun k h1 h2 => by
            cases h : bitAt bs k with
            | false => rfl
            | true => exact absurd ⟨k, h1, h⟩ hno
          rw [hrf] at this; cases this
        -- what stands there, if it is a label's
        have next : ∀ M, lab M = (bs, 0) → ∃ u r, M = L ++ u :: r ∧ n = (flatB L).length ∧ Begins (bitAt bs) n (bitsV u) ∧ -1073741824 ≤ u ∧ u ≤ 1073741824 ∧ n + (bitsV u).length ≤ 8 * i := by
          intro M hM
          obtain ⟨rest, rfl, hnL⟩ := hv M hM
          obtain ⟨hb1, hb2, hb3, hb4⟩ := lab_bits hM
          cases rest with
          | nil =>
            exfalso
            rw [List.append_nil] at hb1
            obtain ⟨k, hk, hb⟩ := hsome
            rw [rest_none hb1 (by omega)] at hb; cases hb
          | cons u r =>
            obtain ⟨hbeg, _⟩ := rest_some hb1
            rw [← hnL] at hbeg
            have hu := bad_range hb3 u (by simp)
            refine ⟨u, r, rfl, hnL, hbeg, hu.1, hu.2, ?_⟩
            rw [flatB_append, flatB_cons, List.length_append, List.length_append] at hb2
            omega
        refine RNumber_ok hs (by omega) hz (fun hno => ?_) (fun v nx h1 h2 hin hval => ?_)
        · refine condB_d (fun _ => ?_) (fun h => absurd (by decide) h)
          refine K2 (fun M hM => ?_) _ _ _ w6 hc
          obtain ⟨u, r, _, _, g1, g2, g3, g4⟩ := next M hM
          exact hno u g2 g3 g1 g4
        · refine condB_d (fun h => by omega) (fun _ => ?_)
          refine appI hr (by omega) hf hc fun q' d' w7 hr7 hf7 hc7 _ => ?_
          refine ⟨_, by omega, nx, L ++ [v], rfl, hr7, hf7, hc7, by omega, by omega, rfl, fun M hM => ?_⟩
          obtain ⟨u, r, rfl, hnL, g1, g2, g3, _⟩ := next M hM
          obtain ⟨rfl, e2⟩ := hval u g2 g3 g1
          refine ⟨r, by simp, ?_⟩
          rw [e2, hnL, flatB_append, List.length_append, flatB_cons, flatB_nil, List.append_nil]
end
end Go.Proofs.Ytjjmnfpdkgnmoaa

