/-
  unicode/utf8.ValidString by contract.
-/
import Derived.Test.YtkgfbphdmnapdaaGreatDoorU8F
namespace Go.Proofs.YtkgfbphdmnapdaaGreatDoor
open Go Go.Vc Go.Lib

section
variable {w : World}

/-- A failing test of a lead byte's row. -/
theorem vld_fail {s : ByteArray} (hs : 0 < s.size) (h : dec (bl s) = (65533, 1)) : vld (bl s) = false :=
  vld_bad (by intro e; have := bl_len s; rw [e] at this; simp at this; omega) (rd0_of_dec h)
theorem vld_next {s : ByteArray} (hs : 0 < s.size) {r k : Nat} (hk : 2 ≤ k) (h : dec (bl s) = (r, k)) : vld (bl s) = vld ((bl s).drop k) ∧ k ≤ s.size := by
  have hne : bl s ≠ [] := by intro e; have := bl_len s; rw [e] at this; simp at this; omega
  have e := rd_of_dec h hk
  have hl := rd_le _ hne
  rw [e, bl_len] at hl
  refine ⟨?_, hl⟩
  rw [vld_step hne (by rw [e]; simp only; omega), e]

theorem or_zero {a b c : Nat} (h : (a ||| b) &&& c = 0) : a &&& c = 0 ∧ b &&& c = 0 := by
  rw [Nat.and_or_distrib_right] at h
  exact Nat.or_eq_zero_iff.1 h
theorem asc_more {l : List UInt8} {a b : Nat} (h1 : ∀ x ∈ l.take a, x.toNat < 128) (h2 : ∀ x ∈ (l.drop a).take b, x.toNat < 128) : ∀ x ∈ l.take (a + b), x.toNat < 128 := by
  intro x hx
  rw [List.take_add, List.mem_append] at hx
  rcases hx with h | h
  · exact h1 x h
  · exact h2 x h
theorem bAnd_u64 {A : Nat} (hA : A < 18446744073709551616) : bAnd .u64 (A : Int) 9259542123273814144 = ((A &&& 9259542123273814144 : Nat) : Int) := u64_and_nat A 9259542123273814144 hA (by decide)
theorem bOr_u64 {A B : Nat} (hA : A < 18446744073709551616) (hB : B < 18446744073709551616) : bOr .u64 (A : Int) (B : Int) = ((A ||| B : Nat) : Int) := u64_or_nat A B hA hB

set_option maxRecDepth 100000 in
set_option maxHeartbeats 4000000 in
theorem ValidString_ok {s : ByteArray} {J : Bool → World → Prop} (T : Tabs w) (K : ∀ w', Chg No w w' → J (vld (bl s)) w') :
    callJ Tryz.prog fn_unicode_utf8_ValidString #[.string s] w [.one .bool] J := by
  refine c_unicode_utf8_ValidString ?_
  unfold VC_unicode_utf8_ValidString
  refine ⟨fun t w' m => Chg No w w' ∧ vld (bl t) = vld (bl s) ∧ m = t.size ∧ t.size ≤ s.size, ⟨_, Chg.refl _ _, rfl, rfl, Nat.le_refl _⟩, ?_⟩
  rintro t w1 m ⟨hc, hv, rfl, hle⟩
  rw [← hv] at K
  refine condB_d (fun hpos => ?_) (fun hpos => ?_)
  rotate_left
  · have h0 : t.size = 0 := by omega
    have : bl t = [] := List.eq_nil_of_length_eq_zero (by rw [bl_len]; exact h0)
    rw [this, vld_nil] at K
    exact K w1 hc
  have hp : 0 < t.size := by omega
  have l0 := gB_lt (bl t) 0; have l1 := gB_lt (bl t) 1; have l2 := gB_lt (bl t) 2; have l3 := gB_lt (bl t) 3
  refine idxStr_i (i := 0) hp ?_
  refine condB_d (fun ha => ?_) (fun ha => ?_)
  · -- below 128: the fast road
    refine slStr_drop (i := 1) (by omega) fun s1 hs1 z1 => ?_
    refine withJ_i fun J0 hJ0 => ?_
    have go : ∀ (u : ByteArray) (k : Nat) (w2 : World), 1 ≤ k → k ≤ t.size → bl u = (bl t).drop k → (∀ b ∈ (bl t).take k, b.toNat < 128) → Chg No w w2 → J0 u w2 := by
      intro u k w2 h1 hk he hasc hc2
      subst hJ0
      have hz : u.size = t.size - k := by rw [← bl_len, he, List.length_drop, bl_len]
      exact ⟨u.size, by omega, hc2, by rw [he, ← vld_drop k _ hasc, hv], rfl, by omega⟩
    have a1 : ∀ b ∈ (bl t).take 1, b.toNat < 128 := by
      have hl : 0 < (bl t).length := by rw [bl_len]; exact hp
      intro b hb
      cases hbt : bl t with
      | nil => rw [hbt] at hl; simp at hl
      | cons x r =>
        rw [hbt] at hb ha
        simp only [List.take_succ_cons, List.take_zero, List.mem_singleton] at hb
        subst hb
        simp only [gB, List.getD_cons_zero] at ha
        omega
    clear hJ0
    refine withJ_i fun J24 hJ24 => ?_
    have slow : ∀ w2, Chg No w w2 → J24 false w2 := fun w2 hc2 => by subst hJ24; exact go s1 1 w2 (by omega) (by omega) hs1 a1 hc2
    refine condB_d (fun h8 => ?_) (fun _ => slow _ hc)
    refine word_ok (by omega) fun A1 lA1 mA1 => ?_
    rw [bAnd_u64 lA1]
    have hcd : Chg No w w1.drew := hc.drew
    generalize w1.drew = w2 at hcd ⊢
    by_cases hz1 : A1 &&& 9259542123273814144 = 0
    rotate_left
    · rw [show (((A1 &&& 9259542123273814144 : Nat) : Int) == 0) = false from by simpa using hz1]; exact slow _ hcd
    rw [hz1, show (((0 : Nat) : Int) == 0) = true from rfl]
    clear slow
    subst hJ24
    refine condB_i (fun _ => ?_) (fun h => by cases h)
    have m1 := mA1 hz1
    rw [hs1] at m1
    have a9 := asc_more a1 m1
    refine slStr_drop (i := 8) (by omega) fun s9 hs9 z9 => ?_
    rw [hs1, List.drop_drop] at hs9
    refine withJ_i fun J39 hJ39 => ?_
    have slow : ∀ w3, Chg No w w3 → J39 false w3 := fun w3 hc3 => by subst hJ39; exact go s9 9 w3 (by omega) (by omega) hs9 a9 hc3
    have hcd2 : Chg No w w2.drew := hcd.drew
    refine condB_d (fun h16 => ?_) (fun _ => slow _ hcd2)
    refine slStr_drop (i := 8) (by omega) fun s17 hs17 z17 => ?_
    refine word_ok (by omega) fun A2 lA2 mA2 => ?_
    refine word_ok (by omega) fun A3 lA3 mA3 => ?_
    have hcd3 : Chg No w w2.drew.drew.drew := hcd2.drew.drew
    rw [bOr_u64 lA2 lA3, bAnd_u64 (Nat.or_lt_two_pow (n := 64) lA2 lA3)]
    generalize w2.drew.drew.drew = w3 at hcd3 ⊢
    by_cases hz2 : (A2 ||| A3) &&& 9259542123273814144 = 0
    rotate_left
    · rw [show ((((A2 ||| A3) &&& 9259542123273814144 : Nat) : Int) == 0) = false from by simpa using hz2]; exact slow _ hcd3
    rw [hz2, show (((0 : Nat) : Int) == 0) = true from rfl]
    clear slow
    subst hJ39
    refine condB_i (fun _ => ?_) (fun h => by cases h)
    obtain ⟨q2, q3⟩ := or_zero hz2
    have m2 := mA2 q2
    have m3 := mA3 q3
    rw [hs17] at m3
    rw [hs9] at m2 m3
    have a25 := asc_more a9 (asc_more m2 m3)
    refine slStr_drop (i := 16) (by omega) fun s25 hs25 z25 => ?_
    rw [hs9, List.drop_drop] at hs25
    refine ⟨fun u w' m => ∃ k : Nat, 1 ≤ k ∧ k ≤ t.size ∧ bl u = (bl t).drop k ∧ (∀ b ∈ (bl t).take k, b.toNat < 128) ∧ Chg No w w' ∧ m = u.size, ⟨_, 25, by omega, by omega, hs25, a25, hcd3, rfl⟩, ?_⟩
    rintro u w5 m1 ⟨k, k1, k2, hu, ak, hc5, rfl⟩
    have zu : u.size = t.size - k := by rw [← bl_len, hu, List.length_drop, bl_len]
    refine withJ_i fun J62 hJ62 => ?_
    have slow : ∀ w3, Chg No w w3 → J62 false w3 := fun w3 hc3 => by subst hJ62; exact go u k w3 k1 k2 hu ak hc3
    refine condB_d (fun h32 => ?_) (fun _ => slow _ hc5.drew)
    refine slStr_drop (i := 8) (by omega) fun u8 hu8 zu8 => ?_
    refine slStr_drop (i := 16) (by omega) fun u16 hu16 zu16 => ?_
    refine slStr_drop (i := 24) (by omega) fun u24 hu24 zu24 => ?_
    refine word_ok (by omega) fun B1 lB1 mB1 => ?_
    refine word_ok (by omega) fun B2 lB2 mB2 => ?_
    refine word_ok (by omega) fun B3 lB3 mB3 => ?_
    refine word_ok (by omega) fun B4 lB4 mB4 => ?_
    have hcd5 : Chg No w w5.drew.drew.drew.drew.drew := hc5.drew.drew.drew.drew.drew
    have l12 := Nat.or_lt_two_pow (n := 64) lB1 lB2
    have l34 := Nat.or_lt_two_pow (n := 64) lB3 lB4
    rw [bOr_u64 lB1 lB2, bOr_u64 lB3 lB4, bOr_u64 l12 l34, bAnd_u64 (Nat.or_lt_two_pow (n := 64) l12 l34)]
    generalize w5.drew.drew.drew.drew.drew = w6 at hcd5 ⊢
    by_cases hz3 : ((B1 ||| B2) ||| (B3 ||| B4)) &&& 9259542123273814144 = 0
    rotate_left
    · rw [show (((((B1 ||| B2) ||| (B3 ||| B4)) &&& 9259542123273814144 : Nat) : Int) == 0) = false from by simpa using hz3]; exact slow _ hcd5
    rw [hz3, show (((0 : Nat) : Int) == 0) = true from rfl]
    clear slow
    subst hJ62
    refine condB_i (fun _ => ?_) (fun h => by cases h)
    obtain ⟨q12, q34⟩ := or_zero hz3
    obtain ⟨q1, q2⟩ := or_zero q12
    obtain ⟨q3, q4⟩ := or_zero q34
    have n1 := mB1 q1
    have n2 := mB2 q2
    have n3 := mB3 q3
    have n4 := mB4 q4
    rw [hu8] at n2
    rw [hu16] at n3
    rw [hu24] at n4
    have n16 := asc_more n1 n2
    have n24 := asc_more n16 n3
    have n32 := asc_more n24 n4
    rw [hu] at n32
    refine slStr_drop (i := 32) (by omega) fun u32 hu32 zu32 => ?_
    rw [hu, List.drop_drop] at hu32
    exact ⟨u32.size, by omega, k + 32, by omega, by omega, hu32, asc_more ak n32, hcd5, rfl⟩
  · -- a lead byte
    have hr := hc.cell (T.1 _ l0) (fun f => f)
    refine idxA_i (by omega) (by omega) ?_
    rw [Addr.add_mk, Nat.zero_add, Nat.mul_one, Int.toNat_natCast]
    refine ldI_i hr ?_
    have s256 : firstT (gB (bl t) 0) < 256 := by rcases firstT_cases (gB (bl t) 0) with h | h | h | h | h | h | h | h | h <;> omega
    have s16 : firstT (gB (bl t) 0) / 16 < 16 := by omega
    rw [shr4, and7 s256, w64_of (by omega) (by omega)]
    have hdec : firstT (gB (bl t) 0) < 240 → dec (bl t) = slowN (bl t).length (gB (bl t) 0) (gB (bl t) 1) (gB (bl t) 2) (gB (bl t) 3) (firstT (gB (bl t) 0) % 8) (accLo (firstT (gB (bl t) 0) / 16)) (accHi (firstT (gB (bl t) 0) / 16)) :=
      fun hx => (slow_eq _ _ _ _ _ (by rw [bl_len]; omega) l1 l2 l3 hx).symm
    have hbad : ¬ firstT (gB (bl t) 0) < 240 → dec (bl t) = (65533, 1) ∧ firstT (gB (bl t) 0) % 8 = 1 := fun hx => by
      rcases firstT_ge hx with h | h
      · exfalso; unfold firstT at h; repeat' split at h
        all_goals omega
      · exact ⟨bad_eq _ _ _ _ _ l0 h, by rw [h]⟩
    have hsm : firstT (gB (bl t) 0) < 240 → firstT (gB (bl t) 0) % 8 ≤ 4 ∧ 2 ≤ firstT (gB (bl t) 0) % 8 := fun hx => ⟨(firstT_small hx).1, (firstT_small hx).2.1⟩
    have ht := T.2 _ s16
    rw [Nat.mul_comm] at ht
    generalize firstT (gB (bl t) 0) = f at *
    refine ⟨by decide, idxA_i (by omega) (by omega) ?_⟩
    simp only [Addr.add_mk, Nat.zero_add, Int.toNat_natCast]
    refine ldI_i (hc.cell ht.1 (fun f => f)) (ldI_i (hc.cell ht.2 (fun f => f)) ?_)
    rw [zeroC_acc]
    refine (Hp.start w1 No).newB fun b9 w14 H1 hb9 hc1 => ?_
    refine H1.stN 0 rfl (off := 0) rfl (by decide) (by simp [one1, Value.oneCell']) fun w15 H2 hc2 => ?_
    have hc15 : Chg No w w15 := hc.trans0 (hc1.trans hc2 fun x hx he => by subst he; omega)
    have hcd : Chg No w w15.drew := hc15.drew
    have H3 := H2.drew
    simp only [splice, List.take_zero, List.nil_append, List.set_cons_zero, List.length_cons, List.length_nil, List.drop_succ_cons, List.drop_nil, List.append_nil, Nat.zero_add] at H3
    generalize hwd : w15.drew = w16 at hcd H3 ⊢
    have bad : dec (bl t) = (65533, 1) → ∀ w', Chg No w w' → J false w' := fun h w' hc' => by rw [← vld_fail hp h]; exact K w' hc'
    have good : ∀ (r k : Nat), 2 ≤ k → dec (bl t) = (r, k) → slStr t (some (k : Int)) none fun s' => ∃ m', m' < t.size ∧ Chg No w w16 ∧ vld (bl s') = vld (bl s) ∧ m' = s'.size ∧ s'.size ≤ s.size := fun r k hk hd => by
      obtain ⟨e1, e2⟩ := vld_next hp hk hd
      exact slStr_drop e2 fun s' hs' zs' => ⟨s'.size, by omega, hcd, by rw [hs', ← e1, hv], rfl, by omega⟩
    have e2' : (((f % 8 : Nat) : Int) == 2) = decide (f % 8 = 2) := by by_cases h : f % 8 = 2 <;> simp [h] <;> omega
    have e3' : (((f % 8 : Nat) : Int) == 3) = decide (f % 8 = 3) := by by_cases h : f % 8 = 3 <;> simp [h] <;> omega
    have e4' : (((f % 8 : Nat) : Int) == 4) = decide (f % 8 = 4) := by by_cases h : f % 8 = 4 <;> simp [h] <;> omega
    rw [e2', e3', e4']
    by_cases hx : f < 240
    rotate_left
    · obtain ⟨hb, h1⟩ := hbad hx
      rw [h1]
      exact bad hb _ hc15
    obtain ⟨s4, s2⟩ := hsm hx
    replace hdec := hdec hx
    clear hbad hsm
    generalize f % 8 = sz at *
    generalize f / 16 = q at *
    rw [bl_len] at hdec
    generalize hg0 : gB (bl t) 0 = g0 at *
    generalize hg1 : gB (bl t) 1 = g1 at *
    generalize hg2 : gB (bl t) 2 = g2 at *
    generalize hg3 : gB (bl t) 3 = g3 at *
    have f0 : t.size < sz → dec (bl t) = (65533, 1) := fun h => by rw [hdec]; unfold slowN; rw [if_pos h]
    have f1 : ¬ t.size < sz → (g1 < accLo q ∨ accHi q < g1) → dec (bl t) = (65533, 1) := fun h h1 => by rw [hdec]; unfold slowN; rw [if_neg h, if_pos h1]
    refine condB_d (fun h2 => ?_) (fun h2 => ?_)
    · subst h2
      refine withJ_i fun J94 hJ94 => ?_
      have fl : dec (bl t) = (65533, 1) → J94 true w16 := fun h => by subst hJ94; exact bad h _ hcd
      refine condB_d (fun hn => fl (f0 (by omega))) (fun hn => ?_)
      refine idxStr_i (i := 1) (by omega) ?_
      rw [hg1]
      refine H3.ldI 0 rfl (off := 0) rfl ?_
      refine condB_d (fun hlo => fl (f1 (by omega) (.inl (by omega)))) (fun hlo => ?_)
      refine H3.ldI 0 rfl (off := 1) rfl ?_
      refine idxStr_i (i := 1) (by omega) ?_
      rw [hg1]
      by_cases hhi : accHi q < g1
      · rw [decide_eq_true (by omega)]; exact fl (f1 (by omega) (.inr hhi))
      rw [decide_eq_false (by omega)]
      clear fl; subst hJ94
      exact good (g0 % 32 * 64 + g1 % 64) 2 (by decide) (by rw [hdec]; unfold slowN; rw [if_neg (by omega), if_neg (by omega), if_pos (by decide)])
    refine condB_d (fun h3 => ?_) (fun h3 => ?_)
    · subst h3
      refine withJ_i fun J125 hJ125 => ?_
      have fl : dec (bl t) = (65533, 1) → J125 true w16 := fun h => by subst hJ125; exact bad h _ hcd
      have f2 : ¬ t.size < 3 → ¬ (g1 < accLo q ∨ accHi q < g1) → (g2 < 128 ∨ 191 < g2) → dec (bl t) = (65533, 1) := fun h h1 h2 => by
        rw [hdec]; unfold slowN; rw [if_neg h, if_neg h1, if_neg (by omega), if_pos h2]
      refine condB_d (fun hn => fl (f0 (by omega))) (fun hn => ?_)
      refine idxStr_i (i := 1) (by omega) ?_
      rw [hg1]
      refine H3.ldI 0 rfl (off := 0) rfl ?_
      refine condB_d (fun hlo => fl (f1 (by omega) (.inl (by omega)))) (fun hlo => ?_)
      refine H3.ldI 0 rfl (off := 1) rfl ?_
      refine idxStr_i (i := 1) (by omega) ?_
      rw [hg1]
      refine condB_d (fun hhi => fl (f1 (by omega) (.inr (by omega)))) (fun hhi => ?_)
      refine idxStr_i (i := 2) (by omega) ?_
      rw [hg2]
      refine condB_d (fun hlo => fl (f2 (by omega) (by omega) (.inl (by omega)))) (fun hlo2 => ?_)
      refine idxStr_i (i := 2) (by omega) ?_
      rw [hg2]
      by_cases hhi2 : 191 < g2
      · rw [decide_eq_true (by omega)]; exact fl (f2 (by omega) (by omega) (.inr hhi2))
      rw [decide_eq_false (by omega)]
      clear fl; subst hJ125
      exact good (g0 % 16 * 4096 + g1 % 64 * 64 + g2 % 64) 3 (by decide) (by rw [hdec]; unfold slowN; rw [if_neg (by omega), if_neg (by omega), if_neg (by decide), if_neg (by omega), if_pos (by decide)])
    refine condB_d (fun h4 => ?_) (fun h4 => by omega)
    subst h4
    refine withJ_i fun J166 hJ166 => ?_
    have fl : dec (bl t) = (65533, 1) → J166 true w16 := fun h => by subst hJ166; exact bad h _ hcd
    have f2 : ¬ t.size < 4 → ¬ (g1 < accLo q ∨ accHi q < g1) → (g2 < 128 ∨ 191 < g2) → dec (bl t) = (65533, 1) := fun h h1 h2 => by
      rw [hdec]; unfold slowN; rw [if_neg h, if_neg h1, if_neg (by omega), if_pos h2]
    have f3 : ¬ t.size < 4 → ¬ (g1 < accLo q ∨ accHi q < g1) → ¬ (g2 < 128 ∨ 191 < g2) → (g3 < 128 ∨ 191 < g3) → dec (bl t) = (65533, 1) := fun h h1 h2 h3 => by
      rw [hdec]; unfold slowN; rw [if_neg h, if_neg h1, if_neg (by omega), if_neg h2, if_neg (by omega), if_pos h3]
    refine condB_d (fun hn => fl (f0 (by omega))) (fun hn => ?_)
    refine idxStr_i (i := 1) (by omega) ?_
    rw [hg1]
    refine H3.ldI 0 rfl (off := 0) rfl ?_
    refine condB_d (fun hlo => fl (f1 (by omega) (.inl (by omega)))) (fun hlo => ?_)
    refine H3.ldI 0 rfl (off := 1) rfl ?_
    refine idxStr_i (i := 1) (by omega) ?_
    rw [hg1]
    refine condB_d (fun hhi => fl (f1 (by omega) (.inr (by omega)))) (fun hhi => ?_)
    refine idxStr_i (i := 2) (by omega) ?_
    rw [hg2]
    refine condB_d (fun hlo => fl (f2 (by omega) (by omega) (.inl (by omega)))) (fun hlo2 => ?_)
    refine idxStr_i (i := 2) (by omega) ?_
    rw [hg2]
    refine condB_d (fun hhi => fl (f2 (by omega) (by omega) (.inr (by omega)))) (fun hhi2 => ?_)
    refine idxStr_i (i := 3) (by omega) ?_
    rw [hg3]
    refine condB_d (fun hlo => fl (f3 (by omega) (by omega) (by omega) (.inl (by omega)))) (fun hlo3 => ?_)
    refine idxStr_i (i := 3) (by omega) ?_
    rw [hg3]
    by_cases hhi3 : 191 < g3
    · rw [decide_eq_true (by omega)]; exact fl (f3 (by omega) (by omega) (by omega) (.inr hhi3))
    rw [decide_eq_false (by omega)]
    clear fl; subst hJ166
    exact good (g0 % 8 * 262144 + g1 % 64 * 4096 + g2 % 64 * 64 + g3 % 64) 4 (by decide) (by rw [hdec]; unfold slowN; rw [if_neg (by omega), if_neg (by omega), if_neg (by decide), if_neg (by omega), if_neg (by decide), if_neg (by omega)])
end

end Go.Proofs.YtkgfbphdmnapdaaGreatDoor

