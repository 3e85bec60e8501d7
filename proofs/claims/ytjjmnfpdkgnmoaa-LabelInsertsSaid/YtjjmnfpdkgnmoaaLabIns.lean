/-
  Chapter 12's statement LabelInserts.
-/
import Derived.Test.YtjjmnfpdkgnmoaaLaws12
set_option linter.unusedVariables false
set_option linter.unusedSimpArgs false
namespace Go.Proofs.Ytjjmnfpdkgnmoaa
open Go Go.Vc

theorem slT_sl_int : SlT Try.prog T_sl_sl_int T_sl_int 1 24 #[.slice none 0 0] := SlT.of (by kernel_rfl) (by kernel_rfl) rfl (by decide)
theorem even_iv (K : List IV) : Even IV.cells 1 K := fun _ _ => rfl
theorem one1_iv (K : List IV) : one1 (rows IV.cells K) := one1_rows fun x _ => by
  intro v hv; rw [show x.cells = [Value.slice x.p x.l x.c] from rfl, List.mem_singleton] at hv; subst hv; rfl
section
variable {w : World}
theorem appS {w0 wa : World} {p q : Option Addr} {l c m c2 : Nat} {xs news : List Value} {K : Option Addr → Nat → Nat → World → Prop} (hr : Row wa T_sl_int 1 p l c xs) (src : Sl wa q m 1 news) (h1 : one1 news) (hn : q = none → m = 0) (hlm : l + m ≤ 1000000)
    (hf : fresh w0 p) (hc : Chg No w0 wa) (k : ∀ p' c' w', Row w' T_sl_int 1 p' (l + m) c' (xs ++ news) → fresh w0 p' → Chg No w0 w' → Chg (isB p) wa w' → K p' (l + m) c' w') :
    appJ Try.prog T_sl_sl_int T_sl_sl_int (.slice p l c) (.slice q m c2) wa K := by
  refine appJ_row slT_sl_int hr src h1 hn (by omega) (by simp only [maxLen]; omega) fun p' c' w' hr' hc' hf' => ?_
  refine k p' c' w' hr' ?_ (hc.trans hc' (fresh_no hf)) hc'
  rcases hf' with rfl | hf'
  · exact hf
  · intro a ha; have := hf' a ha; have := hc.size; omega

/-- A kid's label as it lies there. -/
structure KOk (w : World) (u : List Int) (k : IV) : Prop where
  is : Ints w k.p k.l k.xs
  nil : k.p = none → k.l = 0
  cap : k.l ≤ k.c
  len : k.l ≤ 480
  kid : kidB u k.xs = true
theorem KOk.chg {w w' : World} {u : List Int} {k : IV} (h : KOk w u k) (hc : Chg No w w') : KOk w' u k := ⟨h.is.chg hc (off_no _), h.nil, h.cap, h.len, h.kid⟩
/-- The kids, rising. -/
def Rise (K : List IV) : Prop := K.Pairwise fun a b => cmpL a.xs b.xs = -1
theorem rise_insert {K : List IV} {n : IV} {at_ : Nat} (hat : at_ ≤ K.length) (h : Rise K) (hl : ∀ k, at_ ≠ 0 → K[at_ - 1]? = some k → cmpL k.xs n.xs = -1) (hr : ∀ k, K[at_]? = some k → cmpL n.xs k.xs = -1) : Rise (K.take at_ ++ [n] ++ K.drop at_) := by
  have hp := List.pairwise_iff_getElem.1 h
  have e := List.take_append_drop at_ K
  have h2 : Rise (K.take at_ ++ K.drop at_) := by rw [e]; exact h
  obtain ⟨p1, p2, p3⟩ := List.pairwise_append.1 h2
  have A : ∀ a ∈ K.take at_, cmpL a.xs n.xs = -1 := by
    intro a ha
    obtain ⟨j, hj⟩ := List.mem_iff_getElem?.1 ha
    rw [List.getElem?_take] at hj
    split at hj
    · next hlt =>
      obtain ⟨hjl, ej⟩ := List.getElem?_eq_some_iff.1 hj
      by_cases hje : j = at_ - 1
      · subst hje; exact hl a (by omega) hj
      · rcases Nat.lt_or_ge (at_ - 1) K.length with hb | hb
        · have h1 := hp j (at_ - 1) hjl hb (by omega)
          rw [ej] at h1
          exact cmpL_trans h1 (hl _ (by omega) (List.getElem?_eq_getElem hb))
        · omega
    · cases hj
  have B : ∀ b ∈ K.drop at_, cmpL n.xs b.xs = -1 := by
    intro b hb
    obtain ⟨j, hj⟩ := List.mem_iff_getElem?.1 hb
    rw [List.getElem?_drop] at hj
    obtain ⟨hjl, ej⟩ := List.getElem?_eq_some_iff.1 hj
    have ha : at_ < K.length := by omega
    have h0 := hr _ (List.getElem?_eq_getElem ha)
    by_cases hj0 : j = 0
    · subst hj0
      simp only [Nat.add_zero] at ej
      rw [ej] at h0; exact h0
    · have h1 := hp at_ (at_ + j) ha hjl (by omega)
      rw [ej] at h1
      exact cmpL_trans h0 h1
  refine List.pairwise_append.2 ⟨List.pairwise_append.2 ⟨p1, List.pairwise_singleton _ _, fun a ha b hb => ?_⟩, p2, fun a ha b hb => ?_⟩
  · rw [List.mem_singleton.1 hb]; exact A a ha
  · rcases List.mem_append.1 ha with ha | ha
    · exact p3 a ha b hb
    · rw [List.mem_singleton.1 ha]; exact B b hb

theorem LabelInserts_ok {u pl : IV} (hu : u.Ok w) (hpl : pl.Ok w) : callJ Try.prog fn_law12_LabelInserts #[.slice u.p u.l u.c, .slice pl.p pl.l pl.c] w [.one .bool] fun r w' => r = true ∧ Chg No w w' := by
  refine c_law12_LabelInserts ?_
  unfold VC_law12_LabelInserts
  have fu := hu.fits
  have fp := hpl.fits
  have ul := hu.is.len
  refine awake12_ok fun w1 hc1 => ?_
  refine condB_i (fun h => by simp at h) fun _ => ?_
  refine Check_ok (hu.is.chg hc1 (off_no _)) (by omega) fun w2 hc2 => ?_
  have c2 := hc1.trans0 hc2
  refine condB_ne (fun _ => ⟨rfl, c2⟩) (fun hlu => ?_)
  refine withJ_i fun J5 hJ5 => ?_
  have k5 : ∀ kp kl kc w3 K, Chg No w2 w3 → Sl w3 kp kl 1 (rows IV.cells K) → (∀ k ∈ K, KOk w3 u.xs k) → Rise K → (u.xs = [] → 0 < pl.l → K ≠ []) → kl ≤ 1000 → J5 kp kl kc w3 := by
    intro kp kl kc w3 K hc3 hsl hK hrise hne hkl; subst hJ5
    have hlen := hsl.row (even_iv K) (by decide)
    have hp := List.pairwise_iff_getElem.1 hrise
    refine ⟨fun lp ll lc x w4 t => ∃ i : Nat, x = i ∧ i ≤ kl ∧ t = kl - i ∧ Chg No w3 w4 ∧ (0 < i → ∃ k, K[i - 1]? = some k ∧ Bytes w4 lp ll (lab k.xs).1), ⟨_, 0, rfl, Nat.zero_le _, rfl, Chg.refl _ _, fun h => by omega⟩, ?_⟩
    rintro lp ll lc x w4 t ⟨i, rfl, hi, rfl, hc4, hlast⟩
    refine condB_d (fun hlt => ?_) (fun hge => ?_)
    · refine idx_rows (hsl.chg hc4 (off_no _)) (even_iv K) (by decide) (by omega) hlt fun a k ha hk hcell => ?_
      rw [Int.toNat_natCast] at hk
      refine ldS_i (cellsAt_head hcell) ?_
      have hk4 := (hK k (List.mem_of_getElem? hk)).chg hc4
      have hlk := kid_lab hk4.kid
      refine Bytes_ok hk4.is (by have := hk4.len; omega) fun q5 m5 d5 w5 hr5 hf5 hc5 => ?_
      rw [hlk]
      refine withJ_i fun J110 hJ110 => ?_
      have k110 : ∀ w6, Chg No w5 w6 → J110 false w6 := by
        intro w6 hc6; subst hJ110
        refine condB_i (fun h => by cases h) fun _ => ?_
        refine ⟨_, by omega, i + 1, by rw [w64_of] <;> omega, by omega, rfl, (hc4.trans0 hc5).trans0 hc6, fun _ => ⟨k, hk, hr5.bytes.chg hc6 (off_no _)⟩⟩
      clear hJ110
      have fin : callJ Try.prog fn_label_Up #[.slice k.p k.l k.c] w5 [.one .slice] fun (r106p : Option Addr) (r106l : Nat) (r106c : Nat) (w7 : World) =>
          callJ Try.prog fn_ref05_SameInts #[.slice r106p r106l r106c, .slice u.p u.l u.c] w7 [.one .bool] fun (r108 : Bool) (w8 : World) => J110 (!r108) w8 := by
        refine Up_ok (hk4.is.chg hc5 (off_no _)) (by have := hk4.len; omega) hk4.cap fun q7 m7 d7 w7 hr7 hf7 hc7 => ?_
        have hup : upL k.xs = u.xs := (of_decide_eq_true hk4.kid).2.2
        rw [hup] at hr7
        have l7 := (row_ints hr7).len
        refine SameInts_ok (row_ints hr7) (hu.is.chg ((((c2.trans0 hc3).trans0 hc4).trans0 hc5).trans0 hc7) (off_no _)) (by omega) fun w8 hc8 => ?_
        rw [decide_eq_true rfl]
        exact k110 w8 (hc7.trans0 hc8)
      refine condB_ne (fun h => absurd rfl h) fun _ => ?_
      refine condB_d (fun hpos => ?_) (fun _ => fin)
      obtain ⟨k0, hk0, hB0⟩ := hlast (by omega)
      refine bytesOf_i (hB0.chg hc5 (off_no _)) (bytesOf_i hr5.bytes ?_)
      rw [ByteArray.toList_mk, ByteArray.toList_mk]
      obtain ⟨g1, e1⟩ := List.getElem?_eq_some_iff.1 hk0
      obtain ⟨g2, e2⟩ := List.getElem?_eq_some_iff.1 hk
      have hless := hp (i - 1) i g1 g2 (by omega)
      rw [e1, e2] at hless
      rw [lab_less (kid_lab (hK k0 (List.mem_of_getElem? hk0)).kid) hlk hless]
      exact condB_i (fun h => by cases h) fun _ => fin
    · refine withJ_i fun J4 hJ4 => ?_
      have k4 : J4 true w4 := by subst hJ4; exact ⟨rfl, (c2.trans0 hc3).trans0 hc4⟩
      clear hJ4
      refine condB_d (fun _ => k4) (fun h0 => ?_)
      refine condB_eq (fun _ => k4) (fun hp0 => ?_)
      have hu0 : u.xs ≠ [] := fun e => hne e (by omega) (List.eq_nil_of_length_eq_zero (by omega))
      have := List.length_pos_iff.2 hu0
      rw [show decide (((u.l : Nat) : Int) > 0) = true from decide_eq_true (by omega)]
      exact k4
  clear hJ5
  refine ⟨fun kp kl kc x w12 t => ∃ (i : Nat) (K : List IV), x = i ∧ i ≤ pl.l ∧ t = pl.l - i ∧ Chg No w2 w12 ∧ Sl w12 kp kl 1 (rows IV.cells K) ∧ (kp = none → kl = 0) ∧ kl ≤ kc ∧ kl ≤ min i 120 ∧ (∀ k ∈ K, KOk w12 u.xs k) ∧ Rise K ∧ (u.xs = [] → 0 < i → K ≠ []),
    ⟨_, 0, [], rfl, Nat.zero_le _, rfl, Chg.refl _ _, Sl.nil _ _ _, fun _ => rfl, Nat.le_refl _, by simp, by simp, List.Pairwise.nil, fun _ h => by omega⟩, ?_⟩
  rintro kp kl kc x w12 t ⟨i, K, rfl, hi, rfl, hc12, hsl, hknil, hkcap, hkl, hK, hrise, hne⟩
  have hlen := hsl.row (even_iv K) (by decide)
  have c12 := c2.trans0 hc12
  refine condB_d (fun hlt => ?_) (fun hge => k5 kp kl kc w12 K hc12 hsl hK hrise (fun e h => hne e (by omega)) (by omega))
  refine withJ_i fun J51 hJ51 => ?_
  have k51 : ∀ kp' kl' kc' w13 K', Chg No w12 w13 → Sl w13 kp' kl' 1 (rows IV.cells K') → (kp' = none → kl' = 0) → kl' ≤ kc' → kl' ≤ min (i + 1) 120 → (∀ k ∈ K', KOk w13 u.xs k) → Rise K' → (u.xs = [] → K' ≠ []) → J51 kp' kl' kc' w13 := by
    intro kp' kl' kc' w13 K' h1 h2 h3 h4 h5 h6 h7 h8; subst hJ51
    exact ⟨_, by omega, i + 1, K', by rw [w64_of] <;> omega, by omega, rfl, hc12.trans0 h1, h2, h3, h4, h5, h6, h7, fun e _ => h8 e⟩
  clear hJ51
  refine int_i (hpl.is.chg c12 (off_no _)) (by omega) hlt fun v hv => ?_
  refine condB_d (fun hbig => ?_) (fun hsm => ?_)
  · exact k5 kp kl kc w12 K hc12 hsl hK hrise (fun e _ => hne e (by omega)) (by omega)
  have e1 : w64 (((kl : Nat) : Int) + 1) = ((kl + 1 : Nat) : Int) := by rw [w64_of] <;> omega
  rw [e1]
  obtain ⟨at_, eat, hat, hnz⟩ := placeOf (at_ := v) (n := kl + 1) (by omega) (by omega)
  rw [eat]
  refine ⟨hnz, ?_⟩
  refine withJ_i fun J9 hJ9 => ?_
  -- the left neighbour
  have k9 : ∀ L : IV, KOk w12 u.xs L ∨ (L.p = none ∧ L.l = 0 ∧ L.c = 0 ∧ L.xs = []) → (at_ ≠ 0 → K[at_ - 1]? = some L) → (at_ = 0 → L.xs = []) → J9 L.p L.l L.c w12 := by
    intro L hL hL1 hL0; subst hJ9
    refine withJ_i fun J10 hJ10 => ?_
    have k10 : ∀ R : IV, KOk w12 u.xs R ∨ (R.p = none ∧ R.l = 0 ∧ R.c = 0 ∧ R.xs = []) → (at_ < kl → K[at_]? = some R) → (kl ≤ at_ → R.xs = []) → J10 R.p R.l R.c w12 := by
      intro R hR hR1 hR0; subst hJ10
      have get : ∀ X : IV, KOk w12 u.xs X ∨ (X.p = none ∧ X.l = 0 ∧ X.c = 0 ∧ X.xs = []) → Ints w12 X.p X.l X.xs ∧ X.l ≤ 480 ∧ X.l ≤ X.c ∧ (X.xs ≠ [] → kidB u.xs X.xs = true) := by
        rintro X (h | ⟨a1, a2, a3, a4⟩)
        · exact ⟨h.is, h.len, h.cap, fun _ => h.kid⟩
        · exact ⟨by rw [a1, a2, a4]; exact Sl.nil _ _ _, by omega, by omega, fun h => absurd a4 h⟩
      obtain ⟨gL1, gL2, gL3, gL4⟩ := get L hL
      obtain ⟨gR1, gR2, gR3, gR4⟩ := get R hR
      refine Between_ok (hu.is.chg c12 (off_no _)) gL1 gR1 hu.nil (by omega) (by omega) (by omega) hu.cap gL3 gR3 fun q16 m16 d16 w16 hr16 hf16 hc16 => ?_
      have hp := List.pairwise_iff_getElem.1 hrise
      have harg : argB u.xs L.xs R.xs = false := by
        refine decide_eq_false ?_
        rintro (h | h | h | h)
        · exact h hlu
        · rw [gL4 h.1] at h; cases h.2
        · rw [gR4 h.1] at h; cases h.2
        · obtain ⟨h1, h2, h3⟩ := h
          have a0 : at_ ≠ 0 := fun e => h1 (hL0 e)
          have ak : at_ < kl := by
            rcases Nat.lt_or_ge at_ kl with h | h
            · exact h
            · exact absurd (hR0 h) h2
          obtain ⟨g1, e1⟩ := List.getElem?_eq_some_iff.1 (hL1 a0)
          obtain ⟨g2, e2⟩ := List.getElem?_eq_some_iff.1 (hR1 ak)
          have := hp (at_ - 1) at_ g1 g2 (by omega)
          rw [e1, e2] at this
          exact h3 this
      refine condB_ne (fun herr => ?_) (fun hok => ?_)
      · rcases bet_cases u.xs L.xs R.xs with e | e | e
        · exact absurd e herr
        · unfold betL at e
          rw [harg, if_neg (by simp)] at e
          split at e <;> simp at e
        · rw [e]
          refine condB_ne (fun h => absurd rfl h) fun _ => ?_
          refine k51 kp kl kc w16 K hc16 (hsl.chg hc16 (off_no _)) hknil hkcap (by omega) (fun k hk => (hK k hk).chg hc16) hrise (fun e0 => ?_)
          -- of the empty label's first kid there is one
          intro eK
          have kl0 : kl = 0 := by rw [← hlen, eK]; rfl
          have : L.xs = [] := hL0 (by omega)
          have hR : R.xs = [] := hR0 (by omega)
          rw [e0, this, hR] at e
          revert e; decide +kernel
      · generalize hN : (betL u.xs L.xs R.xs).1 = n at hr16
        have hb : betL u.xs L.xs R.xs = (n, 0) := Prod.ext hN hok
        obtain ⟨b1, b2, b3, b4, b5, b6, b7⟩ := bet_ok hb
        have n480 := lab_len b1
        have hn16 := (row_ints hr16).len
        have hcap16 := hr16.le
        -- what is handed on
        have slA : ∀ w', Chg No w12 w' → ∀ q', Sl w12 q' (at_ - 0) 1 (((rows IV.cells K).drop (0 * 1)).take ((at_ - 0) * 1)) → Sl w' q' at_ 1 (rows IV.cells (K.take at_)) := by
          intro w' hc' q' h
          have := h.chg hc' (off_no _)
          rw [Nat.zero_mul, List.drop_zero, Nat.sub_zero, rows_take (even_iv K)] at this
          exact this
        have slB : ∀ w', Chg No w12 w' → ∀ q', Sl w12 q' (kl - at_) 1 (((rows IV.cells K).drop (at_ * 1)).take ((kl - at_) * 1)) → Sl w' q' (kl - at_) 1 (rows IV.cells (K.drop at_)) := by
          intro w' hc' q' h
          have := h.chg hc' (off_no _)
          rw [rows_drop (even_iv K), rows_take (k := 1) (fun _ _ => rfl), List.take_of_length_le (by rw [List.length_drop]; omega)] at this
          exact this
        have fin : ∀ p' c' w', Row w' T_sl_int 1 p' (0 + at_ + 1 + (kl - at_)) c' (([] ++ rows IV.cells (K.take at_)) ++ [Value.slice q16 m16 d16] ++ rows IV.cells (K.drop at_)) → Chg No w16 w' → J51 p' (0 + at_ + 1 + (kl - at_)) c' w' := by
          intro p' c' w' hr hc
          have hc' := hc16.trans0 hc
          have e : ([] ++ rows IV.cells (K.take at_)) ++ [Value.slice q16 m16 d16] ++ rows IV.cells (K.drop at_) = rows IV.cells (K.take at_ ++ [⟨q16, m16, d16, n⟩] ++ K.drop at_) := by
            rw [rows_append, rows_append]; rfl
          rw [e] at hr
          refine k51 p' _ c' w' _ hc' hr.sl hr.none0 hr.le.1 (by omega) (fun k hk => ?_) (rise_insert (by omega) hrise (fun k h0 hk => ?_) (fun k hk => ?_)) (fun _ => by simp)
          · rcases List.mem_append.1 hk with hk | hk
            · rcases List.mem_append.1 hk with hk | hk
              · exact (hK k (List.mem_of_mem_take hk)).chg hc'
              · rw [List.mem_singleton.1 hk]
                exact ⟨(row_ints hr16).chg hc (off_no _), hr16.none0, hcap16.1, by simp only; omega, b5⟩
            · exact (hK k (List.mem_of_mem_drop hk)).chg hc'
          · rw [hL1 h0] at hk; cases hk
            refine b6 (fun e => ?_)
            rcases hL with h | ⟨_, _, _, _⟩
            · exact (of_decide_eq_true h.kid).1 e
            · have := (hK L (List.mem_of_getElem? (hL1 h0))).kid
              exact (of_decide_eq_true this).1 e
          · have ak : at_ < kl := by rw [← hlen]; exact (List.getElem?_eq_some_iff.1 hk).1
            rw [hR1 ak] at hk; cases hk
            refine b7 (fun e => ?_)
            have := (hK R (List.mem_of_getElem? (hR1 ak))).kid
            exact (of_decide_eq_true this).1 e
        refine slS_sl (i := 0) (j := at_) hsl rfl rfl (Nat.zero_le _) (by omega) hkcap fun q69 h69 _ => ?_
        refine slS_sl (i := at_) (j := kl) hsl rfl rfl (by omega) (Nat.le_refl _) hkcap fun q76 h76 _ => ?_
        rw [Nat.sub_zero]
        have n69 : q69 = none → at_ = 0 := fun e => by
          by_cases h : at_ - 0 = 0
          · omega
          · obtain ⟨a, ha, _⟩ := h69.at h; rw [e] at ha; cases ha
        have n76 : q76 = none → kl - at_ = 0 := fun e => by
          by_cases h : kl - at_ = 0
          · exact h
          · obtain ⟨a, ha, _⟩ := h76.at h; rw [e] at ha; cases ha
        have cd : Chg No w16 w16.drew := (Chg.refl _ _).drew
        have cd12 := hc16.trans0 cd
        have o1 : one1 [Value.slice q16 m16 d16] := one1_cons rfl one1_nil
        refine ⟨?_, ?_⟩
        · refine newRow (sz := 1) (n := 0) (cs := []) rfl (by decide) fun b66 w17 hr66 hb66 hc17 => ⟨?_, ?_⟩
          · refine appS (w0 := w16.drew) hr66 (slA _ (cd12.trans0 hc17) _ h69) (one1_iv _) n69 (by omega) (by rintro a ⟨⟩; exact hb66) hc17 fun p18 c18 w18 hr18 hf18 hc18 hi18 => ?_
            refine newRow (sz := 1) (n := 1) rfl (by decide) fun b72 w19 hr72 hb72 hc19 => ?_
            refine appS (hr18.chg hc19 (off_no _)) hr72.sl o1 (by simp) (by omega) hf18 (hc18.trans0 hc19) fun p20 c20 w20 hr20 hf20 hc20 hi20 => ?_
            refine appS hr20 (slB _ (cd12.trans0 hc20) _ h76) (one1_iv _) n76 (by omega) hf20 hc20 fun p21 c21 w21 hr21 hf21 hc21 hi21 => ?_
            exact fin p21 c21 w21 hr21 (cd.trans0 hc21)
          · refine newRow (sz := 1) (n := 1) rfl (by decide) fun b72 w22 hr72 hb72 hc22 => ?_
            refine appS (w0 := w16.drew) (hr66.chg hc22 (off_no _)) (slA _ (cd12.trans0 (hc17.trans0 hc22)) _ h69) (one1_iv _) n69 (by omega) (by rintro a ⟨⟩; exact hb66) (hc17.trans0 hc22) fun p18 c18 w18 hr18 hf18 hc18 hi18 => ?_
            have h72 : Sl w18 (some ⟨b72, 0, none⟩) 1 1 [Value.slice q16 m16 d16] := by
              exact (hr72.chg hi18 (by
                rintro a ⟨⟩ ⟨z, ⟨⟩, e⟩
                have h1 := hr66.lt _ rfl
                simp only at h1 e hb72
                omega)).sl
            refine appS hr18 h72 o1 (by simp) (by omega) hf18 hc18 fun p20 c20 w20 hr20 hf20 hc20 hi20 => ?_
            refine appS hr20 (slB _ (cd12.trans0 hc20) _ h76) (one1_iv _) n76 (by omega) hf20 hc20 fun p21 c21 w21 hr21 hf21 hc21 hi21 => ?_
            exact fin p21 c21 w21 hr21 (cd.trans0 hc21)
        · refine newRow (sz := 1) (n := 1) rfl (by decide) fun b72 w26 hr72 hb72 hc26 => ?_
          refine newRow (sz := 1) (n := 0) (cs := []) rfl (by decide) fun b66 w27 hr66 hb66 hc27 => ?_
          have f66 : fresh w26 (some (⟨b66, 0, none⟩ : Addr)) := by rintro a ⟨⟩; exact hb66
          refine appS (w0 := w26) hr66 (slA _ (cd12.trans0 (hc26.trans0 hc27)) _ h69) (one1_iv _) n69 (by omega) f66 hc27 fun p18 c18 w18 hr18 hf18 hc18 hi18 => ?_
          refine appS hr18 (hr72.chg hc18 (off_no _)).sl o1 (by simp) (by omega) hf18 hc18 fun p20 c20 w20 hr20 hf20 hc20 hi20 => ?_
          refine appS hr20 (slB _ (cd12.trans0 (hc26.trans0 hc20)) _ h76) (one1_iv _) n76 (by omega) hf20 hc20 fun p21 c21 w21 hr21 hf21 hc21 hi21 => ?_
          exact fin p21 c21 w21 hr21 ((cd.trans0 hc26).trans0 hc21)
    clear hJ10
    refine condB_d (fun hlt2 => ?_) (fun hge2 => k10 ⟨none, 0, 0, []⟩ (.inr ⟨rfl, rfl, rfl, rfl⟩) (fun h => absurd (by omega) hge2) (fun _ => rfl))
    refine idx_rows hsl (even_iv K) (by decide) (by omega) hlt2 fun a k ha hk hcell => ?_
    rw [Int.toNat_natCast] at hk
    exact ldS_i (cellsAt_head hcell) (k10 k (.inl (hK k (List.mem_of_getElem? hk))) (fun _ => hk) (fun h => by omega))
  clear hJ9
  refine condB_d (fun hpos => ?_) (fun h0 => k9 ⟨none, 0, 0, []⟩ (.inr ⟨rfl, rfl, rfl, rfl⟩) (fun h => absurd (by omega) h0) (fun _ => rfl))
  have e2 : w64 ((at_ : Int) - 1) = ((at_ - 1 : Nat) : Int) := by rw [w64_of] <;> omega
  rw [e2]
  refine idx_rows hsl (even_iv K) (by decide) (by omega) (by omega) fun a k ha hk hcell => ?_
  rw [Int.toNat_natCast] at hk
  exact ldS_i (cellsAt_head hcell) (k9 k (.inl (hK k (List.mem_of_getElem? hk))) (fun _ => hk) (fun h => by omega))
end
end Go.Proofs.Ytjjmnfpdkgnmoaa

