/-
  Labels: the document's order, parents and new labels.
-/
import Derived.Test.YtjjmnfpdkgnmoaaLabS
set_option linter.unusedVariables false
set_option linter.unusedSimpArgs false
namespace Go.Proofs.Ytjjmnfpdkgnmoaa
open Go Go.Vc

section
variable {w : World}
theorem RCompare_ok {p q : Option Addr} {l c l2 c2 : Nat} {xs ys : List Int} {J : Int → World → Prop} (h : Ints w p l xs) (h2 : Ints w q l2 ys) (hm : l ≤ 140737488351232) (k : ∀ w', Chg No w w' → J (cmpL xs ys) w') :
    callJ Try.prog fn_ref12_Compare #[.slice p l c, .slice q l2 c2] w [.one (.int .i64)] J := by
  refine c_ref12_Compare ?_
  unfold VC_ref12_Compare
  have hl := h.len
  have hl2 := h2.len
  refine ⟨fun x w' t => ∃ i : Nat, x = i ∧ i ≤ l ∧ t = l - i ∧ Chg No w w' ∧ i ≤ l2 ∧ cmpL (xs.drop i) (ys.drop i) = cmpL xs ys, ⟨_, 0, rfl, Nat.zero_le _, rfl, Chg.refl _ _, Nat.zero_le _, rfl⟩, ?_⟩
  rintro x w1 t ⟨i, rfl, hi, rfl, hc1, hi2, hcm⟩
  refine withJ_i fun J15 hJ15 => ?_
  have k15 : ∀ b, (b = true ↔ i < l ∧ i < l2) → J15 b w1 := by
    intro b hb; subst hJ15
    refine condB_i (fun hx => ?_) (fun hx => ?_)
    · obtain ⟨g1, g2⟩ := hb.1 hx
      have hcd := hc1.drew
      have hcdd := hcd.drew
      refine int_i (h.chg hcd (off_no _)) (by omega) (by omega) fun a ha => ?_
      refine int_i (h2.chg hcd (off_no _)) (by omega) (by omega) fun b hb => ?_
      rw [Int.toNat_natCast] at ha hb
      rw [cmpL_at ha hb] at hcm
      refine condB_d (fun h1 => by rw [if_pos h1] at hcm; rw [hcm]; exact k _ hcd) (fun h1 => ?_)
      rw [if_neg h1] at hcm
      refine int_i (h.chg hcdd (off_no _)) (by omega) (by omega) fun a' ha' => ?_
      refine int_i (h2.chg hcdd (off_no _)) (by omega) (by omega) fun b' hb' => ?_
      rw [Int.toNat_natCast] at ha' hb'
      rw [ha] at ha'; cases ha'
      rw [hb] at hb'; cases hb'
      refine condB_d (fun h3 => by rw [if_pos h3] at hcm; rw [hcm]; exact k _ hcdd) (fun h3 => ?_)
      rw [if_neg h3] at hcm
      exact ⟨_, by omega, i + 1, by rw [w64_of] <;> omega, by omega, rfl, hcdd, by omega, hcm⟩
    · have hno : ¬ (i < l ∧ i < l2) := fun e => by rw [hb.2 e] at hx; cases hx
      refine condB_d (fun hlt => ?_) (fun hge => ?_)
      · have h1 : i < ys.length := by omega
        rw [List.drop_of_length_le (by omega), List.drop_eq_getElem_cons h1] at hcm
        have := k w1 hc1
        rw [← hcm] at this; exact this
      · refine condB_d (fun hgt => ?_) (fun hle => ?_)
        · have h1 : i < xs.length := by omega
          rw [show ys.drop i = [] from List.drop_of_length_le (by omega), List.drop_eq_getElem_cons h1] at hcm
          have := k w1 hc1
          rw [← hcm] at this; exact this
        · rw [List.drop_of_length_le (by omega), List.drop_of_length_le (by omega)] at hcm
          have := k w1 hc1
          rw [← hcm] at this; exact this
  clear hJ15
  refine condB_d (fun h1 => k15 _ ⟨fun h => ⟨by omega, by have := of_decide_eq_true h; omega⟩, fun h => decide_eq_true (by omega)⟩) (fun h1 => k15 false ⟨fun h => (by cases h), fun h => by omega⟩)
theorem RLevel_ok {p : Option Addr} {l c : Nat} {xs : List Int} {J : Int → World → Prop} (h : Ints w p l xs) (hm : l ≤ 140737488351232) (k : J ((levL xs : Nat) : Int) w) :
    callJ Try.prog fn_ref12_Level #[.slice p l c] w [.one (.int .i64)] J := by
  refine c_ref12_Level ?_
  unfold VC_ref12_Level
  have hl := h.len
  refine ⟨fun n x w' t => ∃ i : Nat, x = i ∧ i ≤ l ∧ t = l - i ∧ w' = w ∧ n = ((levL (xs.take i) : Nat) : Int) ∧ levL (xs.take i) ≤ i, ⟨_, 0, rfl, Nat.zero_le _, rfl, rfl, by simp [levL], by simp [levL]⟩, ?_⟩
  rintro n x w' t ⟨i, rfl, hi, rfl, rfl, rfl, hle⟩
  refine condB_d (fun hlt => ?_) (fun hge => ?_)
  · refine withJ_i fun J3 hJ3 => ?_
    refine int_i h (by omega) hlt fun a ha => ?_
    rw [Int.toNat_natCast] at ha
    have e : levL (xs.take (i + 1)) = levL (xs.take i) + (if oddZ a = true then 1 else 0) := by
      unfold levL; rw [take_snoc ha, List.countP_append, List.countP_cons, List.countP_nil, Nat.zero_add]
    refine ROdd_ok ?_
    subst hJ3
    refine condB_i (fun ho => ?_) (fun ho => ?_)
    · rw [if_pos ho] at e
      exact ⟨_, by omega, i + 1, by rw [w64_of] <;> omega, by omega, rfl, rfl, by rw [w64_of] <;> omega, by omega⟩
    · rw [if_neg (by simp [ho])] at e
      exact ⟨_, by omega, i + 1, by rw [w64_of] <;> omega, by omega, rfl, rfl, by omega, by omega⟩
  · have : i = l := by omega
    subst this
    rw [List.take_of_length_le (by omega)]
    exact k
theorem cutE_pre {xs : List Int} : ∃ j, j ≤ xs.length ∧ cutE xs = xs.take j := by
  rcases cutE_cases xs with ⟨_, e⟩ | ⟨a, v, e', h1, _, _, e⟩
  · exact ⟨0, Nat.zero_le _, by rw [e]; rfl⟩
  · refine ⟨a.length + 1, by rw [h1]; simp, ?_⟩
    rw [e, h1, List.take_append, List.take_of_length_le (by omega)]
    simp
theorem RUp_ok {p : Option Addr} {l c : Nat} {xs : List Int} {J : Option Addr → Nat → Nat → World → Prop} (h : Ints w p l xs) (hp : p = none → l = 0) (hm : l ≤ 17592186043904) (k : ∀ q m d w', Ints w' q m (upL xs) → fresh w q → Chg No w w' → J q m d w') :
    callJ Try.prog fn_ref12_Up #[.slice p l c] w [.one .slice] J := by
  refine c_ref12_Up ?_
  unfold VC_ref12_Up
  have hl := h.len
  refine twin_row slT_int h (one1_ints xs) hp (by omega) (by simp only [maxLen]; omega) fun p2 c2 w2 hr2 hf2 hc2 => ?_
  have hle := hr2.le
  have hI : Ints w2 p2 l xs := hr2.sl
  have hup : upL xs = cutE (xs.take (l - 1)) := by unfold upL; rw [List.dropLast_eq_take, hl]
  -- a prefix of it
  have pre : ∀ j, j ≤ l → Ints w2 p2 j (xs.take j) := by
    intro j hj
    refine ⟨by rw [ints_length, List.length_take]; omega, ?_⟩
    by_cases h0 : j = 0
    · exact .inl h0
    · obtain ⟨a, ha, hca⟩ := hI.at (by omega)
      refine .inr ⟨a, ha, ?_⟩
      have := cellsAt_take j hca
      unfold ints at this ⊢
      rwa [← List.map_take] at this
  refine withJ_i fun J3 hJ3 => ?_
  have k3 : ∀ j, j ≤ l → upL xs = cutE (xs.take j) → J3 p2 j c2 w2 := by
    intro j hj hcut; subst hJ3
    refine ⟨fun q m d w' t => q = p2 ∧ m ≤ l ∧ d = c2 ∧ m = t ∧ w' = w2 ∧ upL xs = cutE (xs.take m), ⟨_, rfl, hj, rfl, rfl, rfl, hcut⟩, ?_⟩
    rintro q m d w4 t ⟨rfl, hml, rfl, rfl, rfl, hcm⟩
    refine withJ_i fun J27 hJ27 => ?_
    have k27 : ∀ b, (b = true → 0 < m ∧ upL xs = cutE (xs.take (m - 1))) → (b = false → upL xs = xs.take m) → J27 b w4 := by
      intro b h1 h0; subst hJ27
      refine condB_i (fun hb => ?_) (fun hb => ?_)
      · obtain ⟨g1, g2⟩ := h1 hb
        have e1 : w64 ((m : Int) - 1) = ((m - 1 : Nat) : Int) := by rw [w64_of] <;> omega
        rw [e1]
        refine slS_pre (hr2.at0 (by omega)) (by omega) (by omega) ?_
        exact ⟨m - 1, by omega, rfl, by omega, rfl, rfl, rfl, g2⟩
      · refine k q m d w4 ?_ hf2 hc2
        rw [h0 hb]; exact pre m hml
    clear hJ27
    refine condB_d (fun hpos => ?_) (fun hpos => ?_)
    · have e1 : w64 ((m : Int) - 1) = ((m - 1 : Nat) : Int) := by rw [w64_of] <;> omega
      rw [e1]
      refine int_i (pre m hml) (by omega) (by omega) fun a ha => ?_
      rw [Int.toNat_natCast, List.getElem?_take, if_pos (by omega)] at ha
      have hs := take_snoc ha
      rw [show m - 1 + 1 = m by omega] at hs
      refine ROdd_ok (k27 _ (fun hb => ⟨by omega, ?_⟩) (fun hb => ?_))
      · rw [hcm, hs]; exact cutE_snoc_even (by simpa using hb)
      · rw [hcm, hs]; exact cutE_snoc_odd (by simpa using hb)
    · have hi0 : m = 0 := by omega
      subst hi0
      exact k27 false (fun hb => by cases hb) (fun _ => by rw [hcm]; rfl)
  clear hJ3
  refine condB_d (fun hpos => ?_) (fun hpos => ?_)
  · have e1 : w64 ((l : Int) - 1) = ((l - 1 : Nat) : Int) := by rw [w64_of] <;> omega
    rw [e1]
    exact slS_pre (hr2.at0 (by omega)) (by omega) (by omega) (k3 (l - 1) (by omega) hup)
  · have : l = 0 := by omega
    subst this
    exact k3 0 (Nat.le_refl _) (by rw [hup])
theorem RAbove_ok {p q : Option Addr} {l c l2 c2 : Nat} {xs ys : List Int} {J : Bool → World → Prop} (h : Ints w p l xs) (h2 : Ints w q l2 ys) (hm : l ≤ 140737488351232) (k : ∀ w', Chg No w w' → J (aboveB xs ys) w') :
    callJ Try.prog fn_ref12_Above #[.slice p l c, .slice q l2 c2] w [.one .bool] J := by
  refine c_ref12_Above ?_
  unfold VC_ref12_Above
  have hl := h.len
  have hl2 := h2.len
  refine condB_d (fun hle => ?_) (fun hgt => ?_)
  · have e : aboveB xs ys = false := decide_eq_false fun h => by omega
    rw [e] at k; exact k w (Chg.refl _ _)
  refine ⟨fun x w' t => ∃ i : Nat, x = i ∧ i ≤ l ∧ t = l - i ∧ Chg No w w' ∧ xs.take i = ys.take i, ⟨_, 0, rfl, Nat.zero_le _, rfl, Chg.refl _ _, by simp⟩, ?_⟩
  rintro x w' t ⟨i, rfl, hi, rfl, hc, htk⟩
  have hcd := hc.drew
  refine condB_d (fun hlt => ?_) (fun hge => ?_)
  · refine int_i (h.chg hcd (off_no _)) (by omega) hlt fun a ha => ?_
    refine int_i (h2.chg hcd (off_no _)) (by omega) (by omega) fun b hb => ?_
    rw [Int.toNat_natCast] at ha hb
    refine condB_ne (fun hne => ?_) (fun he => ?_)
    · have e : aboveB xs ys = false := decide_eq_false fun e => hne (by
        rw [← e.2, List.getElem?_take, if_pos (by omega), hb] at ha; cases ha; rfl)
      rw [e] at k; exact k _ hcd
    · refine ⟨_, by omega, i + 1, by rw [w64_of] <;> omega, by omega, rfl, hcd, ?_⟩
      rw [take_snoc ha, take_snoc hb, htk, he]
  · have : i = l := by omega
    subst this
    rw [List.take_of_length_le (by omega)] at htk
    have e : aboveB xs ys = true := decide_eq_true ⟨by omega, by rw [hl]; exact htk.symm⟩
    rw [e] at k; exact k w' hc
theorem RRight_ok {p : Option Addr} {l c : Nat} {xs : List Int} {J : Bool → World → Prop} (h : Ints w p l xs) (hm : l ≤ 140737488351232) (K : ∀ w', Chg No w w' → J (decide ((lab xs).2 = 0)) w') : callJ Try.prog fn_ref12_right #[.slice p l c] w [.one .bool] J := by
  refine c_ref12_right (RBytes_ok h hm fun _ _ _ w' _ _ hc => ?_)
  have e : ((lab xs).2 == 0) = decide ((lab xs).2 = 0) := by by_cases h : (lab xs).2 = 0 <;> simp [h]
  show J ((lab xs).2 == 0) w'
  rw [e]; exact K w' hc
theorem RKid_ok {p q : Option Addr} {l c l2 c2 : Nat} {up xs : List Int} {J : Bool → World → Prop} (h : Ints w p l up) (h2 : Ints w q l2 xs) (hq : q = none → l2 = 0) (hm : l2 ≤ 17592186043904) (k : ∀ w', Chg No w w' → J (kidB up xs) w') :
    callJ Try.prog fn_ref12_kid #[.slice p l c, .slice q l2 c2] w [.one .bool] J := by
  refine c_ref12_kid ?_
  unfold VC_ref12_kid
  have hl2 := h2.len
  refine withJ_i fun J4 hJ4 => ?_
  subst hJ4
  refine condB_d (fun hgt => ?_) (fun hle => ?_)
  · refine RRight_ok h2 (by omega) fun w1 hc1 => ?_
    refine condB_d (fun he => ?_) (fun hne => ?_)
    · refine RUp_ok (h2.chg hc1 (off_no _)) hq hm fun q' m' d' w2 hI2 hf2 hc2 => ?_
      have hmu : m' ≤ l2 := by
        have h3 := hI2.len
        unfold upL at h3
        obtain ⟨j, hj, e⟩ := cutE_pre (xs := xs.dropLast)
        rw [e, List.length_take, List.length_dropLast] at h3
        omega
      refine RCompare_ok hI2 (h.chg (hc1.trans0 hc2) (off_no _)) (by omega) fun w3 hc3 => ?_
      have e : (cmpL (upL xs) up == 0) = kidB up xs := by
        unfold kidB
        rw [Bool.eq_iff_iff, beq_iff_eq, decide_eq_true_eq]
        exact ⟨fun e => ⟨by intro e0; rw [e0] at hl2; simp at hl2; omega, he, cmpL_zero e⟩, fun e => by rw [e.2.2, cmpL_refl]⟩
      rw [e]
      exact k w3 ((hc1.trans0 hc2).trans0 hc3)
    · have e : kidB up xs = false := decide_eq_false fun h => hne h.2.1
      rw [e] at k; exact k w1 hc1
  · have e : kidB up xs = false := decide_eq_false fun h => h.1 (List.eq_nil_of_length_eq_zero (by omega))
    rw [e] at k; exact k w (Chg.refl _ _)
theorem ROn_ok {n : Int} {J : Int → World → Prop} (h : Mid n) (k : J (behindZ n) w) : callJ Try.prog fn_ref12_on #[.int .i64 n, .int .i64 1] w [.one (.int .i64)] J := by
  refine c_ref12_on ?_
  unfold VC_ref12_on Mid at *
  refine ROdd_ok ?_
  unfold behindZ at k
  rw [show w64 ((2 : Int) * 1) = 2 from by rw [w64_of] <;> decide]
  refine condB_i (fun ho => ?_) (fun ho => ?_)
  · rw [if_pos ho] at k; rw [w64_of (by omega) (by omega)]; exact k
  · rw [if_neg (by simp [ho])] at k; rw [w64_of (by omega) (by omega)]; exact k
theorem ROff_ok {n : Int} {J : Int → World → Prop} (h : Mid n) (k : J (aheadZ n) w) : callJ Try.prog fn_ref12_on #[.int .i64 n, .int .i64 (-1)] w [.one (.int .i64)] J := by
  refine c_ref12_on ?_
  unfold VC_ref12_on Mid at *
  refine ROdd_ok ?_
  unfold aheadZ at k
  rw [show w64 ((2 : Int) * -1) = -2 from by rw [w64_of] <;> decide]
  refine condB_i (fun ho => ?_) (fun ho => ?_)
  · rw [if_pos ho] at k; rw [w64_of (by omega) (by omega), show n + -2 = n - 2 by omega]; exact k
  · rw [if_neg (by simp [ho])] at k; rw [w64_of (by omega) (by omega), show n + -1 = n - 1 by omega]; exact k

theorem RBetween_ok {p q s : Option Addr} {l c l2 c2 l3 c3 : Nat} {up xs ys : List Int} {J : Option Addr → Nat → Nat → Int → World → Prop} (h : Ints w p l up) (h2 : Ints w q l2 xs) (h3 : Ints w s l3 ys) (hp : p = none → l = 0) (hq : q = none → l2 = 0) (hs : s = none → l3 = 0)
    (m1 : l ≤ 17592186043904) (m2 : l2 ≤ 17592186043904) (m3 : l3 ≤ 17592186043904)
    (K : ∀ q m d w', Row w' T_int 1 q m d (ints (betL up xs ys).1) → fresh w q → Chg No w w' → J q m d (betL up xs ys).2 w') :
    callJ Try.prog fn_ref12_Between #[.slice p l c, .slice q l2 c2, .slice s l3 c3] w [.one .slice, .one (.int .i64)] J := by
  refine c_ref12_Between ?_
  unfold VC_ref12_Between
  have hl := h.len
  have hl2 := h2.len
  have hl3 := h3.len
  have n2 : (decide (((l2 : Nat) : Int) > 0)) = decide (xs ≠ []) := by
    apply decide_eq_decide.2
    exact ⟨fun h e => by rw [e] at hl2; simp at hl2; omega, fun h => by have := List.length_pos_iff.2 h; omega⟩
  have n3 : (decide (((l3 : Nat) : Int) > 0)) = decide (ys ≠ []) := by
    apply decide_eq_decide.2
    exact ⟨fun h e => by rw [e] at hl3; simp at hl3; omega, fun h => by have := List.length_pos_iff.2 h; omega⟩
  rw [n2, n3]
  have z2 : (((l2 : Nat) : Int) == 0) = decide (xs = []) := by
    rw [Bool.eq_iff_iff]; simp only [beq_iff_eq, decide_eq_true_eq]
    exact ⟨fun h => List.eq_nil_of_length_eq_zero (by omega), fun e => by rw [e] at hl2; simp at hl2; omega⟩
  have z3 : (((l3 : Nat) : Int) == 0) = decide (ys = []) := by
    rw [Bool.eq_iff_iff]; simp only [beq_iff_eq, decide_eq_true_eq]
    exact ⟨fun h => List.eq_nil_of_length_eq_zero (by omega), fun e => by rw [e] at hl3; simp at hl3; omega⟩
  rw [z2, z3]
  refine withJ_i fun J53 hJ53 => ?_
  have k53 : ∀ b w1, Chg No w w1 → b = argB up xs ys → J53 b w1 := by
    intro b w1 hc1 hb; subst hJ53
    refine condB_i (fun hx => ?_) (fun hx => ?_)
    · have e : betL up xs ys = ([], 1) := by unfold betL; rw [← hb, if_pos hx]
      rw [e] at K
      exact K none 0 0 w1 (Row.nil _ _ _) (by rintro a ⟨⟩) hc1
    rw [hx] at hb
    obtain ⟨a1, a2, a3, a4⟩ := arg_split hb.symm
    have hupl := lab_len a1
    have hul : up.length = l := hl
    refine twin_row slT_int (h.chg hc1 (off_no _)) (one1_ints up) hp (by omega) (by simp only [maxLen]; omega) fun pu cu w2 hru hfu hc2 => ?_
    have hc02 := hc1.trans0 hc2
    have hfu' : fresh w pu := fun a ha => Nat.le_trans hc1.size (hfu a ha)
    refine withJ_i fun J8 hJ8 => ?_
    have k8 : ∀ qn mn dn w3, Row w3 T_int 1 qn mn dn (ints (newL up xs ys)) → fresh w qn → Chg No w w3 → mn ≤ 100000 → J8 qn mn dn w3 := by
      intro qn mn dn w3 hrn hfn hcn hmn; subst hJ8
      have hI : Ints w3 qn mn (newL up xs ys) := hrn.sl
      refine RRight_ok hI (by omega) fun w4 hc4 => ?_
      refine condB_not (fun hne => ?_) (fun he => ?_)
      · have hne := of_decide_eq_false hne
        have e : betL up xs ys = ([], 5) := by unfold betL; rw [← hb, if_neg (by simp), if_pos hne]
        rw [e] at K
        exact K none 0 0 w4 (Row.nil _ _ _) (by rintro a ⟨⟩) (hcn.trans0 hc4)
      · have he := of_decide_eq_true he
        have e : betL up xs ys = (newL up xs ys, 0) := by unfold betL; rw [← hb, if_neg (by simp), if_neg (fun h => h he)]
        rw [e] at K
        exact K qn mn dn w4 (hrn.chg hc4 (off_no _)) hfn (hcn.trans0 hc4)
    clear hJ8
    -- numbers behind what stands
    have more : ∀ (A B : List Int) pa la ca w3, newL up xs ys = A ++ B → Row w3 T_int 1 pa la ca (ints A) → fresh w pa → Chg No w w3 → la ≤ 50000 → ∀ nb, B.length = nb → nb ≤ 2 →
        newB w3 (.cells ⟨ints B⟩ T_int) fun b88 w6 => appJ Try.prog T_sl_int T_sl_int (.slice pa la ca) (.slice (some ⟨b88, 0, none⟩) nb nb) w6 fun q89p q89l q89c w7 => J8 q89p q89l q89c w7 := by
      intro A B pa la ca w3 hn hra hfa hc3 hla nb hnb hn2
      refine newRow (sz := 1) (n := nb) (by rw [ints_length]; omega) (by simp only [maxLen]; omega) fun b2 w4 hr2 _ hc4 => ?_
      refine appJ_row slT_int (hra.chg hc4 (off_no _)) hr2.sl (one1_ints B) (by simp) (by omega) (by simp only [maxLen]; omega) fun p' c' w' hr' hc' hf' => ?_
      have e : ints A ++ ints B = ints (newL up xs ys) := by rw [hn]; simp [ints]
      rw [e] at hr'
      have hc04 := hc3.trans0 hc4
      refine k8 p' _ c' w' hr' ?_ (hc04.trans hc' (fresh_no hfa)) (by omega)
      rcases hf' with rfl | hf'
      · exact hfa
      · intro a ha; have := hf' a ha; have := hc04.size; omega
    refine withJ_i fun J66 hJ66 => ?_
    have k66 : ∀ b, (b = true ↔ xs = [] ∧ ys = []) → J66 b w2 := by
      intro b hbb; subst hJ66
      have hx2 := h2.chg hc02 (off_no _)
      have hx3 := h3.chg hc02 (off_no _)
      refine condB_i (fun hy => ?_) (fun hy => ?_)
      · obtain ⟨ex, ey⟩ := hbb.1 hy
        exact more up [1] pu l cu w2 (by unfold newL; rw [if_pos ex, if_pos ey]) hru hfu' hc02 (by omega) 1 rfl (by decide)
      refine condB_d (fun hyn => ?_) (fun hyn => ?_)
      · have hxn : xs ≠ [] := fun e => by rw [hbb.2 ⟨e, hyn⟩] at hy; cases hy
        obtain ⟨x, rfl, hxr⟩ := kid_rest (a2 hxn)
        rw [List.length_append] at hl2
        have hxp := List.length_pos_iff.2 hxr.ne
        refine int_i hx2 (by omega) (by omega) fun v hv => ?_
        rw [Int.toNat_natCast] at hv
        refine ROn_ok (lab_mid (kid_lab (a2 hxn)) v (List.mem_of_getElem? hv)) ?_
        refine more up [behindZ v] pu l cu w2 ?_ hru hfu' hc02 (by omega) 1 rfl (by decide)
        unfold newL
        rw [if_neg hxn, if_pos hyn, List.getD_eq_getElem?_getD, hul, hv]; rfl
      refine condB_d (fun hxn => ?_) (fun hxn => ?_)
      · obtain ⟨y, rfl, hyr⟩ := kid_rest (a3 hyn)
        rw [List.length_append] at hl3
        have hyp := List.length_pos_iff.2 hyr.ne
        refine int_i hx3 (by omega) (by omega) fun v hv => ?_
        rw [Int.toNat_natCast] at hv
        refine ROff_ok (lab_mid (kid_lab (a3 hyn)) v (List.mem_of_getElem? hv)) ?_
        refine more up [aheadZ v] pu l cu w2 ?_ hru hfu' hc02 (by omega) 1 rfl (by decide)
        unfold newL
        rw [if_pos hxn, if_neg hyn, List.getD_eq_getElem?_getD, hul, hv]; rfl
      obtain ⟨x, rfl, hxr⟩ := kid_rest (a2 hxn)
      obtain ⟨y, rfl, hyr⟩ := kid_rest (a3 hyn)
      have hcmp := a4 hxn hyn
      rw [cmpL_append] at hcmp
      have hnew : newL up (up ++ x) (up ++ y) = up ++ midL x y := by
        unfold newL; rw [if_neg hxn, if_neg hyn, List.drop_left, List.drop_left]
      have hxl := lab_len (kid_lab (a2 hxn))
      have mx := lab_mid (kid_lab (a2 hxn))
      have my := lab_mid (kid_lab (a3 hyn))
      refine ⟨fun qn mn dn z w' t => ∃ (k : Nat) (x' y' : List Int), z = k ∧ l ≤ k ∧ k ≤ l2 ∧ t = l2 - k ∧ Chg No w w' ∧ Row w' T_int 1 qn mn dn (ints ((up ++ x).take k)) ∧ fresh w qn ∧ (up ++ x).drop k = x' ∧ (up ++ y).drop k = y' ∧ KRest x' ∧ KRest y' ∧ cmpL x' y' = -1 ∧ up ++ midL x y = (up ++ x).take k ++ midL x' y',
        ⟨_, l, x, y, rfl, Nat.le_refl _, by rw [← hl2, List.length_append]; omega, rfl, hc02, by rw [← hul, List.take_left, hul]; exact hru, hfu', by rw [← hul, List.drop_left], by rw [← hul, List.drop_left], hxr, hyr, hcmp, by rw [← hul, List.take_left]⟩, ?_⟩
      rintro qn mn dn z w15 t ⟨k, x', y', rfl, hlk, hkl, rfl, hc15, hrn, hfn, ex, ey, rx, ry, hcc, hmid⟩
      have hkx : k < l2 := by
        rcases Nat.lt_or_ge k l2 with h | h
        · exact h
        · exfalso; apply rx.ne; rw [← ex]; exact List.drop_of_length_le (by omega)
      have hky : k < l3 := by
        rcases Nat.lt_or_ge k l3 with h | h
        · exact h
        · exfalso; apply ry.ne; rw [← ey]; exact List.drop_of_length_le (by omega)
      have hmn : mn = k := by have := hrn.len; rw [ints_length, List.length_take] at this; omega
      have hcd := hc15.drew
      have cd : Chg No w15 w15.drew := (Chg.refl _ _).drew
      have cdd : Chg No w15 w15.drew.drew := cd.drew
      have hcdd := hcd.drew
      refine int_i (h2.chg hcd (off_no _)) (by omega) (by omega) fun a ha => ?_
      refine int_i (h3.chg hcd (off_no _)) (by omega) (by omega) fun b hb => ?_
      rw [Int.toNat_natCast] at ha hb
      obtain ⟨g1, g2⟩ := List.getElem?_eq_some_iff.1 ha
      obtain ⟨g3, g4⟩ := List.getElem?_eq_some_iff.1 hb
      have ex2 : x' = a :: (up ++ x).drop (k + 1) := by rw [← ex, List.drop_eq_getElem_cons g1, g2]
      have ey2 : y' = b :: (up ++ y).drop (k + 1) := by rw [← ey, List.drop_eq_getElem_cons g3, g4]
      refine condB_eq (fun hab => ?_) (fun hab => ?_)
      · subst hab
        rw [ex2] at rx hcc hmid
        rw [ey2] at ry hcc hmid
        obtain ⟨r1, r2, r3⟩ := rest_same rx ry hcc
        refine int_i (h2.chg hcd (off_no _)) (by omega) (by omega) fun a2 ha2 => ?_
        rw [Int.toNat_natCast, ha] at ha2
        cases ha2
        refine appI (hrn.chg cd (off_no _)) (by omega) hfn hcd fun p' c' w' hr' hf' hc' _ => ?_
        rw [← take_snoc ha] at hr'
        refine ⟨_, by omega, k + 1, _, _, by rw [w64_of] <;> omega, by omega, by omega, rfl, hc', hr', hf', rfl, rfl, r1, r2, r3, ?_⟩
        rw [hmid, midL_even, take_snoc ha, List.append_assoc]; rfl
      · refine int_i (h2.chg hcdd (off_no _)) (by omega) (by omega) fun a2 ha2 => ?_
        refine int_i (h3.chg hcdd (off_no _)) (by omega) (by omega) fun b2 hb2 => ?_
        rw [Int.toNat_natCast] at ha2 hb2
        rw [ha] at ha2; cases ha2
        rw [hb] at hb2; cases hb2
        have ma := mx a (List.mem_of_getElem? ha)
        have mb := my b (List.mem_of_getElem? hb)
        unfold Mid at ma mb
        rw [ex2] at rx hcc hmid
        rw [ey2] at ry hcc hmid
        have hlt := cmp_head hcc hab
        have hba := behind_odd a
        have hrnd := hrn.chg cdd (off_no _)
        rw [midL_diff hab, show amidL (a :: (up ++ x).drop (k + 1)) (b :: (up ++ y).drop (k + 1)) = amidC a b ((a :: (up ++ x).drop (k + 1)).getD 1 0) ((b :: (up ++ y).drop (k + 1)).getD 1 0) from rfl] at hmid
        unfold amidC at hmid
        have tail : ∀ B, newL up (up ++ x) (up ++ y) = (up ++ x).take k ++ B → ∀ nb, B.length = nb → nb ≤ 2 → newB w15.drew.drew (.cells ⟨ints B⟩ T_int) fun b88 w6 => appJ Try.prog T_sl_int T_sl_int (.slice qn mn dn) (.slice (some ⟨b88, 0, none⟩) nb nb) w6 fun q89p q89l q89c w7 => J8 q89p q89l q89c w7 :=
          fun B hB nb h1 h2 => more _ B qn mn dn _ hB hrnd hfn hcdd (by omega) nb h1 h2
        refine withJ_i fun J12 hJ12 => ?_
        have k12 : J12 (behindZ a) w15.drew.drew := by
          subst hJ12
          refine condB_d (fun c1 => ?_) (fun c1 => ?_)
          · rw [if_pos c1] at hmid
            exact tail [behindZ a] (by rw [hnew, hmid]) 1 rfl (by decide)
          rw [if_neg c1] at hmid
          rw [w64_of (n := a + 2) (by omega) (by omega), w64_of (n := a + 1) (by omega) (by omega)]
          refine condB_eq (fun c2 => ?_) (fun c2 => ?_)
          · rw [if_pos c2] at hmid
            exact tail [a + 1, 1] (by rw [hnew, hmid]) 2 rfl (by decide)
          rw [if_neg c2] at hmid
          refine ROdd_ok ?_
          have ek : w64 ((k : Int) + 1) = ((k + 1 : Nat) : Int) := by rw [w64_of] <;> omega
          rw [ek]
          have hod := oddZ_iff (v := a)
          refine condB_i (fun ho => ?_) (fun ho => ?_)
          · rw [if_pos ho] at hmid
            have hbo : oddZ b = false := by
              have h1 := hod.1 ho
              unfold behindZ at c1
              rw [if_pos ho] at c1
              cases h2 : oddZ b with
              | false => rfl
              | true => have := oddZ_iff.1 h2; omega
            have hr := ry.even_more hbo
            have hk3 : k + 1 < l3 := by
              rcases Nat.lt_or_ge (k + 1) l3 with h | h
              · exact h
              · exfalso; apply hr.ne; exact List.drop_of_length_le (by omega)
            refine int_i (h3.chg hcdd (off_no _)) (by omega) (by omega) fun d hd => ?_
            rw [Int.toNat_natCast] at hd
            refine ROff_ok (my d (List.mem_of_getElem? hd)) ?_
            refine tail [b, aheadZ d] ?_ 2 rfl (by decide)
            rw [hnew, hmid]
            have e : (b :: (up ++ y).drop (k + 1)).getD 1 0 = d := by
              rw [List.getD_eq_getElem?_getD, List.getElem?_cons_succ, List.getElem?_drop, Nat.add_zero, hd]; rfl
            rw [e]
          · rw [if_neg (by simp [ho])] at hmid
            have hr := rx.even_more ho
            have hk2 : k + 1 < l2 := by
              rcases Nat.lt_or_ge (k + 1) l2 with h | h
              · exact h
              · exfalso; apply hr.ne; exact List.drop_of_length_le (by omega)
            refine int_i (h2.chg hcdd (off_no _)) (by omega) (by omega) fun d hd => ?_
            rw [Int.toNat_natCast] at hd
            refine ROn_ok (mx d (List.mem_of_getElem? hd)) ?_
            refine tail [a, behindZ d] ?_ 2 rfl (by decide)
            rw [hnew, hmid]
            have e : (a :: (up ++ x).drop (k + 1)).getD 1 0 = d := by
              rw [List.getD_eq_getElem?_getD, List.getElem?_cons_succ, List.getElem?_drop, Nat.add_zero, hd]; rfl
            rw [e]
        clear hJ12
        have ea1 : w64 (a + 1) = a + 1 := by rw [w64_of] <;> omega
        rw [ea1]
        refine ROdd_ok ?_
        have hod := oddZ_iff (v := a)
        have hod1 := oddZ_iff (v := a + 1)
        unfold behindZ at k12
        refine condB_not (fun ho => ?_) (fun ho => ?_)
        · have : oddZ a = true := by
            rw [oddZ_iff]
            have : ¬ (a + 1) % 2 = 1 := fun e => by rw [hod1.2 e] at ho; cases ho
            omega
          rw [if_pos this] at k12
          rw [w64_of (by omega) (by omega), show a + 1 + 1 = a + 2 by omega]; exact k12
        · have : oddZ a = false := by
            cases h : oddZ a with
            | false => rfl
            | true => have h1 := hod.1 h; have h2 := hod1.1 ho; omega
          rw [if_neg (by simp [this])] at k12
          exact k12
    clear hJ66
    refine condB_d (fun hxe => ?_) (fun hxe => k66 false ⟨fun h => (by cases h), fun h => absurd h.1 hxe⟩)
    exact k66 _ (Iff.intro (fun h => ⟨hxe, of_decide_eq_true h⟩) (fun h => decide_eq_true h.2))
  clear hJ53
  have harg := arg_eq up xs ys
  refine RRight_ok h (by omega) fun w1 hc1 => ?_
  refine condB_not (fun hne => k53 true w1 hc1 (by rw [harg, decide_eq_true (of_decide_eq_false hne)]; rfl)) (fun he => ?_)
  have he := of_decide_eq_true he
  rw [show decide ((lab up).2 ≠ 0) = false from decide_eq_false (fun h => h he), Bool.false_or] at harg
  have tl : ∀ w2, Chg No w w2 → argB up xs ys = (decide (xs ≠ []) && decide (ys ≠ []) && decide (cmpL xs ys ≥ 0)) →
      condB (decide (xs ≠ [])) (condB (decide (ys ≠ [])) (callJ Try.prog fn_ref12_Compare #[.slice q l2 c2, .slice s l3 c3] w2 [.one (.int .i64)] fun (r47 : Int) (w21 : World) => J53 (decide (r47 ≥ (0 : Int))) w21) (J53 false w2)) (J53 false w2) := by
    intro w2 hc2 hg
    refine condB_i (fun hx => ?_) (fun hx => k53 false w2 hc2 (by rw [hg, hx]; rfl))
    refine condB_i (fun hy => ?_) (fun hy => k53 false w2 hc2 (by rw [hg, hx, hy]; rfl))
    exact RCompare_ok (h2.chg hc2 (off_no _)) (h3.chg hc2 (off_no _)) (by omega) fun w3 hc3 => k53 _ w3 (hc2.trans0 hc3) (by rw [hg, hx, hy]; rfl)
  have ts : ∀ w2, Chg No w w2 → argB up xs ys = ((decide (ys ≠ []) && !kidB up ys) || (decide (xs ≠ []) && decide (ys ≠ []) && decide (cmpL xs ys ≥ 0))) →
      condB (decide (ys ≠ [])) (callJ Try.prog fn_ref12_kid #[.slice p l c, .slice s l3 c3] w2 [.one .bool] fun (r31 : Bool) (w20 : World) =>
        condB (!r31) (J53 true w20) (condB (decide (xs ≠ [])) (condB (decide (ys ≠ [])) (callJ Try.prog fn_ref12_Compare #[.slice q l2 c2, .slice s l3 c3] w20 [.one (.int .i64)] fun (r47 : Int) (w21 : World) => J53 (decide (r47 ≥ (0 : Int))) w21) (J53 false w20)) (J53 false w20)))
        (condB (decide (xs ≠ [])) (condB (decide (ys ≠ [])) (callJ Try.prog fn_ref12_Compare #[.slice q l2 c2, .slice s l3 c3] w2 [.one (.int .i64)] fun (r47 : Int) (w21 : World) => J53 (decide (r47 ≥ (0 : Int))) w21) (J53 false w2)) (J53 false w2)) := by
    intro w2 hc2 hg
    refine condB_i (fun hy => ?_) (fun hy => tl w2 hc2 (by rw [hg, hy]; simp))
    refine RKid_ok (h.chg hc2 (off_no _)) (h3.chg hc2 (off_no _)) hs m3 fun w3 hc3 => ?_
    have hc03 := hc2.trans0 hc3
    refine condB_not (fun hk => k53 true w3 hc03 (by rw [hg, hy, hk]; rfl)) (fun hk => tl w3 hc03 (by rw [hg, hk]; simp))
  refine condB_i (fun hx => ?_) (fun hx => ?_)
  · refine RKid_ok (h.chg hc1 (off_no _)) (h2.chg hc1 (off_no _)) hq m2 fun w2 hc2 => ?_
    have hc02 := hc1.trans0 hc2
    refine condB_not (fun hk => k53 true w2 hc02 (by rw [harg, hx, hk]; rfl)) (fun hk => ?_)
    rw [hk] at harg
    have := ts w2 hc02 (by rw [harg]; simp)
    rw [hx] at this ⊢
    exact this
  · have := ts w1 hc1 (by rw [harg, hx]; rfl)
    rw [hx] at this ⊢
    exact this

theorem SameInts_ok {p q : Option Addr} {l c l2 c2 : Nat} {xs ys : List Int} {J : Bool → World → Prop} (h : Ints w p l xs) (h2 : Ints w q l2 ys) (hm : l ≤ 140737488351232) (k : ∀ w', Chg No w w' → J (decide (xs = ys)) w') :
    callJ Try.prog fn_ref05_SameInts #[.slice p l c, .slice q l2 c2] w [.one .bool] J := by
  refine c_ref05_SameInts ?_
  unfold VC_ref05_SameInts
  have hl := h.len
  have hl2 := h2.len
  refine condB_ne (fun hne => ?_) (fun he => ?_)
  · have e : decide (xs = ys) = false := decide_eq_false fun e => hne (by rw [← hl, ← hl2, e])
    rw [e] at k; exact k w (Chg.refl _ _)
  have hll : l = l2 := by omega
  subst hll
  refine ⟨fun x w' t => ∃ i : Nat, x = i ∧ i ≤ l ∧ t = l - i ∧ Chg No w w' ∧ xs.take i = ys.take i, ⟨_, 0, rfl, Nat.zero_le _, rfl, Chg.refl _ _, by simp⟩, ?_⟩
  rintro x w' t ⟨i, rfl, hi, rfl, hc, htk⟩
  have hcd := hc.drew
  refine condB_d (fun hlt => ?_) (fun hge => ?_)
  · refine int_i (h.chg hcd (off_no _)) (by omega) hlt fun a ha => ?_
    refine int_i (h2.chg hcd (off_no _)) (by omega) hlt fun b hb => ?_
    rw [Int.toNat_natCast] at ha hb
    refine condB_ne (fun hne => ?_) (fun he => ?_)
    · have e : decide (xs = ys) = false := decide_eq_false fun e => hne (by rw [e, hb] at ha; cases ha; rfl)
      rw [e] at k; exact k _ hcd
    · refine ⟨_, by omega, i + 1, by rw [w64_of] <;> omega, by omega, rfl, hcd, ?_⟩
      rw [take_snoc ha, take_snoc hb, htk, he]
  · have : i = l := by omega
    subst this
    rw [List.take_of_length_le (by omega), List.take_of_length_le (by omega)] at htk
    have e : decide (xs = ys) = true := decide_eq_true htk
    rw [e] at k; exact k w' hc
theorem SameB_ok {p q : Option Addr} {l c l2 c2 : Nat} {xs bs : List UInt8} {J : Bool → World → Prop} (h : Bytes w p l xs) (h2 : Bytes w q l2 bs) (k : J (decide (xs = bs)) w) :
    callJ Try.prog fn_ref01_Same #[.slice p l c, .slice q l2 c2] w [.one .bool] J := by
  refine c_ref01_Same (bytesOf_i h (bytesOf_i h2 ?_))
  rw [ByteArray.toList_mk, ByteArray.toList_mk]
  have : (xs == bs) = decide (xs = bs) := by by_cases h : xs = bs <;> simp [h]
  rw [this]; exact k
end
end Go.Proofs.Ytjjmnfpdkgnmoaa

