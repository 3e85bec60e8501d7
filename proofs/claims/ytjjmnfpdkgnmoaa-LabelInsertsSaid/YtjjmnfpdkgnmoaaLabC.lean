/-
  Labels: the new label of a kid.
-/
import Derived.Test.YtjjmnfpdkgnmoaaLabB
set_option linter.unusedVariables false
set_option linter.unusedSimpArgs false
namespace Go.Vc
open Go
theorem arg_eq (up l r : List Int) : argB up l r = (decide ((lab up).2 ≠ 0) || (decide (l ≠ []) && !kidB up l) || (decide (r ≠ []) && !kidB up r) || (decide (l ≠ []) && decide (r ≠ []) && decide (cmpL l r ≥ 0))) := by
  unfold argB
  rw [Bool.eq_iff_iff]
  simp only [decide_eq_true_eq, Bool.or_eq_true, Bool.and_eq_true, Bool.not_eq_true', or_assoc, and_assoc]
  have : cmpL l r ≠ -1 ↔ cmpL l r ≥ 0 := by rcases cmpL_cases l r with e | e | e <;> rw [e] <;> decide
  rw [this]
theorem midL_even {a : Int} {x y : List Int} : midL (a :: x) (a :: y) = a :: midL x y := by rw [midL, if_pos rfl]
theorem midL_diff {a b : Int} {x y : List Int} (h : a ≠ b) : midL (a :: x) (b :: y) = amidL (a :: x) (b :: y) := by rw [midL, if_neg h]
/-- Two rests, the first ahead of the second, whose first numbers are one. -/
theorem rest_same {a : Int} {x y : List Int} (hx : KRest (a :: x)) (hy : KRest (a :: y)) (h : cmpL (a :: x) (a :: y) = -1) : KRest x ∧ KRest y ∧ cmpL x y = -1 := by
  have h' : cmpL x y = -1 := by unfold cmpL at h; rwa [if_neg (by omega), if_neg (by omega)] at h
  cases ha : oddZ a with
  | true =>
    rw [hx.odd_one ha, hy.odd_one ha] at h'
    simp [cmpL] at h'
  | false => exact ⟨hx.even_more ha, hy.even_more ha, h'⟩
theorem cmp_head {a b : Int} {x y : List Int} (h : cmpL (a :: x) (b :: y) = -1) (hne : a ≠ b) : a < b := by
  unfold cmpL at h
  split at h
  · assumption
  · split at h
    · simp at h
    · exfalso; omega
theorem lab_len {l : List Int} (h : (lab l).2 = 0) : l.length ≤ 480 := by
  obtain ⟨_, h2, _⟩ := lab_ok h
  have : ∀ l : List Int, 2 * l.length ≤ (flatB l).length := by
    intro l
    induction l with
    | nil => simp
    | cons v l ih => rw [flatB_cons, List.length_append, List.length_cons]; have := bitsV_len_pos v; omega
  have := this l
  omega
end Go.Vc
namespace Go.Proofs.Ytjjmnfpdkgnmoaa
open Go Go.Vc

section
variable {w : World}
def Mid (c : Int) : Prop := -2000000000 ≤ c ∧ c ≤ 2000000000
theorem Behind_ok {n : Int} {J : Int → World → Prop} (h : Mid n) (k : J (behindZ n) w) : callJ Try.prog fn_label_behind #[.int .i64 n] w [.one (.int .i64)] J := by
  refine c_label_behind ?_
  unfold VC_label_behind Mid at *
  refine Odd_ok ?_
  unfold behindZ at k
  refine condB_i (fun ho => ?_) (fun ho => ?_)
  · rw [if_pos ho] at k; rw [w64_of (by omega) (by omega)]; exact k
  · rw [if_neg (by simp [ho])] at k; rw [w64_of (by omega) (by omega)]; exact k
theorem Ahead_ok {n : Int} {J : Int → World → Prop} (h : Mid n) (k : J (aheadZ n) w) : callJ Try.prog fn_label_ahead #[.int .i64 n] w [.one (.int .i64)] J := by
  refine c_label_ahead ?_
  unfold VC_label_ahead Mid at *
  refine Odd_ok ?_
  unfold aheadZ at k
  refine condB_i (fun ho => ?_) (fun ho => ?_)
  · rw [if_pos ho] at k; rw [w64_of (by omega) (by omega)]; exact k
  · rw [if_neg (by simp [ho])] at k; rw [w64_of (by omega) (by omega)]; exact k
theorem Amid_ok {p q : Option Addr} {l c l2 c2 : Nat} {a b : Int} {x y : List Int} {J : Option Addr → Nat → Nat → World → Prop} (h : Ints w p l (a :: x)) (h2 : Ints w q l2 (b :: y)) (hx : KRest (a :: x)) (hy : KRest (b :: y)) (hlt : a < b)
    (mx : ∀ v ∈ a :: x, Mid v) (my : ∀ v ∈ b :: y, Mid v) (k : ∀ q' m d w', Row w' T_int 1 q' m d (ints (amidL (a :: x) (b :: y))) → fresh w q' → Chg No w w' → J q' m d w') :
    callJ Try.prog fn_label_amid #[.slice p l c, .slice q l2 c2] w [.one .slice] J := by
  refine c_label_amid ?_
  unfold VC_label_amid
  have hl := h.len
  have hl2 := h2.len
  rw [List.length_cons] at hl hl2
  have hcd : Chg No w w.drew := (Chg.refl _ _).drew
  refine int_i (h.chg hcd (off_no _)) (by decide) (by omega) fun a' ha => ?_
  refine int_i (h2.chg hcd (off_no _)) (by decide) (by omega) fun b' hb => ?_
  simp only [Int.toNat_zero, List.getElem?_cons_zero, Option.some.injEq] at ha hb
  subst ha; subst hb
  rw [show amidL (a :: x) (b :: y) = amidC a b ((a :: x).getD 1 0) ((b :: y).getD 1 0) from rfl] at k
  unfold amidC at k
  have ma := mx a (by simp)
  have hma := ma
  unfold Mid at hma
  have hba := behind_odd a
  refine Behind_ok ma ?_
  refine condB_d (fun c1 => ?_) (fun c1 => ?_)
  · rw [if_pos c1] at k
    refine Behind_ok ma ?_
    refine newRow (sz := 1) (n := 1) rfl (by decide) fun b1 w1 hr1 hb1 hc1 => ?_
    exact k _ _ _ w1 hr1 (by rintro z ⟨⟩; exact hb1) (hcd.trans0 hc1)
  rw [if_neg c1] at k
  rw [w64_of (n := a + 2) (by omega) (by omega), w64_of (n := a + 1) (by omega) (by omega)]
  refine condB_eq (fun c2 => ?_) (fun c2 => ?_)
  · rw [if_pos c2] at k
    refine newRow (sz := 1) (n := 2) rfl (by decide) fun b1 w1 hr1 hb1 hc1 => ?_
    exact k _ _ _ w1 hr1 (by rintro z ⟨⟩; exact hb1) (hcd.trans0 hc1)
  rw [if_neg c2] at k
  refine Odd_ok ?_
  have hod := oddZ_iff (v := a)
  refine condB_i (fun ho => ?_) (fun ho => ?_)
  · rw [if_pos ho] at k
    have hbo : oddZ b = false := by
      have h1 := hod.1 ho
      unfold behindZ at c1
      rw [if_pos ho] at c1
      cases h2 : oddZ b with
      | false => rfl
      | true => have := oddZ_iff.1 h2; omega
    have hr := hy.even_more hbo
    cases y with
    | nil => exact absurd rfl hr.ne
    | cons d y =>
      refine int_i (h2.chg hcd (off_no _)) (by decide) (by rw [← hl2, List.length_cons]; omega) fun d' hd => ?_
      simp at hd; subst hd
      refine Ahead_ok (my d (by simp)) ?_
      refine newRow (sz := 1) (n := 2) rfl (by decide) fun b1 w1 hr1 hb1 hc1 => ?_
      exact k _ _ _ w1 hr1 (by rintro z ⟨⟩; exact hb1) (hcd.trans0 hc1)
  · rw [if_neg (by simp [ho])] at k
    have hr := hx.even_more ho
    cases x with
    | nil => exact absurd rfl hr.ne
    | cons d x =>
      refine int_i (h.chg hcd (off_no _)) (by decide) (by rw [← hl, List.length_cons]; omega) fun d' hd => ?_
      simp at hd; subst hd
      refine Behind_ok (mx d (by simp)) ?_
      refine newRow (sz := 1) (n := 2) rfl (by decide) fun b1 w1 hr1 hb1 hc1 => ?_
      exact k _ _ _ w1 hr1 (by rintro z ⟨⟩; exact hb1) (hcd.trans0 hc1)

theorem lab_mid {l : List Int} (h : (lab l).2 = 0) : ∀ v ∈ l, Mid v := by
  intro v hv
  have := bad_range (lab_ok h).1 v hv
  unfold Mid; omega
theorem kid_lab {u l : List Int} (h : kidB u l = true) : (lab l).2 = 0 := (of_decide_eq_true h).2.1

/-- What of Between asks what is handed in: the same of the program's and of the document's. -/
theorem Between_ok {p q s : Option Addr} {l c l2 c2 l3 c3 : Nat} {up xs ys : List Int} {J : Option Addr → Nat → Nat → Int → World → Prop} (h : Ints w p l up) (h2 : Ints w q l2 xs) (h3 : Ints w s l3 ys) (hp : p = none → l = 0)
    (m1 : l ≤ 17592186043904) (m2 : l2 ≤ 17592186043904) (m3 : l3 ≤ 17592186043904) (e1 : l ≤ c) (e2 : l2 ≤ c2) (e3 : l3 ≤ c3)
    (K : ∀ q m d w', Row w' T_int 1 q m d (ints (betL up xs ys).1) → fresh w q → Chg No w w' → J q m d (betL up xs ys).2 w') :
    callJ Try.prog fn_label_Between #[.slice p l c, .slice q l2 c2, .slice s l3 c3] w [.one .slice, .one (.int .i64)] J := by
  refine c_label_Between ?_
  unfold VC_label_Between
  have hl := h.len
  have hl2 := h2.len
  have hl3 := h3.len
  have n2 : (decide (((l2 : Nat) : Int) > 0)) = decide (xs ≠ []) := by
    apply decide_eq_decide.2
    exact ⟨fun h e => by rw [e] at hl2; simp at hl2; omega, fun h => by have := List.length_pos_iff.2 h; omega⟩
  have n3 : (decide (((l3 : Nat) : Int) > 0)) = decide (ys ≠ []) := by
    apply decide_eq_decide.2
    exact ⟨fun h e => by rw [e] at hl3; simp at hl3; omega, fun h => by have := List.length_pos_iff.2 h; omega⟩
  rw [n2, n3]
  have z2 : (((l2 : Nat) : Int) == 0) = decide (xs = []) := by
    rw [Bool.eq_iff_iff]; simp only [beq_iff_eq, decide_eq_true_eq]
    exact ⟨fun h => List.eq_nil_of_length_eq_zero (by omega), fun e => by rw [e] at hl2; simp at hl2; omega⟩
  have z3 : (((l3 : Nat) : Int) == 0) = decide (ys = []) := by
    rw [Bool.eq_iff_iff]; simp only [beq_iff_eq, decide_eq_true_eq]
    exact ⟨fun h => List.eq_nil_of_length_eq_zero (by omega), fun e => by rw [e] at hl3; simp at hl3; omega⟩
  rw [z2, z3]
  refine withJ_i fun J50 hJ50 => ?_
  have k50 : ∀ b w1, Chg No w w1 → b = argB up xs ys → J50 b w1 := by
    intro b w1 hc1 hb; subst hJ50
    refine condB_i (fun hx => ?_) (fun hx => ?_)
    · have e : betL up xs ys = ([], 1) := by unfold betL; rw [← hb, if_pos hx]
      rw [e] at K
      exact K none 0 0 w1 (Row.nil _ _ _) (by rintro a ⟨⟩) hc1
    rw [hx] at hb
    obtain ⟨a1, a2, a3, a4⟩ := arg_split hb.symm
    have hupl := lab_len a1
    have hul : up.length = l := hl
    refine IClone_ok (h.chg hc1 (off_no _)) hp m1 fun pu cu w2 hru hfu hc2 => ?_
    have hc02 := hc1.trans0 hc2
    have hfu' : fresh w pu := fun a ha => Nat.le_trans hc1.size (hfu a ha)
    refine withJ_i fun J8 hJ8 => ?_
    have k8 : ∀ qn mn dn w3, Row w3 T_int 1 qn mn dn (ints (newL up xs ys)) → fresh w qn → Chg No w w3 → mn ≤ 100000 → J8 qn mn dn w3 := by
      intro qn mn dn w3 hrn hfn hcn hmn; subst hJ8
      have hI : Ints w3 qn mn (newL up xs ys) := hrn.sl
      refine Check_ok hI (by omega) fun w4 hc4 => ?_
      refine condB_ne (fun hne => ?_) (fun he => ?_)
      · have e : betL up xs ys = ([], 5) := by unfold betL; rw [← hb, if_neg (by simp), if_pos hne]
        rw [e] at K
        exact K none 0 0 w4 (Row.nil _ _ _) (by rintro a ⟨⟩) (hcn.trans0 hc4)
      · have e : betL up xs ys = (newL up xs ys, 0) := by unfold betL; rw [← hb, if_neg (by simp), if_neg (fun h => h he)]
        rw [e] at K
        exact K qn mn dn w4 (hrn.chg hc4 (off_no _)) hfn (hcn.trans0 hc4)
    clear hJ8
    -- one number behind the parent
    have one : ∀ (n : Int) w3, newL up xs ys = up ++ [n] → Chg No w2 w3 →
        newB w3 (.cells ⟨[.int .i64 n]⟩ T_int) fun b88 w6 => appJ Try.prog T_sl_int T_sl_int (.slice pu l cu) (.slice (some ⟨b88, 0, none⟩) 1 1) w6 fun q89p q89l q89c w7 => J8 q89p q89l q89c w7 := by
      intro n w3 hn hc3
      refine appI (hru.chg hc3 (off_no _)) (by omega) hfu' (hc02.trans0 hc3) fun p' c' w' hr' hf' hc' _ => ?_
      rw [← hn] at hr'
      exact k8 p' (l + 1) c' w' hr' hf' hc' (by omega)
    refine withJ_i fun J78 hJ78 => ?_
    have k78 : ∀ b, (b = true ↔ xs = [] ∧ ys = []) → J78 b w2 := by
      intro b hbb; subst hJ78
      have hx2 := h2.chg hc02 (off_no _)
      have hx3 := h3.chg hc02 (off_no _)
      refine condB_i (fun hy => ?_) (fun hy => ?_)
      · obtain ⟨ex, ey⟩ := hbb.1 hy
        exact one 1 w2 (by unfold newL; rw [if_pos ex, if_pos ey]) (Chg.refl _ _)
      refine condB_d (fun hyn => ?_) (fun hyn => ?_)
      · have hxn : xs ≠ [] := fun e => by rw [hbb.2 ⟨e, hyn⟩] at hy; cases hy
        obtain ⟨x, rfl, hxr⟩ := kid_rest (a2 hxn)
        rw [List.length_append] at hl2
        have hxp := List.length_pos_iff.2 hxr.ne
        refine int_i hx2 (by omega) (by omega) fun v hv => ?_
        rw [Int.toNat_natCast] at hv
        refine Behind_ok (lab_mid (kid_lab (a2 hxn)) v (List.mem_of_getElem? hv)) ?_
        refine one _ w2 ?_ (Chg.refl _ _)
        unfold newL
        rw [if_neg hxn, if_pos hyn, List.getD_eq_getElem?_getD, hul, hv]; rfl
      refine condB_d (fun hxn => ?_) (fun hxn => ?_)
      · obtain ⟨y, rfl, hyr⟩ := kid_rest (a3 hyn)
        rw [List.length_append] at hl3
        have hyp := List.length_pos_iff.2 hyr.ne
        refine int_i hx3 (by omega) (by omega) fun v hv => ?_
        rw [Int.toNat_natCast] at hv
        refine Ahead_ok (lab_mid (kid_lab (a3 hyn)) v (List.mem_of_getElem? hv)) ?_
        refine one _ w2 ?_ (Chg.refl _ _)
        unfold newL
        rw [if_pos hxn, if_neg hyn, List.getD_eq_getElem?_getD, hul, hv]; rfl
      -- both are there
      obtain ⟨x, rfl, hxr⟩ := kid_rest (a2 hxn)
      obtain ⟨y, rfl, hyr⟩ := kid_rest (a3 hyn)
      have hcmp := a4 hxn hyn
      rw [cmpL_append] at hcmp
      have hnew : newL up (up ++ x) (up ++ y) = up ++ midL x y := by
        unfold newL; rw [if_neg hxn, if_neg hyn, List.drop_left, List.drop_left]
      have hxl := lab_len (kid_lab (a2 hxn))
      have mx := lab_mid (kid_lab (a2 hxn))
      have my := lab_mid (kid_lab (a3 hyn))
      refine ⟨fun z w' t => ∃ (k : Nat) (x' y' : List Int), z = k ∧ l ≤ k ∧ k ≤ l2 ∧ t = l2 - k ∧ Chg No w2 w' ∧ (up ++ x).drop k = x' ∧ (up ++ y).drop k = y' ∧ KRest x' ∧ KRest y' ∧ cmpL x' y' = -1 ∧ up ++ midL x y = (up ++ x).take k ++ midL x' y',
        ⟨_, l, x, y, rfl, Nat.le_refl _, by rw [← hl2, List.length_append]; omega, rfl, Chg.refl _ _, by rw [← hul, List.drop_left], by rw [← hul, List.drop_left], hxr, hyr, hcmp, by rw [← hul, List.take_left]⟩, ?_⟩
      rintro z w4 t ⟨k, x', y', rfl, hlk, hkl, rfl, hc4, ex, ey, rx, ry, hcc, hmid⟩
      have hc4d := hc4.drew
      have hkx : k < l2 := by
        rcases Nat.lt_or_ge k l2 with h | h
        · exact h
        · exfalso; apply rx.ne; rw [← ex]; exact List.drop_of_length_le (by omega)
      have hky : k < l3 := by
        rcases Nat.lt_or_ge k l3 with h | h
        · exact h
        · exfalso; apply ry.ne; rw [← ey]; exact List.drop_of_length_le (by omega)
      refine int_i (hx2.chg hc4d (off_no _)) (by omega) (by omega) fun a ha => ?_
      refine int_i (hx3.chg hc4d (off_no _)) (by omega) (by omega) fun b hb => ?_
      rw [Int.toNat_natCast] at ha hb
      obtain ⟨g1, g2⟩ := List.getElem?_eq_some_iff.1 ha
      obtain ⟨g3, g4⟩ := List.getElem?_eq_some_iff.1 hb
      have ex2 : x' = a :: (up ++ x).drop (k + 1) := by rw [← ex, List.drop_eq_getElem_cons g1, g2]
      have ey2 : y' = b :: (up ++ y).drop (k + 1) := by rw [← ey, List.drop_eq_getElem_cons g3, g4]
      refine condB_eq (fun hab => ?_) (fun hab => ?_)
      · subst hab
        rw [ex2] at rx hcc hmid
        rw [ey2] at ry hcc hmid
        obtain ⟨r1, r2, r3⟩ := rest_same rx ry hcc
        refine ⟨_, by omega, k + 1, _, _, by rw [w64_of] <;> omega, by omega, by omega, rfl, hc4d, rfl, rfl, r1, r2, r3, ?_⟩
        rw [hmid, midL_even, take_snoc ha, List.append_assoc]; rfl
      · refine cutI (hx2.chg hc4d (off_no _)) (i := 0) (j := k) (Nat.zero_le _) (by omega) e2 rfl rfl fun q1 hq1 hn1 => ?_
        refine cutI (hx2.chg hc4d (off_no _)) (i := k) (j := l2) (by omega) (Nat.le_refl _) e2 rfl rfl fun q2 hq2 hn2 => ?_
        refine cutI (hx3.chg hc4d (off_no _)) (i := k) (j := l3) (by omega) (Nat.le_refl _) e3 rfl rfl fun q3 hq3 hn3 => ?_
        rw [List.drop_zero, Nat.sub_zero] at hq1
        rw [Nat.sub_zero] at hn1 ⊢
        rw [List.take_of_length_le (by rw [List.length_drop]; omega)] at hq2 hq3
        rw [ex, ex2] at hq2
        rw [ey, ey2] at hq3
        rw [ex2] at rx hcc hmid
        rw [ey2] at ry hcc hmid
        have hc4dd := hc4d.drew
        have cdd : Chg No w4.drew w4.drew.drew := (Chg.refl _ _).drew
        refine IClone_ok (hq1.chg cdd (off_no _)) hn1 (by omega) fun p5 c5 w5 hr5 hf5 hc5 => ?_
        have hc5' := hc4dd.trans0 hc5
        refine Amid_ok ((hq2.chg cdd (off_no _)).chg hc5 (off_no _)) ((hq3.chg cdd (off_no _)).chg hc5 (off_no _)) rx ry (cmp_head hcc hab)
          (fun v hv => mx v (List.mem_of_mem_drop (i := k) (by rw [ex, ex2]; exact hv))) (fun v hv => my v (List.mem_of_mem_drop (i := k) (by rw [ey, ey2]; exact hv))) fun p6 m6 c6 w6 hr6 hf6 hc6 => ?_
        have ham : (amidL (a :: (up ++ x).drop (k + 1)) (b :: (up ++ y).drop (k + 1))).length ≤ 2 := by
          rw [show ∀ A B : List Int, amidL A B = amidC (A.headD 0) (B.headD 0) (A.getD 1 0) (B.getD 1 0) from fun _ _ => rfl]
          unfold amidC
          repeat' split
          all_goals simp
        have hm6 : m6 ≤ 2 := by have := hr6.len; rw [ints_length] at this; omega
        have hc06 := (hc02.trans0 hc5').trans0 hc6
        refine appJ_row slT_int (hr5.chg hc6 (off_no _)) hr6.sl (one1_ints _) (fun e => hr6.none0 e) (by omega) (by simp only [maxLen]; omega) fun p7 c7 w7 hr7 hc7 hf7 => ?_
        have f5 : fresh w p5 := fun a ha => by have := hf5 a ha; have := (hc02.trans0 hc4dd).size; omega
        have e : ints ((up ++ x).take k) ++ ints (amidL (a :: (up ++ x).drop (k + 1)) (b :: (up ++ y).drop (k + 1))) = ints (newL up (up ++ x) (up ++ y)) := by
          rw [hnew, hmid, midL_diff hab]; simp [ints]
        rw [e] at hr7
        refine k8 p7 _ c7 w7 hr7 ?_ (hc06.trans hc7 (fresh_no f5)) (by omega)
        rcases hf7 with rfl | hf7
        · exact f5
        · intro a ha; have := hf7 a ha; have := hc06.size; omega
    clear hJ78
    refine condB_d (fun hxe => ?_) (fun hxe => k78 false ⟨fun h => (by cases h), fun h => absurd h.1 hxe⟩)
    exact k78 _ (Iff.intro (fun h => ⟨hxe, of_decide_eq_true h⟩) (fun h => decide_eq_true h.2))
  clear hJ50
  have harg := arg_eq up xs ys
  refine Check_ok h (by omega) fun w1 hc1 => ?_
  refine condB_ne (fun hne => k50 true w1 hc1 (by rw [harg, decide_eq_true hne]; rfl)) (fun he => ?_)
  rw [show decide ((lab up).2 ≠ 0) = false from decide_eq_false (fun h => h he), Bool.false_or] at harg
  -- the last test
  have tl : ∀ w2, Chg No w w2 → argB up xs ys = (decide (xs ≠ []) && decide (ys ≠ []) && decide (cmpL xs ys ≥ 0)) →
      condB (decide (xs ≠ [])) (condB (decide (ys ≠ [])) (callJ Try.prog fn_label_Compare #[.slice q l2 c2, .slice s l3 c3] w2 [.one (.int .i64)] fun (r47 : Int) (w21 : World) => J50 (decide (r47 ≥ (0 : Int))) w21) (J50 false w2)) (J50 false w2) := by
    intro w2 hc2 hg
    refine condB_i (fun hx => ?_) (fun hx => k50 false w2 hc2 (by rw [hg, hx]; rfl))
    refine condB_i (fun hy => ?_) (fun hy => k50 false w2 hc2 (by rw [hg, hx, hy]; rfl))
    exact Compare_ok (h2.chg hc2 (off_no _)) (h3.chg hc2 (off_no _)) (by omega) (k50 _ w2 hc2 (by rw [hg, hx, hy]; rfl))
  -- the second kid
  have ts : ∀ w2, Chg No w w2 → argB up xs ys = ((decide (ys ≠ []) && !kidB up ys) || (decide (xs ≠ []) && decide (ys ≠ []) && decide (cmpL xs ys ≥ 0))) →
      condB (decide (ys ≠ [])) (callJ Try.prog fn_label_kid #[.slice p l c, .slice s l3 c3] w2 [.one .bool] fun (r31 : Bool) (w20 : World) =>
        condB (!r31) (J50 true w20) (condB (decide (xs ≠ [])) (condB (decide (ys ≠ [])) (callJ Try.prog fn_label_Compare #[.slice q l2 c2, .slice s l3 c3] w20 [.one (.int .i64)] fun (r47 : Int) (w21 : World) => J50 (decide (r47 ≥ (0 : Int))) w21) (J50 false w20)) (J50 false w20)))
        (condB (decide (xs ≠ [])) (condB (decide (ys ≠ [])) (callJ Try.prog fn_label_Compare #[.slice q l2 c2, .slice s l3 c3] w2 [.one (.int .i64)] fun (r47 : Int) (w21 : World) => J50 (decide (r47 ≥ (0 : Int))) w21) (J50 false w2)) (J50 false w2)) := by
    intro w2 hc2 hg
    refine condB_i (fun hy => ?_) (fun hy => tl w2 hc2 (by rw [hg, hy]; simp))
    refine Kid_ok (h.chg hc2 (off_no _)) (h3.chg hc2 (off_no _)) m3 e3 fun w3 hc3 => ?_
    have hc03 := hc2.trans0 hc3
    refine condB_not (fun hk => k50 true w3 hc03 (by rw [hg, hy, hk]; rfl)) (fun hk => tl w3 hc03 (by rw [hg, hk]; simp))
  refine condB_i (fun hx => ?_) (fun hx => ?_)
  · refine Kid_ok (h.chg hc1 (off_no _)) (h2.chg hc1 (off_no _)) m2 e2 fun w2 hc2 => ?_
    have hc02 := hc1.trans0 hc2
    refine condB_not (fun hk => k50 true w2 hc02 (by rw [harg, hx, hk]; rfl)) (fun hk => ?_)
    rw [hk] at harg
    have := ts w2 hc02 (by rw [harg]; simp)
    rw [hx] at this ⊢
    exact this
  · have := ts w1 hc1 (by rw [harg, hx]; rfl)
    rw [hx] at this ⊢
    exact this
end
end Go.Proofs.Ytjjmnfpdkgnmoaa

