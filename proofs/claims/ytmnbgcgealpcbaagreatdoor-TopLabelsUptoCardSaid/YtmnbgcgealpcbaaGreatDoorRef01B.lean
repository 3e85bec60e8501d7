/- LbC TopL TopK TopG Hpx VSort Srt VScope U8 VU8 Str U8F VChar VRef01 Chr U8V VStr Ref01B -/
import Derived.Test.YtmnbgcgealpcbaaGreatDoorLbB
import Derived.KernelRfl
import Derived.Lib.DecodeNEq
import Derived.Lib.Strings
import Derived.Lib.ValidAsc
import Derived.Lib.EndianBits
import Derived.Laws.BitsAllLaws
import Derived.Shelf.Unicode.DecodeSlow
/-
  Labels: the new label of a kid.
-/
set_option linter.unusedVariables false
set_option linter.unusedSimpArgs false
namespace Go.Vc
open Go
theorem arg_eq (up l r : List Int) : argB up l r = (decide ((lab up).2 ≠ 0) || (decide (l ≠ []) && !kidB up l) || (decide (r ≠ []) && !kidB up r) || (decide (l ≠ []) && decide (r ≠ []) && decide (cmpL l r ≥ 0))) := by
  unfold argB
  rw [Bool.eq_iff_iff]
  simp only [decide_eq_true_eq, Bool.or_eq_true, Bool.and_eq_true, Bool.not_eq_true', or_assoc, and_assoc]
  have : cmpL l r ≠ -1 ↔ cmpL l r ≥ 0 := by rcases cmpL_cases l r with e | e | e <;> rw [e] <;> decide
  rw [this]
theorem midL_even {a : Int} {x y : List Int} : midL (a :: x) (a :: y) = a :: midL x y := by rw [midL, if_pos rfl]
theorem midL_diff {a b : Int} {x y : List Int} (h : a ≠ b) : midL (a :: x) (b :: y) = amidL (a :: x) (b :: y) := by rw [midL, if_neg h]
/-- Two rests, the first ahead of the second, whose first numbers are one. -/
theorem rest_same {a : Int} {x y : List Int} (hx : KRest (a :: x)) (hy : KRest (a :: y)) (h : cmpL (a :: x) (a :: y) = -1) : KRest x ∧ KRest y ∧ cmpL x y = -1 := by
  have h' : cmpL x y = -1 := by unfold cmpL at h; rwa [if_neg (by omega), if_neg (by omega)] at h
  cases ha : oddZ a with
  | true =>
    rw [hx.odd_one ha, hy.odd_one ha] at h'
    simp [cmpL] at h'
  | false => exact ⟨hx.even_more ha, hy.even_more ha, h'⟩
theorem cmp_head {a b : Int} {x y : List Int} (h : cmpL (a :: x) (b :: y) = -1) (hne : a ≠ b) : a < b := by
  unfold cmpL at h
  split at h
  · assumption
  · split at h
    · simp at h
    · exfalso; omega
theorem lab_len {l : List Int} (h : (lab l).2 = 0) : l.length ≤ 480 := by
  obtain ⟨_, h2, _⟩ := lab_ok h
  have : ∀ l : List Int, 2 * l.length ≤ (flatB l).length := by
    intro l
    induction l with
    | nil => simp
    | cons v l ih => rw [flatB_cons, List.length_append, List.length_cons]; have := bitsV_len_pos v; omega
  have := this l
  omega
end Go.Vc
namespace Go.Proofs.YtmnbgcgealpcbaaGreatDoor.Lb
open Go Go.Vc

section
variable {w : World}
def Mid (c : Int) : Prop := -2000000000 ≤ c ∧ c ≤ 2000000000
theorem Behind_ok {n : Int} {J : Int → World → Prop} (h : Mid n) (k : J (behindZ n) w) : callJ Tryz.prog fn_label_behind #[.int .i64 n] w [.one (.int .i64)] J := by
  refine c_label_behind ?_
  unfold VC_label_behind Mid at *
  refine Odd_ok ?_
  unfold behindZ at k
  refine condB_i (fun ho => ?_) (fun ho => ?_)
  · rw [if_pos ho] at k; rw [w64_of (by omega) (by omega)]; exact k
  · rw [if_neg (by simp [ho])] at k; rw [w64_of (by omega) (by omega)]; exact k
theorem Ahead_ok {n : Int} {J : Int → World → Prop} (h : Mid n) (k : J (aheadZ n) w) : callJ Tryz.prog fn_label_ahead #[.int .i64 n] w [.one (.int .i64)] J := by
  refine c_label_ahead ?_
  unfold VC_label_ahead Mid at *
  refine Odd_ok ?_
  unfold aheadZ at k
  refine condB_i (fun ho => ?_) (fun ho => ?_)
  · rw [if_pos ho] at k; rw [w64_of (by omega) (by omega)]; exact k
  · rw [if_neg (by simp [ho])] at k; rw [w64_of (by omega) (by omega)]; exact k
theorem Amid_ok {p q : Option Addr} {l c l2 c2 : Nat} {a b : Int} {x y : List Int} {J : Option Addr → Nat → Nat → World → Prop} (h : Ints w p l (a :: x)) (h2 : Ints w q l2 (b :: y)) (hx : KRest (a :: x)) (hy : KRest (b :: y)) (hlt : a < b)
    (mx : ∀ v ∈ a :: x, Mid v) (my : ∀ v ∈ b :: y, Mid v) (k : ∀ q' m d w', Row w' T_int 1 q' m d (ints (amidL (a :: x) (b :: y))) → fresh w q' → Chg No w w' → J q' m d w') :
    callJ Tryz.prog fn_label_amid #[.slice p l c, .slice q l2 c2] w [.one .slice] J := by
  refine c_label_amid ?_
  unfold VC_label_amid
  have hl := h.len
  have hl2 := h2.len
  rw [List.length_cons] at hl hl2
  have hcd : Chg No w w.drew := (Chg.refl _ _).drew
  refine int_i (h.chg hcd (off_no _)) (by decide) (by omega) fun a' ha => ?_
  refine int_i (h2.chg hcd (off_no _)) (by decide) (by omega) fun b' hb => ?_
  simp only [Int.toNat_zero, List.getElem?_cons_zero, Option.some.injEq] at ha hb
  subst ha; subst hb
  rw [show amidL (a :: x) (b :: y) = amidC a b ((a :: x).getD 1 0) ((b :: y).getD 1 0) from rfl] at k
  unfold amidC at k
  have ma := mx a (by simp)
  have hma := ma
  unfold Mid at hma
  have hba := behind_odd a
  refine Behind_ok ma ?_
  refine condB_d (fun c1 => ?_) (fun c1 => ?_)
  · rw [if_pos c1] at k
    refine Behind_ok ma ?_
    refine newRow (sz := 1) (n := 1) rfl (by decide) fun b1 w1 hr1 hb1 hc1 => ?_
    exact k _ _ _ w1 hr1 (by rintro z ⟨⟩; exact hb1) (hcd.trans0 hc1)
  rw [if_neg c1] at k
  rw [w64_of (n := a + 2) (by omega) (by omega), w64_of (n := a + 1) (by omega) (by omega)]
  refine condB_eq (fun c2 => ?_) (fun c2 => ?_)
  · rw [if_pos c2] at k
    refine newRow (sz := 1) (n := 2) rfl (by decide) fun b1 w1 hr1 hb1 hc1 => ?_
    exact k _ _ _ w1 hr1 (by rintro z ⟨⟩; exact hb1) (hcd.trans0 hc1)
  rw [if_neg c2] at k
  refine Odd_ok ?_
  have hod := oddZ_iff (v := a)
  refine condB_i (fun ho => ?_) (fun ho => ?_)
  · rw [if_pos ho] at k
    have hbo : oddZ b = false := by
      have h1 := hod.1 ho
      unfold behindZ at c1
      rw [if_pos ho] at c1
      cases h2 : oddZ b with
      | false => rfl
      | true => have := oddZ_iff.1 h2; omega
    have hr := hy.even_more hbo
    cases y with
    | nil => exact absurd rfl hr.ne
    | cons d y =>
      refine int_i (h2.chg hcd (off_no _)) (by decide) (by rw [← hl2, List.length_cons]; omega) fun d' hd => ?_
      simp at hd; subst hd
      refine Ahead_ok (my d (by simp)) ?_
      refine newRow (sz := 1) (n := 2) rfl (by decide) fun b1 w1 hr1 hb1 hc1 => ?_
      exact k _ _ _ w1 hr1 (by rintro z ⟨⟩; exact hb1) (hcd.trans0 hc1)
  · rw [if_neg (by simp [ho])] at k
    have hr := hx.even_more ho
    cases x with
    | nil => exact absurd rfl hr.ne
    | cons d x =>
      refine int_i (h.chg hcd (off_no _)) (by decide) (by rw [← hl, List.length_cons]; omega) fun d' hd => ?_
      simp at hd; subst hd
      refine Behind_ok (mx d (by simp)) ?_
      refine newRow (sz := 1) (n := 2) rfl (by decide) fun b1 w1 hr1 hb1 hc1 => ?_
      exact k _ _ _ w1 hr1 (by rintro z ⟨⟩; exact hb1) (hcd.trans0 hc1)

theorem lab_mid {l : List Int} (h : (lab l).2 = 0) : ∀ v ∈ l, Mid v := by
  intro v hv
  have := bad_range (lab_ok h).1 v hv
  unfold Mid; omega
theorem kid_lab {u l : List Int} (h : kidB u l = true) : (lab l).2 = 0 := (of_decide_eq_true h).2.1

/-- What of Between asks what is handed in: the same of the program's and of the document's. -/
theorem Between_ok {p q s : Option Addr} {l c l2 c2 l3 c3 : Nat} {up xs ys : List Int} {J : Option Addr → Nat → Nat → Int → World → Prop} (h : Ints w p l up) (h2 : Ints w q l2 xs) (h3 : Ints w s l3 ys) (hp : p = none → l = 0)
    (m1 : l ≤ 17592186043904) (m2 : l2 ≤ 17592186043904) (m3 : l3 ≤ 17592186043904) (e1 : l ≤ c) (e2 : l2 ≤ c2) (e3 : l3 ≤ c3)
    (K : ∀ q m d w', Row w' T_int 1 q m d (ints (betL up xs ys).1) → fresh w q → Chg No w w' → J q m d (betL up xs ys).2 w') :
    callJ Tryz.prog fn_label_Between #[.slice p l c, .slice q l2 c2, .slice s l3 c3] w [.one .slice, .one (.int .i64)] J := by
  refine c_label_Between ?_
  unfold VC_label_Between
  have hl := h.len
  have hl2 := h2.len
  have hl3 := h3.len
  have n2 : (decide (((l2 : Nat) : Int) > 0)) = decide (xs ≠ []) := by
    apply decide_eq_decide.2
    exact ⟨fun h e => by rw [e] at hl2; simp at hl2; omega, fun h => by have := List.length_pos_iff.2 h; omega⟩
  have n3 : (decide (((l3 : Nat) : Int) > 0)) = decide (ys ≠ []) := by
    apply decide_eq_decide.2
    exact ⟨fun h e => by rw [e] at hl3; simp at hl3; omega, fun h => by have := List.length_pos_iff.2 h; omega⟩
  rw [n2, n3]
  have z2 : (((l2 : Nat) : Int) == 0) = decide (xs = []) := by
    rw [Bool.eq_iff_iff]; simp only [beq_iff_eq, decide_eq_true_eq]
    exact ⟨fun h => List.eq_nil_of_length_eq_zero (by omega), fun e => by rw [e] at hl2; simp at hl2; omega⟩
  have z3 : (((l3 : Nat) : Int) == 0) = decide (ys = []) := by
    rw [Bool.eq_iff_iff]; simp only [beq_iff_eq, decide_eq_true_eq]
    exact ⟨fun h => List.eq_nil_of_length_eq_zero (by omega), fun e => by rw [e] at hl3; simp at hl3; omega⟩
  rw [z2, z3]
  refine withJ_i fun J50 hJ50 => ?_
  have k50 : ∀ b w1, Chg No w w1 → b = argB up xs ys → J50 b w1 := by
    intro b w1 hc1 hb; subst hJ50
    refine condB_i (fun hx => ?_) (fun hx => ?_)
    · have e : betL up xs ys = ([], 1) := by unfold betL; rw [← hb, if_pos hx]
      rw [e] at K
      exact K none 0 0 w1 (Row.nil _ _ _) (by rintro a ⟨⟩) hc1
    rw [hx] at hb
    obtain ⟨a1, a2, a3, a4⟩ := arg_split hb.symm
    have hupl := lab_len a1
    have hul : up.length = l := hl
    refine IClone_ok (h.chg hc1 (off_no _)) hp m1 fun pu cu w2 hru hfu hc2 => ?_
    have hc02 := hc1.trans0 hc2
    have hfu' : fresh w pu := fun a ha => Nat.le_trans hc1.size (hfu a ha)
    refine withJ_i fun J8 hJ8 => ?_
    have k8 : ∀ qn mn dn w3, Row w3 T_int 1 qn mn dn (ints (newL up xs ys)) → fresh w qn → Chg No w w3 → mn ≤ 100000 → J8 qn mn dn w3 := by
      intro qn mn dn w3 hrn hfn hcn hmn; subst hJ8
      have hI : Ints w3 qn mn (newL up xs ys) := hrn.sl
      refine Check_ok hI (by omega) fun w4 hc4 => ?_
      refine condB_ne (fun hne => ?_) (fun he => ?_)
      · have e : betL up xs ys = ([], 5) := by unfold betL; rw [← hb, if_neg (by simp), if_pos hne]
        rw [e] at K
        exact K none 0 0 w4 (Row.nil _ _ _) (by rintro a ⟨⟩) (hcn.trans0 hc4)
      · have e : betL up xs ys = (newL up xs ys, 0) := by unfold betL; rw [← hb, if_neg (by simp), if_neg (fun h => h he)]
        rw [e] at K
        exact K qn mn dn w4 (hrn.chg hc4 (off_no _)) hfn (hcn.trans0 hc4)
    clear hJ8
    -- one number behind the parent
    have one : ∀ (n : Int) w3, newL up xs ys = up ++ [n] → Chg No w2 w3 →
        newB w3 (.cells ⟨[.int .i64 n]⟩ T_int) fun b88 w6 => appJ Tryz.prog T_sl_int T_sl_int (.slice pu l cu) (.slice (some ⟨b88, 0, none⟩) 1 1) w6 fun q89p q89l q89c w7 => J8 q89p q89l q89c w7 := by
      intro n w3 hn hc3
      refine appI (hru.chg hc3 (off_no _)) (by omega) hfu' (hc02.trans0 hc3) fun p' c' w' hr' hf' hc' _ => ?_
      rw [← hn] at hr'
      exact k8 p' (l + 1) c' w' hr' hf' hc' (by omega)
    refine withJ_i fun J78 hJ78 => ?_
    have k78 : ∀ b, (b = true ↔ xs = [] ∧ ys = []) → J78 b w2 := by
      intro b hbb; subst hJ78
      have hx2 := h2.chg hc02 (off_no _)
      have hx3 := h3.chg hc02 (off_no _)
      refine condB_i (fun hy => ?_) (fun hy => ?_)
      · obtain ⟨ex, ey⟩ := hbb.1 hy
        exact one 1 w2 (by unfold newL; rw [if_pos ex, if_pos ey]) (Chg.refl _ _)
      refine condB_d (fun hyn => ?_) (fun hyn => ?_)
      · have hxn : xs ≠ [] := fun e => by rw [hbb.2 ⟨e, hyn⟩] at hy; cases hy
        obtain ⟨x, rfl, hxr⟩ := kid_rest (a2 hxn)
        rw [List.length_append] at hl2
        have hxp := List.length_pos_iff.2 hxr.ne
        refine int_i hx2 (by omega) (by omega) fun v hv => ?_
        rw [Int.toNat_natCast] at hv
        refine Behind_ok (lab_mid (kid_lab (a2 hxn)) v (List.mem_of_getElem? hv)) ?_
        refine one _ w2 ?_ (Chg.refl _ _)
        unfold newL
        rw [if_neg hxn, if_pos hyn, List.getD_eq_getElem?_getD, hul, hv]; rfl
      refine condB_d (fun hxn => ?_) (fun hxn => ?_)
      · obtain ⟨y, rfl, hyr⟩ := kid_rest (a3 hyn)
        rw [List.length_append] at hl3
        have hyp := List.length_pos_iff.2 hyr.ne
        refine int_i hx3 (by omega) (by omega) fun v hv => ?_
        rw [Int.toNat_natCast] at hv
        refine Ahead_ok (lab_mid (kid_lab (a3 hyn)) v (List.mem_of_getElem? hv)) ?_
        refine one _ w2 ?_ (Chg.refl _ _)
        unfold newL
        rw [if_pos hxn, if_neg hyn, List.getD_eq_getElem?_getD, hul, hv]; rfl
      -- both are there
      obtain ⟨x, rfl, hxr⟩ := kid_rest (a2 hxn)
      obtain ⟨y, rfl, hyr⟩ := kid_rest (a3 hyn)
      have hcmp := a4 hxn hyn
      rw [cmpL_append] at hcmp
      have hnew : newL up (up ++ x) (up ++ y) = up ++ midL x y := by
        unfold newL; rw [if_neg hxn, if_neg hyn, List.drop_left, List.drop_left]
      have hxl := lab_len (kid_lab (a2 hxn))
      have mx := lab_mid (kid_lab (a2 hxn))
      have my := lab_mid (kid_lab (a3 hyn))
      refine ⟨fun z w' t => ∃ (k : Nat) (x' y' : List Int), z = k ∧ l ≤ k ∧ k ≤ l2 ∧ t = l2 - k ∧ Chg No w2 w' ∧ (up ++ x).drop k = x' ∧ (up ++ y).drop k = y' ∧ KRest x' ∧ KRest y' ∧ cmpL x' y' = -1 ∧ up ++ midL x y = (up ++ x).take k ++ midL x' y',
        ⟨_, l, x, y, rfl, Nat.le_refl _, by rw [← hl2, List.length_append]; omega, rfl, Chg.refl _ _, by rw [← hul, List.drop_left], by rw [← hul, List.drop_left], hxr, hyr, hcmp, by rw [← hul, List.take_left]⟩, ?_⟩
      rintro z w4 t ⟨k, x', y', rfl, hlk, hkl, rfl, hc4, ex, ey, rx, ry, hcc, hmid⟩
      have hc4d := hc4.drew
      have hkx : k < l2 := by
        rcases Nat.lt_or_ge k l2 with h | h
        · exact h
        · exfalso; apply rx.ne; rw [← ex]; exact List.drop_of_length_le (by omega)
      have hky : k < l3 := by
        rcases Nat.lt_or_ge k l3 with h | h
        · exact h
        · exfalso; apply ry.ne; rw [← ey]; exact List.drop_of_length_le (by omega)
      refine int_i (hx2.chg hc4d (off_no _)) (by omega) (by omega) fun a ha => ?_
      refine int_i (hx3.chg hc4d (off_no _)) (by omega) (by omega) fun b hb => ?_
      rw [Int.toNat_natCast] at ha hb
      obtain ⟨g1, g2⟩ := List.getElem?_eq_some_iff.1 ha
      obtain ⟨g3, g4⟩ := List.getElem?_eq_some_iff.1 hb
      have ex2 : x' = a :: (up ++ x).drop (k + 1) := by rw [← ex, List.drop_eq_getElem_cons g1, g2]
      have ey2 : y' = b :: (up ++ y).drop (k + 1) := by rw [← ey, List.drop_eq_getElem_cons g3, g4]
      refine condB_eq (fun hab => ?_) (fun hab => ?_)
      · subst hab
        rw [ex2] at rx hcc hmid
        rw [ey2] at ry hcc hmid
        obtain ⟨r1, r2, r3⟩ := rest_same rx ry hcc
        refine ⟨_, by omega, k + 1, _, _, by rw [w64_of] <;> omega, by omega, by omega, rfl, hc4d, rfl, rfl, r1, r2, r3, ?_⟩
        rw [hmid, midL_even, take_snoc ha, List.append_assoc]; rfl
      · refine cutI (hx2.chg hc4d (off_no _)) (i := 0) (j := k) (Nat.zero_le _) (by omega) e2 rfl rfl fun q1 hq1 hn1 => ?_
        refine cutI (hx2.chg hc4d (off_no _)) (i := k) (j := l2) (by omega) (Nat.le_refl _) e2 rfl rfl fun q2 hq2 hn2 => ?_
        refine cutI (hx3.chg hc4d (off_no _)) (i := k) (j := l3) (by omega) (Nat.le_refl _) e3 rfl rfl fun q3 hq3 hn3 => ?_
        rw [List.drop_zero, Nat.sub_zero] at hq1
        rw [Nat.sub_zero] at hn1 ⊢
        rw [List.take_of_length_le (by rw [List.length_drop]; omega)] at hq2 hq3
        rw [ex, ex2] at hq2
        rw [ey, ey2] at hq3
        rw [ex2] at rx hcc hmid
        rw [ey2] at ry hcc hmid
        have hc4dd := hc4d.drew
        have cdd : Chg No w4.drew w4.drew.drew := (Chg.refl _ _).drew
        refine IClone_ok (hq1.chg cdd (off_no _)) hn1 (by omega) fun p5 c5 w5 hr5 hf5 hc5 => ?_
        have hc5' := hc4dd.trans0 hc5
        refine Amid_ok ((hq2.chg cdd (off_no _)).chg hc5 (off_no _)) ((hq3.chg cdd (off_no _)).chg hc5 (off_no _)) rx ry (cmp_head hcc hab)
          (fun v hv => mx v (List.mem_of_mem_drop (i := k) (by rw [ex, ex2]; exact hv))) (fun v hv => my v (List.mem_of_mem_drop (i := k) (by rw [ey, ey2]; exact hv))) fun p6 m6 c6 w6 hr6 hf6 hc6 => ?_
        have ham : (amidL (a :: (up ++ x).drop (k + 1)) (b :: (up ++ y).drop (k + 1))).length ≤ 2 := by
          rw [show ∀ A B : List Int, amidL A B = amidC (A.headD 0) (B.headD 0) (A.getD 1 0) (B.getD 1 0) from fun _ _ => rfl]
          unfold amidC
          repeat' split
          all_goals simp
        have hm6 : m6 ≤ 2 := by have := hr6.len; rw [ints_length] at this; omega
        have hc06 := (hc02.trans0 hc5').trans0 hc6
        refine appJ_row slT_int (hr5.chg hc6 (off_no _)) hr6.sl (one1_ints7 _) (fun e => hr6.none0 e) (by omega) (by simp only [maxLen]; omega) fun p7 c7 w7 hr7 hc7 hf7 => ?_
        have f5 : fresh w p5 := fun a ha => by have := hf5 a ha; have := (hc02.trans0 hc4dd).size; omega
        have e : ints ((up ++ x).take k) ++ ints (amidL (a :: (up ++ x).drop (k + 1)) (b :: (up ++ y).drop (k + 1))) = ints (newL up (up ++ x) (up ++ y)) := by
          rw [hnew, hmid, midL_diff hab]; simp [ints]
        rw [e] at hr7
        refine k8 p7 _ c7 w7 hr7 ?_ (hc06.trans hc7 (fresh_no f5)) (by omega)
        rcases hf7 with rfl | hf7
        · exact f5
        · intro a ha; have := hf7 a ha; have := hc06.size; omega
    clear hJ78
    refine condB_d (fun hxe => ?_) (fun hxe => k78 false ⟨fun h => (by cases h), fun h => absurd h.1 hxe⟩)
    exact k78 _ (Iff.intro (fun h => ⟨hxe, of_decide_eq_true h⟩) (fun h => decide_eq_true h.2))
  clear hJ50
  have harg := arg_eq up xs ys
  refine Check_ok h (by omega) fun w1 hc1 => ?_
  refine condB_ne (fun hne => k50 true w1 hc1 (by rw [harg, decide_eq_true hne]; rfl)) (fun he => ?_)
  rw [show decide ((lab up).2 ≠ 0) = false from decide_eq_false (fun h => h he), Bool.false_or] at harg
  -- the last test
  have tl : ∀ w2, Chg No w w2 → argB up xs ys = (decide (xs ≠ []) && decide (ys ≠ []) && decide (cmpL xs ys ≥ 0)) →
      condB (decide (xs ≠ [])) (condB (decide (ys ≠ [])) (callJ Tryz.prog fn_label_Compare #[.slice q l2 c2, .slice s l3 c3] w2 [.one (.int .i64)] fun (r47 : Int) (w21 : World) => J50 (decide (r47 ≥ (0 : Int))) w21) (J50 false w2)) (J50 false w2) := by
    intro w2 hc2 hg
    refine condB_i (fun hx => ?_) (fun hx => k50 false w2 hc2 (by rw [hg, hx]; rfl))
    refine condB_i (fun hy => ?_) (fun hy => k50 false w2 hc2 (by rw [hg, hx, hy]; rfl))
    exact Compare_ok (h2.chg hc2 (off_no _)) (h3.chg hc2 (off_no _)) (by omega) (k50 _ w2 hc2 (by rw [hg, hx, hy]; rfl))
  -- the second kid
  have ts : ∀ w2, Chg No w w2 → argB up xs ys = ((decide (ys ≠ []) && !kidB up ys) || (decide (xs ≠ []) && decide (ys ≠ []) && decide (cmpL xs ys ≥ 0))) →
      condB (decide (ys ≠ [])) (callJ Tryz.prog fn_label_kid #[.slice p l c, .slice s l3 c3] w2 [.one .bool] fun (r31 : Bool) (w20 : World) =>
        condB (!r31) (J50 true w20) (condB (decide (xs ≠ [])) (condB (decide (ys ≠ [])) (callJ Tryz.prog fn_label_Compare #[.slice q l2 c2, .slice s l3 c3] w20 [.one (.int .i64)] fun (r47 : Int) (w21 : World) => J50 (decide (r47 ≥ (0 : Int))) w21) (J50 false w20)) (J50 false w20)))
        (condB (decide (xs ≠ [])) (condB (decide (ys ≠ [])) (callJ Tryz.prog fn_label_Compare #[.slice q l2 c2, .slice s l3 c3] w2 [.one (.int .i64)] fun (r47 : Int) (w21 : World) => J50 (decide (r47 ≥ (0 : Int))) w21) (J50 false w2)) (J50 false w2)) := by
    intro w2 hc2 hg
    refine condB_i (fun hy => ?_) (fun hy => tl w2 hc2 (by rw [hg, hy]; simp))
    refine Kid_ok (h.chg hc2 (off_no _)) (h3.chg hc2 (off_no _)) m3 e3 fun w3 hc3 => ?_
    have hc03 := hc2.trans0 hc3
    refine condB_not (fun hk => k50 true w3 hc03 (by rw [hg, hy, hk]; rfl)) (fun hk => tl w3 hc03 (by rw [hg, hk]; simp))
  refine condB_i (fun hx => ?_) (fun hx => ?_)
  · refine Kid_ok (h.chg hc1 (off_no _)) (h2.chg hc1 (off_no _)) m2 e2 fun w2 hc2 => ?_
    have hc02 := hc1.trans0 hc2
    refine condB_not (fun hk => k50 true w2 hc02 (by rw [harg, hx, hk]; rfl)) (fun hk => ?_)
    rw [hk] at harg
    have := ts w2 hc02 (by rw [harg]; simp)
    rw [hx] at this ⊢
    exact this
  · have := ts w1 hc1 (by rw [harg, hx]; rfl)
    rw [hx] at this ⊢
    exact this
end
end Go.Proofs.YtmnbgcgealpcbaaGreatDoor.Lb


/-
  Plain: labels stand as the paths do.
-/
set_option linter.unusedVariables false
set_option linter.unusedSimpArgs false
namespace Go.Vc
open Go

theorem rev_ind {α : Type} {motive : List α → Prop} (nil : motive []) (snoc : ∀ l a, motive l → motive (l ++ [a])) (l : List α) : motive l := by
  have : ∀ (n : Nat) (l : List α), l.length ≤ n → motive l := by
    intro n
    induction n with
    | zero =>
      intro l h
      have e : l = [] := List.eq_nil_of_length_eq_zero (by omega)
      rw [e]; exact nil
    | succ n ih =>
      intro l h
      rcases List.eq_nil_or_concat l with rfl | ⟨a, v, rfl⟩
      · exact nil
      · rw [List.concat_eq_append] at *
        exact snoc a v (ih a (by rw [List.length_append, List.length_singleton] at h; omega))
  exact this l.length l (Nat.le_refl _)
theorem cmpL_gt {a b : Int} {x y : List Int} (h : b < a) : cmpL (a :: x) (b :: y) = 1 := by rw [cmpL, if_neg (by omega), if_pos h]
theorem cmpL_rev (u a : List Int) (h : a ≠ []) : cmpL (u ++ a) u = 1 := by
  have := cmpL_append u a []
  rw [List.append_nil] at this
  rw [this]
  cases a with
  | nil => exact absurd rfl h
  | cons v a => rfl
/-- Two lists: one begins the other one, or they part. -/
theorem two_lists : ∀ (p q : List Int), (∃ s, q = p ++ s) ∨ (∃ s, s ≠ [] ∧ p = q ++ s) ∨ ∃ c a b s t, a ≠ b ∧ p = c ++ a :: s ∧ q = c ++ b :: t
  | [], q => .inl ⟨q, rfl⟩
  | x :: p, [] => .inr (.inl ⟨x :: p, by simp, rfl⟩)
  | x :: p, y :: q => by
    by_cases h : x = y
    · subst h
      rcases two_lists p q with ⟨s, rfl⟩ | ⟨s, hs, rfl⟩ | ⟨c, a, b, s, t, hab, rfl, rfl⟩
      · exact .inl ⟨s, rfl⟩
      · exact .inr (.inl ⟨s, hs, rfl⟩)
      · exact .inr (.inr ⟨x :: c, a, b, s, t, hab, rfl, rfl⟩)
    · exact .inr (.inr ⟨[], x, y, p, q, h, rfl, rfl⟩)
/-- Rests part before either ends. -/
theorem rest_part {x y : List Int} (hx : KRest x) : ∀ {y : List Int}, KRest y → cmpL x y = -1 → ∃ u e f s t, e < f ∧ x = u ++ e :: s ∧ y = u ++ f :: t := by
  induction hx with
  | @one v hv =>
    intro y hy h
    cases hy with
    | @one u hu =>
      by_cases e : v < u
      · exact ⟨[], v, u, [], [], e, rfl, rfl⟩
      · exfalso
        unfold cmpL at h
        rw [if_neg e] at h
        split at h
        · simp at h
        · simp [cmpL] at h
    | @more u r hu hr =>
      by_cases e : v < u
      · exact ⟨[], v, u, [], r, e, rfl, rfl⟩
      · exfalso
        unfold cmpL at h
        rw [if_neg e] at h
        split at h
        · simp at h
        · have : v = u := by omega
          rw [this, hu] at hv; cases hv
  | @more v r hv hr ih =>
    intro y hy h
    cases hy with
    | @one u hu =>
      by_cases e : v < u
      · exact ⟨[], v, u, r, [], e, rfl, rfl⟩
      · exfalso
        unfold cmpL at h
        rw [if_neg e] at h
        split at h
        · simp at h
        · have : v = u := by omega
          rw [this, hu] at hv; cases hv
    | @more u r2 hu hr2 =>
      by_cases e : v < u
      · exact ⟨[], v, u, r, r2, e, rfl, rfl⟩
      · unfold cmpL at h
        rw [if_neg e] at h
        split at h
        · simp at h
        · have hvu : v = u := by omega
          subst hvu
          obtain ⟨w, e1, f1, s, t, hl, rfl, rfl⟩ := ih hr2 h
          exact ⟨v :: w, e1, f1, s, t, hl, rfl, rfl⟩
theorem above_len {a b : List Int} (h : b.length ≤ a.length) : aboveB a b = false := decide_eq_false fun x => by omega
theorem above_part {c : List Int} {a b : Int} {s t : List Int} (h : a ≠ b) : aboveB (c ++ a :: s) (c ++ b :: t) = false := by
  cases hb : aboveB (c ++ a :: s) (c ++ b :: t) with
  | false => rfl
  | true =>
    exfalso
    obtain ⟨x, _, e⟩ := above_of hb
    rw [List.append_assoc] at e
    have := List.append_cancel_left e
    simp only [List.cons_append, List.cons.injEq] at this
    exact h this.1.symm
/-- Paths of a tree: each one's parent is among them; they stand in order. -/
structure PathsOk (Ps : List (List Int)) : Prop where
  root : Ps[0]? = some []
  asc : Ps.Pairwise fun a b => cmpL a b = -1
  par : ∀ p ∈ Ps, p.dropLast ∈ Ps
theorem PathsOk.lt {Ps : List (List Int)} (h : PathsOk Ps) {i j : Nat} {p q : List Int} (hi : Ps[i]? = some p) (hj : Ps[j]? = some q) (hl : i < j) : cmpL p q = -1 := by
  obtain ⟨i1, rfl⟩ := List.getElem?_eq_some_iff.1 hi
  obtain ⟨j1, rfl⟩ := List.getElem?_eq_some_iff.1 hj
  exact List.pairwise_iff_getElem.1 h.asc i j i1 j1 hl
theorem PathsOk.of_lt {Ps : List (List Int)} (h : PathsOk Ps) {i j : Nat} {p q : List Int} (hi : Ps[i]? = some p) (hj : Ps[j]? = some q) (hc : cmpL p q = -1) : i < j := by
  rcases Nat.lt_trichotomy i j with e | e | e
  · exact e
  · subst e
    rw [hi] at hj
    rw [Option.some.inj hj, cmpL_refl] at hc
    cases hc
  · have := cmpL_trans (h.lt hj hi e) hc
    rw [cmpL_refl] at this; cases this
theorem PathsOk.inj {Ps : List (List Int)} (h : PathsOk Ps) {i j : Nat} {p : List Int} (hi : Ps[i]? = some p) (hj : Ps[j]? = some p) : i = j := by
  rcases Nat.lt_trichotomy i j with e | e | e
  · have := h.lt hi hj e
    rw [cmpL_refl] at this; cases this
  · exact e
  · have := h.lt hj hi e
    rw [cmpL_refl] at this; cases this
theorem PathsOk.pre {Ps : List (List Int)} (h : PathsOk Ps) : ∀ (s p : List Int), p ++ s ∈ Ps → p ∈ Ps := by
  intro s
  induction s using rev_ind with
  | nil => intro p hp; simpa using hp
  | snoc s k ih =>
    intro p hp
    have := h.par _ hp
    rw [← List.append_assoc, List.dropLast_concat] at this
    exact ih p this
/-- Labels of all nodes: a kid's is its parent's and a rest; kids' stand as the kids. -/
structure LabelsOk (Ps L : List (List Int)) : Prop where
  len : L.length = Ps.length
  root : L[0]? = some []
  kid : ∀ (i j : Nat) (p l u : List Int), Ps[i]? = some p → p ≠ [] → Ps[j]? = some p.dropLast → L[i]? = some l → L[j]? = some u → ∃ r, l = u ++ r ∧ KRest r
  sib : ∀ (i j : Nat) (p q l m : List Int), Ps[i]? = some p → Ps[j]? = some q → p ≠ [] → q ≠ [] → p.dropLast = q.dropLast → i < j → L[i]? = some l → L[j]? = some m → cmpL l m = -1
variable {Ps L : List (List Int)}
/-- The label of a path. -/
def IsLab (Ps L : List (List Int)) (p l : List Int) : Prop := ∃ i : Nat, Ps[i]? = some p ∧ L[i]? = some l
theorem LabelsOk.ex (h : LabelsOk Ps L) {p : List Int} (hp : p ∈ Ps) : ∃ l, IsLab Ps L p l := by
  obtain ⟨i, hi⟩ := List.mem_iff_getElem?.1 hp
  have := (List.getElem?_eq_some_iff.1 hi).1
  exact ⟨L[i]'(by rw [h.len]; exact this), i, hi, List.getElem?_eq_getElem _⟩
theorem LabelsOk.one (hP : PathsOk Ps) (h : LabelsOk Ps L) {p l m : List Int} (h1 : IsLab Ps L p l) (h2 : IsLab Ps L p m) : l = m := by
  obtain ⟨i, a, b⟩ := h1
  obtain ⟨j, c, d⟩ := h2
  have := hP.inj a c
  subst this
  rw [b] at d
  exact Option.some.inj d
theorem LabelsOk.step (hP : PathsOk Ps) (h : LabelsOk Ps L) {p l u : List Int} {k : Int} (h1 : IsLab Ps L (p ++ [k]) l) (h2 : IsLab Ps L p u) : ∃ r, l = u ++ r ∧ KRest r := by
  obtain ⟨i, a, b⟩ := h1
  obtain ⟨j, c, d⟩ := h2
  exact h.kid i j _ l u a (by simp) (by rw [List.dropLast_concat]; exact c) b d
theorem LabelsOk.below (hP : PathsOk Ps) (h : LabelsOk Ps L) : ∀ (s p l u : List Int), IsLab Ps L (p ++ s) l → IsLab Ps L p u → ∃ x, l = u ++ x ∧ (s ≠ [] → x ≠ []) := by
  intro s
  induction s using rev_ind with
  | nil =>
    intro p l u h1 h2
    rw [List.append_nil] at h1
    exact ⟨[], by rw [List.append_nil]; exact h.one hP h1 h2, fun e => absurd rfl e⟩
  | snoc s k ih =>
    intro p l u h1 h2
    rw [← List.append_assoc] at h1
    obtain ⟨i, hi, _⟩ := h1
    have hm := hP.par _ (List.mem_of_getElem? hi)
    rw [List.dropLast_concat] at hm
    obtain ⟨v, hv⟩ := h.ex hm
    obtain ⟨x, rfl, _⟩ := ih p v u hv h2
    obtain ⟨r, rfl, hr⟩ := h.step hP ⟨i, hi, by assumption⟩ hv
    exact ⟨x ++ r, by simp, fun _ e => hr.ne (List.append_eq_nil_iff.1 e).2⟩
theorem LabelsOk.lev (hP : PathsOk Ps) (h : LabelsOk Ps L) : ∀ (p l : List Int), IsLab Ps L p l → levL l = p.length := by
  intro p
  induction p using rev_ind with
  | nil =>
    intro l h1
    have : IsLab Ps L [] [] := ⟨0, hP.root, h.root⟩
    rw [h.one hP h1 this]; rfl
  | snoc s k ih =>
    intro l h1
    obtain ⟨i, hi, hl⟩ := h1
    have hm := hP.par _ (List.mem_of_getElem? hi)
    rw [List.dropLast_concat] at hm
    obtain ⟨v, hv⟩ := h.ex hm
    obtain ⟨r, rfl, hr⟩ := h.step hP ⟨i, hi, hl⟩ hv
    have e1 := ih v hv
    have e2 := hr.lev
    unfold levL at e1 e2 ⊢
    rw [List.countP_append, e1, e2, List.length_append]; rfl
theorem LabelsOk.apart (hP : PathsOk Ps) (h : LabelsOk Ps L) {c : List Int} {a b : Int} {s t l m : List Int} (hab : a < b) (h1 : IsLab Ps L (c ++ a :: s) l) (h2 : IsLab Ps L (c ++ b :: t) m) : ∃ u e f x y, e < f ∧ l = u ++ e :: x ∧ m = u ++ f :: y := by
  have e1 : c ++ a :: s = c ++ [a] ++ s := by simp
  have e2 : c ++ b :: t = c ++ [b] ++ t := by simp
  rw [e1] at h1
  rw [e2] at h2
  have m1 : c ++ [a] ∈ Ps := hP.pre s _ (by obtain ⟨i, hi, _⟩ := h1; exact List.mem_of_getElem? hi)
  have m2 : c ++ [b] ∈ Ps := hP.pre t _ (by obtain ⟨i, hi, _⟩ := h2; exact List.mem_of_getElem? hi)
  have m0 : c ∈ Ps := by have := hP.par _ m1; rwa [List.dropLast_concat] at this
  obtain ⟨u, hu⟩ := h.ex m0
  obtain ⟨la, ha⟩ := h.ex m1
  obtain ⟨lb, hb⟩ := h.ex m2
  obtain ⟨x, rfl, _⟩ := h.below hP s _ _ _ h1 ha
  obtain ⟨y, rfl, _⟩ := h.below hP t _ _ _ h2 hb
  obtain ⟨r1, rfl, k1⟩ := h.step hP ha hu
  obtain ⟨r2, rfl, k2⟩ := h.step hP hb hu
  have hc : cmpL r1 r2 = -1 := by
    obtain ⟨i, hi, li⟩ := ha
    obtain ⟨j, hj, lj⟩ := hb
    have hlt : i < j := hP.of_lt hi hj (by rw [cmpL_append]; exact cmpL_lt hab)
    have := h.sib i j _ _ _ _ hi hj (by simp) (by simp) (by rw [List.dropLast_concat, List.dropLast_concat]) hlt li lj
    rwa [cmpL_append] at this
  obtain ⟨v, e, f, s', t', hef, rfl, rfl⟩ := rest_part (y := r2) k1 k2 hc
  exact ⟨u ++ v, e, f, s' ++ x, t' ++ y, hef, by simp, by simp⟩
/-- LABELS STAND AS THE PATHS. -/
theorem LabelsOk.stand (hP : PathsOk Ps) (h : LabelsOk Ps L) {p q l m : List Int} (h1 : IsLab Ps L p l) (h2 : IsLab Ps L q m) :
    cmpL l m = cmpL p q ∧ aboveB l m = (decide (p ≠ q) && decide (p.length ≤ q.length ∧ p = q.take p.length)) := by
  rcases two_lists p q with ⟨s, rfl⟩ | ⟨s, hs, rfl⟩ | ⟨c, a, b, s, t, hab, rfl, rfl⟩
  · obtain ⟨x, rfl, hx⟩ := h.below hP s p m l h2 h1
    by_cases h0 : s = []
    · subst h0
      rw [List.append_nil] at h2
      have := h.one hP h1 h2
      have hx0 : x = [] := by
        have := congrArg List.length this
        rw [List.length_append] at this
        exact List.eq_nil_of_length_eq_zero (by omega)
      subst hx0
      rw [List.append_nil, List.append_nil, cmpL_refl, cmpL_refl, above_len (Nat.le_refl _)]
      simp
    · rw [cmpL_self _ _ (hx h0), cmpL_self _ _ h0, above_append _ (hx h0)]
      refine ⟨rfl, ?_⟩
      have e1 : p ≠ p ++ s := fun e => h0 (by simpa using e)
      rw [decide_eq_true e1, decide_eq_true ⟨by simp, by rw [List.take_left]⟩]; rfl
  · obtain ⟨x, rfl, hx⟩ := h.below hP s q l m h1 h2
    rw [cmpL_rev _ _ (hx hs), cmpL_rev _ _ hs, above_len (by simp)]
    refine ⟨rfl, ?_⟩
    have hsl := List.length_pos_iff.2 hs
    have : ¬ ((q ++ s).length ≤ q.length ∧ q ++ s = q.take (q ++ s).length) := fun e => by have := e.1; rw [List.length_append] at this; omega
    rw [decide_eq_false this, Bool.and_false]
  · have hno : ¬ ((c ++ a :: s).length ≤ (c ++ b :: t).length ∧ c ++ a :: s = (c ++ b :: t).take (c ++ a :: s).length) := by
      rintro ⟨hle, e⟩
      have e2 : c ++ b :: t = c ++ a :: s ++ (c ++ b :: t).drop (c ++ a :: s).length := by
        conv => lhs; rw [← List.take_append_drop (c ++ a :: s).length (c ++ b :: t), ← e]
      rw [List.append_assoc] at e2
      have := List.append_cancel_left e2
      simp only [List.cons_append, List.cons.injEq] at this
      exact hab this.1.symm
    rw [decide_eq_false hno, Bool.and_false, cmpL_append]
    rcases Int.lt_or_gt_of_ne hab with hlt | hgt
    · obtain ⟨u, e, f, x, y, hef, rfl, rfl⟩ := h.apart hP hlt h1 h2
      rw [cmpL_append, cmpL_lt hef, cmpL_lt hlt, above_part (by omega)]
      exact ⟨rfl, rfl⟩
    · obtain ⟨u, e, f, x, y, hef, rfl, rfl⟩ := h.apart hP hgt h2 h1
      rw [cmpL_append, cmpL_gt hef, cmpL_gt hgt, above_part (by omega)]
      exact ⟨rfl, rfl⟩
end Go.Vc


/-
  Plain: the kids of one node are given their labels, in any order.
-/
set_option linter.unusedVariables false
set_option linter.unusedSimpArgs false
namespace Go.Vc
open Go

/-- The last label ahead of a place; the first behind one. -/
def lastN (X : List (List Int)) : Nat → List Int
  | 0 => []
  | j + 1 => if X.getD j [] ≠ [] then X.getD j [] else lastN X j
def firstN : List (List Int) → List Int
  | [] => []
  | x :: r => if x ≠ [] then x else firstN r
theorem lastN_cases (X : List (List Int)) : ∀ k, (lastN X k = [] ∧ ∀ s, s < k → X.getD s [] = []) ∨ ∃ s, s < k ∧ lastN X k = X.getD s [] ∧ X.getD s [] ≠ [] ∧ ∀ t, s < t → t < k → X.getD t [] = []
  | 0 => .inl ⟨rfl, fun s h => by omega⟩
  | k + 1 => by
    unfold lastN
    by_cases h : X.getD k [] ≠ []
    · rw [if_pos h]
      exact .inr ⟨k, by omega, rfl, h, fun t h1 h2 => by omega⟩
    · rw [if_neg h]
      have h := Decidable.not_not.1 h
      rcases lastN_cases X k with ⟨h1, h2⟩ | ⟨s, h1, h2, h3, h4⟩
      · exact .inl ⟨h1, fun s hs => by
          by_cases e : s = k
          · rw [e]; exact h
          · exact h2 s (by omega)⟩
      · exact .inr ⟨s, by omega, h2, h3, fun t ht1 ht2 => by
          by_cases e : t = k
          · rw [e]; exact h
          · exact h4 t ht1 (by omega)⟩
theorem firstN_cases : ∀ (Y : List (List Int)), (firstN Y = [] ∧ ∀ s, Y.getD s [] = []) ∨ ∃ s, s < Y.length ∧ firstN Y = Y.getD s [] ∧ Y.getD s [] ≠ [] ∧ ∀ t, t < s → Y.getD t [] = []
  | [] => .inl ⟨rfl, fun s => by simp⟩
  | x :: r => by
    unfold firstN
    by_cases h : x ≠ []
    · rw [if_pos h]
      exact .inr ⟨0, by simp, rfl, h, fun t ht => by omega⟩
    · rw [if_neg h]
      have h := Decidable.not_not.1 h
      rcases firstN_cases r with ⟨h1, h2⟩ | ⟨s, h1, h2, h3, h4⟩
      · exact .inl ⟨h1, fun s => by
          cases s with
          | zero => exact h
          | succ s => exact h2 s⟩
      · exact .inr ⟨s + 1, by simp; omega, h2, h3, fun t ht => by
          cases t with
          | zero => exact h
          | succ t => exact h4 t (by omega)⟩
/-- Labels of kids of one node, those that have one. -/
structure KX (up : List Int) (X : List (List Int)) : Prop where
  kid : ∀ s, X.getD s [] ≠ [] → kidB up (X.getD s []) = true
  asc : ∀ s t, s < t → X.getD s [] ≠ [] → X.getD t [] ≠ [] → cmpL (X.getD s []) (X.getD t []) = -1
theorem kid_ne {up l : List Int} (h : kidB up l = true) : l ≠ [] := (of_decide_eq_true h).1
theorem getD_set {X : List (List Int)} {k : Nat} (hk : k < X.length) (m : List Int) (s : Nat) : (X.set k m).getD s [] = if s = k then m else X.getD s [] := by
  rw [List.getD_eq_getElem?_getD, List.getD_eq_getElem?_getD, List.getElem?_set]
  by_cases e : k = s
  · subst e; simp [hk]
  · rw [if_neg e, if_neg (fun e2 => e e2.symm)]
/-- ONE KID MORE. -/
theorem KX.step {up : List Int} {X : List (List Int)} (h : KX up X) (hu : (lab up).2 = 0) {k : Nat} (hk : k < X.length) (h0 : X.getD k [] = []) :
    (betL up (lastN X k) (firstN (X.drop (k + 1)))).2 = 5 ∨ ∃ m, betL up (lastN X k) (firstN (X.drop (k + 1))) = (m, 0) ∧ m ≠ [] ∧ KX up (X.set k m) := by
  have gd : ∀ s, (X.drop (k + 1)).getD s [] = X.getD (k + 1 + s) [] := fun s => by rw [List.getD_eq_getElem?_getD, List.getD_eq_getElem?_getD, List.getElem?_drop]
  have hl := lastN_cases X k
  have hr := firstN_cases (X.drop (k + 1))
  simp only [gd] at hr
  generalize lastN X k = l at *
  generalize firstN (X.drop (k + 1)) = r at *
  have kl : l ≠ [] → kidB up l = true := fun hne => by
    rcases hl with ⟨e, _⟩ | ⟨s, _, e, e2, _⟩
    · exact absurd e hne
    · rw [e]; exact h.kid s e2
  have kr : r ≠ [] → kidB up r = true := fun hne => by
    rcases hr with ⟨e, _⟩ | ⟨s, _, e, e2, _⟩
    · exact absurd e hne
    · rw [e]; exact h.kid _ e2
  have klr : l ≠ [] → r ≠ [] → cmpL l r = -1 := fun h1 h2 => by
    rcases hl with ⟨e, _⟩ | ⟨s, hs, e, e2, _⟩
    · exact absurd e h1
    rcases hr with ⟨f, _⟩ | ⟨t, _, f, f2, _⟩
    · exact absurd f h2
    rw [e, f]
    exact h.asc s (k + 1 + t) (by omega) e2 f2
  have harg : argB up l r = false := decide_eq_false (by
    rintro (e | ⟨e, f⟩ | ⟨e, f⟩ | ⟨e, f, g⟩)
    · exact e hu
    · rw [kl e] at f; cases f
    · rw [kr e] at f; cases f
    · exact g (klr e f))
  by_cases he : (lab (newL up l r)).2 ≠ 0
  · left
    unfold betL
    rw [harg, if_neg (by decide), if_pos he]
  · right
    have hb : betL up l r = (newL up l r, 0) := by
      unfold betL
      rw [harg, if_neg (by decide), if_neg he]
    obtain ⟨_, _, _, _, hkid, hlm, hmr⟩ := bet_ok hb
    generalize newL up l r = m at *
    have hm : m ≠ [] := kid_ne hkid
    refine ⟨m, hb, hm, ⟨fun s hs => ?_, fun s t hst hs ht => ?_⟩⟩
    · rw [getD_set hk] at hs ⊢
      split at hs
      · next e => rw [if_pos e]; exact hkid
      · next e => rw [if_neg e]; exact h.kid s hs
    · rw [getD_set hk] at hs ht ⊢
      rw [getD_set hk]
      by_cases e1 : s = k
      · rw [if_pos e1]
        rw [if_neg (by omega)] at ht ⊢
        -- t > k
        rcases hr with ⟨_, f⟩ | ⟨t0, _, f, f2, f3⟩
        · have := f (t - (k + 1))
          rw [show k + 1 + (t - (k + 1)) = t by omega] at this
          exact absurd this ht
        · have h1 := hmr (by rw [f]; exact f2)
          rw [f] at h1
          by_cases e : t = k + 1 + t0
          · rw [e]; exact h1
          · have hlt : k + 1 + t0 < t := by
              rcases Nat.lt_or_ge (k + 1 + t0) t with h | h
              · exact h
              · exfalso
                have := f3 (t - (k + 1)) (by omega)
                rw [show k + 1 + (t - (k + 1)) = t by omega] at this
                exact ht this
            exact cmpL_trans h1 (h.asc _ _ hlt f2 ht)
      · rw [if_neg e1] at hs ⊢
        by_cases e2 : t = k
        · rw [if_pos e2]
          rcases hl with ⟨_, f⟩ | ⟨s0, hs0, f, f2, f3⟩
          · exact absurd (f s (by omega)) hs
          · have h1 := hlm (by rw [f]; exact f2)
            rw [f] at h1
            by_cases e : s = s0
            · rw [e]; exact h1
            · have hlt : s < s0 := by
                rcases Nat.lt_or_ge s s0 with h | h
                · exact h
                · exact absurd (f3 s (by omega) (by omega)) hs
              exact cmpL_trans (h.asc _ _ hlt hs f2) h1
        · rw [if_neg e2] at ht ⊢
          exact h.asc s t hst hs ht
/-- How many have one. -/
def fullN (X : List (List Int)) : Nat := X.countP fun x => decide (x ≠ [])
theorem fullN_set {X : List (List Int)} {k : Nat} (hk : k < X.length) (h0 : X.getD k [] = []) {m : List Int} (hm : m ≠ []) : fullN (X.set k m) = fullN X + 1 := by
  have e : X[k] = [] := by rw [List.getD_eq_getElem?_getD, List.getElem?_eq_getElem hk] at h0; exact h0
  have e1 : X = X.take k ++ X[k] :: X.drop (k + 1) := by rw [← List.drop_eq_getElem_cons hk, List.take_append_drop]
  have e2 : X.set k m = X.take k ++ m :: X.drop (k + 1) := by rw [List.set_eq_take_append_cons_drop, if_pos hk]
  unfold fullN
  rw [e2]
  conv => rhs; rw [e1]
  rw [List.countP_append, List.countP_append, List.countP_cons, List.countP_cons, e]
  simp [hm]
  omega
theorem full_hole {X : List (List Int)} (h : fullN X < X.length) : ∃ k, k < X.length ∧ X.getD k [] = [] := by
  unfold fullN at h
  have : ¬ ∀ x ∈ X, decide (x ≠ []) = true := fun hall => by rw [List.countP_eq_length.2 hall] at h; omega
  have this := Classical.not_forall.1 this
  obtain ⟨x, hx⟩ := this
  rw [Classical.not_imp] at hx
  obtain ⟨i, hi⟩ := List.mem_iff_getElem?.1 hx.1
  refine ⟨i, (List.getElem?_eq_some_iff.1 hi).1, ?_⟩
  rw [List.getD_eq_getElem?_getD, hi]
  simpa using hx.2
theorem full_all {X : List (List Int)} (h : fullN X = X.length) : ∀ k, k < X.length → X.getD k [] ≠ [] := by
  intro k hk
  unfold fullN at h
  have := List.countP_eq_length.1 h X[k] (List.getElem_mem hk)
  rw [List.getD_eq_getElem?_getD, List.getElem?_eq_getElem hk]
  simpa using this
end Go.Vc


/-
  Plain: all nodes are given labels, the kids of one node together.
-/
set_option linter.unusedVariables false
set_option linter.unusedSimpArgs false
namespace Go.Vc
open Go

/-- Is a path another one's parent? -/
def isPar (q p : List Int) : Bool := decide (q.length + 1 = p.length) && decide (q = p.take q.length)
theorem isPar_iff {q p : List Int} : isPar q p = true ↔ p ≠ [] ∧ q = p.dropLast := by
  unfold isPar
  rw [Bool.and_eq_true, decide_eq_true_eq, decide_eq_true_eq]
  constructor
  · rintro ⟨h1, h2⟩
    refine ⟨fun e => by rw [e] at h1; simp at h1, ?_⟩
    rw [List.dropLast_eq_take, show p.length - 1 = q.length by omega]
    exact h2
  · rintro ⟨h1, rfl⟩
    have := List.length_pos_iff.2 h1
    refine ⟨by rw [List.length_dropLast]; omega, ?_⟩
    rw [List.length_dropLast, ← List.dropLast_eq_take]
/-- The place of a path's parent, looked for from a place down. -/
def parS (Ps : List (List Int)) (p : List Int) : Nat → Nat
  | 0 => 0
  | j + 1 => if isPar (Ps.getD (j + 1) []) p = true then j + 1 else parS Ps p j
variable {Ps : List (List Int)}
theorem parS_of (hP : PathsOk Ps) {p : List Int} {j : Nat} (hj : Ps[j]? = some p.dropLast) (hp : p ≠ []) : ∀ {i : Nat}, j ≤ i → i < Ps.length → parS Ps p i = j
  | 0, h, _ => by unfold parS; omega
  | i + 1, h, hi => by
    unfold parS
    by_cases e : j = i + 1
    · subst e
      rw [if_pos]
      rw [isPar_iff, List.getD_eq_getElem?_getD, hj]
      exact ⟨hp, rfl⟩
    · rw [if_neg, parS_of hP hj hp (by omega) (by omega)]
      intro hc
      rw [isPar_iff, List.getD_eq_getElem?_getD, List.getElem?_eq_getElem hi] at hc
      have h2 : Ps[i + 1]? = some p.dropLast := by rw [List.getElem?_eq_getElem hi]; exact congrArg some hc.2
      exact e (hP.inj hj h2)
/-- The place of a node's parent. -/
def parI (Ps : List (List Int)) (i : Nat) : Nat := parS Ps (Ps.getD i []) i
theorem dropLast_lt (p : List Int) (h : p ≠ []) : cmpL p.dropLast p = -1 := by
  have := List.dropLast_concat_getLast h
  conv => lhs; arg 2; rw [← this]
  exact cmpL_self _ _ (by simp)
theorem path_ne (hP : PathsOk Ps) {i : Nat} {p : List Int} (hi : Ps[i]? = some p) (h0 : i ≠ 0) : p ≠ [] := by
  rintro rfl
  exact h0 (hP.inj hi hP.root)
theorem parI_of (hP : PathsOk Ps) {i : Nat} {p : List Int} (hi : Ps[i]? = some p) (h0 : i ≠ 0) : parI Ps i < i ∧ Ps[parI Ps i]? = some p.dropLast := by
  have hp := path_ne hP hi h0
  obtain ⟨j, hj⟩ := List.mem_iff_getElem?.1 (hP.par p (List.mem_of_getElem? hi))
  have hlt := hP.of_lt hj hi (dropLast_lt p hp)
  have hil := (List.getElem?_eq_some_iff.1 hi).1
  have e : parI Ps i = j := by
    unfold parI
    rw [List.getD_eq_getElem?_getD, hi]
    exact parS_of hP hj hp (by omega) hil
  rw [e]
  exact ⟨hlt, hj⟩
theorem lab_nil : (lab []).2 = 0 := by decide
/-- Kids of one node. -/
def Sib (Ps : List (List Int)) (i j : Nat) : Prop := i ≠ 0 ∧ j ≠ 0 ∧ i < Ps.length ∧ j < Ps.length ∧ parI Ps i = parI Ps j
theorem Sib.symm {i j : Nat} (h : Sib Ps i j) : Sib Ps j i := ⟨h.2.1, h.1, h.2.2.2.1, h.2.2.1, h.2.2.2.2.symm⟩
theorem Sib.trans {i j k : Nat} (h : Sib Ps i j) (g : Sib Ps j k) : Sib Ps i k := ⟨h.1, g.2.1, h.2.2.1, g.2.2.2.1, h.2.2.2.2.trans g.2.2.2.2⟩
/-- What has been given, when all ahead of a place have theirs. -/
structure OInv (Ps L : List (List Int)) (i : Nat) : Prop where
  len : L.length = Ps.length
  root : L.getD 0 [] = []
  all : ∀ j, j ≠ 0 → j < i → L.getD j [] ≠ []
  kid : ∀ j, j ≠ 0 → j < Ps.length → L.getD j [] ≠ [] → kidB (L.getD (parI Ps j) []) (L.getD j []) = true ∧ (parI Ps j ≠ 0 → L.getD (parI Ps j) [] ≠ [])
  asc : ∀ j k, Sib Ps j k → j < k → L.getD j [] ≠ [] → L.getD k [] ≠ [] → cmpL (L.getD j []) (L.getD k []) = -1
  grp : ∀ j k, Sib Ps j k → L.getD j [] ≠ [] → L.getD k [] ≠ []
variable {L M : List (List Int)} {i : Nat}
theorem OInv.start (n : Nat) (h : Ps.length = n) : OInv Ps (List.replicate n []) 0 := by
  have e : ∀ j, (List.replicate n ([] : List Int)).getD j [] = [] := fun j => by
    rw [List.getD_eq_getElem?_getD, List.getElem?_replicate]
    split <;> rfl
  exact ⟨by simp [h], e 0, fun j _ h => by omega, fun j _ _ h => absurd (e j) h, fun j k _ _ h => absurd (e j) h, fun j k _ h => absurd (e j) h⟩
theorem OInv.skip (h : OInv Ps L i) (hi : i = 0 ∨ L.getD i [] ≠ []) : OInv Ps L (i + 1) := by
  refine ⟨h.len, h.root, fun j h0 hj => ?_, h.kid, h.asc, h.grp⟩
  by_cases e : j = i
  · subst e
    exact hi.resolve_left h0
  · exact h.all j h0 (by omega)
/-- The kids that are given theirs together. -/
def kidsOf (Ps : List (List Int)) (i : Nat) (n : Nat) : List Nat := (List.range n).filter fun j => decide (i ≤ j) && decide (parI Ps j = parI Ps i) && decide ((Ps.getD j []).length = (Ps.getD i []).length)
theorem kidsOf_mem (hP : PathsOk Ps) {i j : Nat} (h0 : i ≠ 0) (hi : i < Ps.length) : j ∈ kidsOf Ps i Ps.length ↔ i ≤ j ∧ Sib Ps i j := by
  unfold kidsOf
  rw [List.mem_filter, List.mem_range, Bool.and_eq_true, Bool.and_eq_true, decide_eq_true_eq, decide_eq_true_eq, decide_eq_true_eq]
  constructor
  · rintro ⟨h1, ⟨h2, h3⟩, h4⟩
    exact ⟨h2, h0, by omega, hi, h1, h3.symm⟩
  · rintro ⟨h1, _, hj0, _, hj, h3⟩
    refine ⟨hj, ⟨h1, h3.symm⟩, ?_⟩
    have a := (parI_of hP (List.getElem?_eq_getElem hi) h0).2
    have b := (parI_of hP (List.getElem?_eq_getElem hj) hj0).2
    rw [h3, b] at a
    have e := congrArg List.length (Option.some.inj a)
    rw [List.length_dropLast, List.length_dropLast] at e
    have n1 := List.length_pos_iff.2 (path_ne hP (List.getElem?_eq_getElem hi) h0)
    have n2 := List.length_pos_iff.2 (path_ne hP (List.getElem?_eq_getElem hj) hj0)
    rw [List.getD_eq_getElem?_getD, List.getD_eq_getElem?_getD, List.getElem?_eq_getElem hi, List.getElem?_eq_getElem hj]
    show Ps[j].length = Ps[i].length
    omega
theorem kidsOf_succ (Ps : List (List Int)) (i n : Nat) : kidsOf Ps i (n + 1) = kidsOf Ps i n ++ (if (decide (i ≤ n) && decide (parI Ps n = parI Ps i) && decide ((Ps.getD n []).length = (Ps.getD i []).length)) = true then [n] else []) := by
  unfold kidsOf
  rw [List.range_succ, List.filter_append]
  congr 1
  rw [List.filter_cons, List.filter_nil]
theorem kidsOf_small (Ps : List (List Int)) (i n : Nat) (h : n ≤ i) : kidsOf Ps i n = [] := by
  unfold kidsOf
  rw [List.filter_eq_nil_iff]
  intro j hj
  rw [List.mem_range] at hj
  simp [show ¬ i ≤ j by omega]
theorem kidsOf_asc (Ps : List (List Int)) (i n : Nat) : (kidsOf Ps i n).Pairwise (· < ·) := List.Pairwise.filter _ List.pairwise_lt_range
/-- While the kids of one node are given theirs. -/
structure IInv (Ps L : List (List Int)) (K : List Nat) (u : List Int) (M : List (List Int)) : Prop where
  len : M.length = L.length
  out : ∀ j, j ∉ K → M.getD j [] = L.getD j []
  kx : KX u (K.map fun j => M.getD j [])
theorem getD_map {K : List Nat} {s : Nat} (f : Nat → List Int) : (K.map f).getD s [] = match K[s]? with | some j => f j | none => [] := by
  rw [List.getD_eq_getElem?_getD, List.getElem?_map]
  cases K[s]? <;> rfl
/-- All kids of the group are without. -/
theorem OInv.group (hP : PathsOk Ps) (h : OInv Ps L i) (h0 : i ≠ 0) (hi : i < Ps.length) (he : L.getD i [] = []) :
    (∀ j, j ∈ kidsOf Ps i Ps.length ↔ Sib Ps i j) ∧ (∀ j ∈ kidsOf Ps i Ps.length, L.getD j [] = []) ∧ (lab (L.getD (parI Ps i) [])).2 = 0 ∧ parI Ps i ∉ kidsOf Ps i Ps.length := by
  have hnone : ∀ j, Sib Ps i j → L.getD j [] = [] := fun j hs => by
    refine Classical.byContradiction fun hne => ?_
    exact h.grp j i hs.symm hne he
  refine ⟨fun j => ?_, fun j hj => hnone j ((kidsOf_mem hP h0 hi).1 hj).2, ?_, ?_⟩
  · rw [kidsOf_mem hP h0 hi]
    refine ⟨fun x => x.2, fun hs => ⟨?_, hs⟩⟩
    rcases Nat.lt_or_ge j i with hlt | hge
    · exact absurd (hnone j hs) (h.all j hs.2.1 hlt)
    · exact hge
  · obtain ⟨hlt, hp⟩ := parI_of hP (List.getElem?_eq_getElem hi) h0
    by_cases e : parI Ps i = 0
    · rw [e, h.root]; exact lab_nil
    · have h1 := h.all _ e hlt
      have h2 := (h.kid _ e (by omega) h1).1
      exact (of_decide_eq_true h2).2.1
  · intro hm
    have := (kidsOf_mem hP h0 hi).1 hm
    have := (parI_of hP (List.getElem?_eq_getElem hi) h0).1
    omega
theorem IInv.start (hP : PathsOk Ps) (h : OInv Ps L i) (h0 : i ≠ 0) (hi : i < Ps.length) (he : L.getD i [] = []) : IInv Ps L (kidsOf Ps i Ps.length) (L.getD (parI Ps i) []) L ∧ fullN ((kidsOf Ps i Ps.length).map fun j => L.getD j []) = 0 := by
  obtain ⟨_, h2, _, _⟩ := h.group hP h0 hi he
  have e : ∀ s, ((kidsOf Ps i Ps.length).map fun j => L.getD j []).getD s [] = [] := fun s => by
    rw [getD_map]
    cases hs : (kidsOf Ps i Ps.length)[s]? with
    | none => rfl
    | some j => exact h2 j (List.mem_of_getElem? hs)
  refine ⟨⟨rfl, fun _ _ => rfl, ⟨fun s hs => absurd (e s) hs, fun s t _ hs => absurd (e s) hs⟩⟩, ?_⟩
  unfold fullN
  rw [List.countP_eq_zero]
  intro x hx
  obtain ⟨s, hs⟩ := List.mem_iff_getElem?.1 hx
  have := e s
  rw [List.getD_eq_getElem?_getD, hs] at this
  simpa using this
theorem map_set_kid {K : List Nat} (hK : K.Pairwise (· < ·)) {k j : Nat} (hk : K[k]? = some j) (hj : j < M.length) (m : List Int) : (K.map fun t => (M.set j m).getD t []) = (K.map fun t => M.getD t []).set k m := by
  apply List.ext_getElem?
  intro s
  rw [List.getElem?_map, List.getElem?_set, List.length_map]
  have hkl := (List.getElem?_eq_some_iff.1 hk).1
  by_cases e : k = s
  · subst e
    rw [if_pos rfl, if_pos hkl, hk]
    simp only [Option.map_some]
    rw [getD_set hj, if_pos rfl]
  · rw [if_neg e, List.getElem?_map]
    cases hs : K[s]? with
    | none => rfl
    | some t =>
      simp only [Option.map_some]
      rw [getD_set hj, if_neg]
      intro e2
      subst e2
      obtain ⟨a1, a2⟩ := List.getElem?_eq_some_iff.1 hk
      obtain ⟨b1, b2⟩ := List.getElem?_eq_some_iff.1 hs
      have := List.pairwise_iff_getElem.1 hK
      rcases Nat.lt_or_gt_of_ne e with h | h
      · have := this k s a1 b1 h; omega
      · have := this s k b1 a1 h; omega
theorem IInv.step {K : List Nat} {u : List Int} (h : IInv Ps L K u M) (hK : K.Pairwise (· < ·)) {k j : Nat} (hk : K[k]? = some j) (hj : j < M.length) {m : List Int} (hx : KX u ((K.map fun t => M.getD t []).set k m)) : IInv Ps L K u (M.set j m) := by
  refine ⟨by rw [List.length_set]; exact h.len, fun t ht => ?_, by rw [map_set_kid hK hk hj]; exact hx⟩
  rw [getD_set hj, if_neg]
  · exact h.out t ht
  · rintro rfl; exact ht (List.mem_of_getElem? hk)
theorem IInv.done (hP : PathsOk Ps) (h : OInv Ps L i) (h0 : i ≠ 0) (hi : i < Ps.length) (he : L.getD i [] = []) (g : IInv Ps L (kidsOf Ps i Ps.length) (L.getD (parI Ps i) []) M)
    (hf : fullN ((kidsOf Ps i Ps.length).map fun j => M.getD j []) = (kidsOf Ps i Ps.length).length) : OInv Ps M (i + 1) := by
  obtain ⟨hmem, hnone, hlab, hup⟩ := h.group hP h0 hi he
  have hall := full_all (by rw [hf, List.length_map])
  have hne : ∀ j, Sib Ps i j → M.getD j [] ≠ [] := fun j hs => by
    obtain ⟨s, hs2⟩ := List.mem_iff_getElem?.1 ((hmem j).2 hs)
    have := hall s (by rw [List.length_map]; exact (List.getElem?_eq_some_iff.1 hs2).1)
    rw [getD_map, hs2] at this
    exact this
  have hupM : M.getD (parI Ps i) [] = L.getD (parI Ps i) [] := g.out _ hup
  have hnot : ∀ j, ¬ Sib Ps i j → M.getD j [] = L.getD j [] := fun j hs => g.out j fun hm => hs ((hmem j).1 hm)
  have hroot : ¬ Sib Ps i 0 := fun hs => hs.2.1 rfl
  have hii : Sib Ps i i := ⟨h0, h0, hi, hi, rfl⟩
  -- a labelled node's parent is not one of these
  have hpar : ∀ j, j ≠ 0 → j < Ps.length → ¬ Sib Ps i j → M.getD j [] ≠ [] → ¬ Sib Ps i (parI Ps j) := fun j hj0 hj hs hm hs2 => by
    rw [hnot j hs] at hm
    exact (h.kid j hj0 hj hm).2 hs2.2.1 (hnone _ ((hmem _).2 hs2))
  refine ⟨by rw [g.len]; exact h.len, by rw [hnot 0 hroot]; exact h.root, fun j hj0 hj => ?_, fun j hj0 hj hm => ?_, fun j k hs hjk hj hk => ?_, fun j k hs hj => ?_⟩
  · by_cases e : j = i
    · subst e; exact hne j hii
    · have := h.all j hj0 (by omega)
      by_cases hs : Sib Ps i j
      · exact hne j hs
      · rw [hnot j hs]; exact this
  · by_cases hs : Sib Ps i j
    · obtain ⟨s, hs2⟩ := List.mem_iff_getElem?.1 ((hmem j).2 hs)
      have := g.kx.kid s (by rw [getD_map, hs2]; exact hm)
      rw [getD_map, hs2] at this
      rw [← hs.2.2.2.2, hupM]
      refine ⟨this, fun e => ?_⟩
      have hlt := (parI_of hP (List.getElem?_eq_getElem hi) h0).1
      exact h.all _ e hlt
    · have h1 := hpar j hj0 hj hs hm
      rw [hnot j hs] at hm ⊢
      rw [hnot _ h1]
      exact h.kid j hj0 hj hm
  · by_cases hsi : Sib Ps i j
    · have hsk := hsi.trans hs
      obtain ⟨s, hs2⟩ := List.mem_iff_getElem?.1 ((hmem j).2 hsi)
      obtain ⟨t, ht2⟩ := List.mem_iff_getElem?.1 ((hmem k).2 hsk)
      have hst : s < t := by
        obtain ⟨a1, a2⟩ := List.getElem?_eq_some_iff.1 hs2
        obtain ⟨b1, b2⟩ := List.getElem?_eq_some_iff.1 ht2
        have hK := List.pairwise_iff_getElem.1 (kidsOf_asc Ps i Ps.length)
        rcases Nat.lt_trichotomy s t with e | e | e
        · exact e
        · subst e; omega
        · have := hK t s b1 a1 e; omega
      have := g.kx.asc s t hst (by rw [getD_map, hs2]; exact hj) (by rw [getD_map, ht2]; exact hk)
      rw [getD_map, getD_map, hs2, ht2] at this
      exact this
    · have hsk : ¬ Sib Ps i k := fun x => hsi (x.trans hs.symm)
      rw [hnot j hsi] at hj ⊢
      rw [hnot k hsk] at hk ⊢
      exact h.asc j k hs hjk hj hk
  · by_cases hsi : Sib Ps i j
    · exact hne k (hsi.trans hs)
    · have hsk : ¬ Sib Ps i k := fun x => hsi (x.trans hs.symm)
      rw [hnot j hsi] at hj
      rw [hnot k hsk]
      exact h.grp j k hs hj
theorem getD_some {i : Nat} {l : List Int} (h : L[i]? = some l) : L.getD i [] = l := by rw [List.getD_eq_getElem?_getD, h]; rfl
/-- All nodes have theirs. -/
theorem OInv.final (hP : PathsOk Ps) (h : OInv Ps L Ps.length) : LabelsOk Ps L := by
  have h0 : 0 < Ps.length := (List.getElem?_eq_some_iff.1 hP.root).1
  refine ⟨h.len, ?_, fun i j p l u hi hp hj hl hu => ?_, fun i j p q l m hi hj hp hq hpq hij hl hm => ?_⟩
  · have := h.root
    rw [List.getD_eq_getElem?_getD, List.getElem?_eq_getElem (by rw [h.len]; exact h0)] at this
    rw [List.getElem?_eq_getElem (by rw [h.len]; exact h0)]
    exact congrArg some this
  · have hi0 : i ≠ 0 := fun e => by
      subst e
      rw [hP.root] at hi
      exact hp (Option.some.inj hi).symm
    have hil := (List.getElem?_eq_some_iff.1 hi).1
    have e : parI Ps i = j := hP.inj (parI_of hP hi hi0).2 hj
    have h2 := (h.kid i hi0 hil (h.all i hi0 hil)).1
    rw [e, getD_some hl, getD_some hu] at h2
    exact kid_rest h2
  · have hi0 : i ≠ 0 := fun e => by
      subst e
      rw [hP.root] at hi
      exact hp (Option.some.inj hi).symm
    have hj0 : j ≠ 0 := by omega
    have hil := (List.getElem?_eq_some_iff.1 hi).1
    have hjl := (List.getElem?_eq_some_iff.1 hj).1
    have e : parI Ps i = parI Ps j := hP.inj (parI_of hP hi hi0).2 (by rw [hpq]; exact (parI_of hP hj hj0).2)
    have := h.asc i j ⟨hi0, hj0, hil, hjl, e⟩ hij (h.all i hi0 hil) (h.all j hj0 hjl)
    rw [getD_some hl, getD_some hm] at this
    exact this
end Go.Vc


/-
  Rows among the blocks known: an append onto one of them.
-/
namespace Go.Vc
open Go Go.RowKit

section
variable {w0 w w' : World} {S : Nat → Prop} {Γ Γ' : List Blk} {b : Nat} {cs xs rest : List Value} {e : TypeId} {l c sz : Nat}

/-- Fewer blocks known. -/
theorem Hp.sub (H : Hp w0 S w Γ) (h : Γ'.Sublist Γ) : Hp w0 S w Γ' :=
  ⟨H.chg, fun p hp => H.is p (h.subset hp), List.Pairwise.sublist (h.map (·.b)) H.nd, fun p hp => H.own p (h.subset hp)⟩
end
end Go.Vc


/- What the conditions of these functions are, reckoned by the reading; printed by program. -/
set_option maxRecDepth 100000
set_option linter.unusedVariables false
namespace Go.Proofs.YtmnbgcgealpcbaaGreatDoor
open Go Go.Vc

/-- cmp.Compare[string] -/
def VC_cmp_Compare_string (x0 : ByteArray) (y1 : ByteArray) (w : World) (J : Int → World → Prop) : Prop :=
  callJ Tryz.prog fn_cmp_isNaN_string #[.string x0] w [.one .bool] fun (r8 : Bool) (w1 : World) =>
  callJ Tryz.prog fn_cmp_isNaN_string #[.string y1] w1 [.one .bool] fun (r10 : Bool) (w2 : World) =>
  condB r8 (
  condB r10 (
  J (0 : Int) w2) (
  J (-1 : Int) w2)) (
  condB r10 (
  J (1 : Int) w2) (
  condB (Op.bytesLess x0.toList y1.toList) (
  J (-1 : Int) w2) (
  condB (!((Op.bytesLess x0.toList y1.toList) || (x0.toList == y1.toList))) (
  J (1 : Int) w2) (
  J (0 : Int) w2))))
def ann_cmp_Compare_string : Ann := .s (.o) (.s (.o) (.s (.o) (.s (.s (.o) (.c (.s (.s (.o) (.c (.s (.o) (.o)) (.o))) (.s (.o) (.o))) (.o))) (.s (.s (.o) (.c (.s (.o) (.o)) (.o))) (.s (.s (.o) (.c (.s (.o) (.o)) (.o))) (.s (.s (.o) (.c (.s (.o) (.o)) (.o))) (.s (.o) (.o))))))))
theorem eq_cmp_Compare_string (x0 : ByteArray) (y1 : ByteArray) (w : World) (J : Int → World → Prop) : vcFun Tryz.prog Tryz.f67 ann_cmp_Compare_string [.one (.int .i64)] [.string x0, .string y1] w J = VC_cmp_Compare_string x0 y1 w J := by kernel_rfl
theorem c_cmp_Compare_string {x0 : ByteArray} {y1 : ByteArray} {w : World} {J : Int → World → Prop} (h : VC_cmp_Compare_string x0 y1 w J) : callJ Tryz.prog fn_cmp_Compare_string #[.string x0, .string y1] w [.one (.int .i64)] J := vc_calls Tryz.func67 ann_cmp_Compare_string (Eq.mpr (eq_cmp_Compare_string x0 y1 w J) h)

/-- cmp.isNaN[string] -/
def VC_cmp_isNaN_string (x0 : ByteArray) (w : World) (J : Bool → World → Prop) : Prop :=
  J (!(x0.toList == x0.toList)) w
def ann_cmp_isNaN_string : Ann := .s (.o) (.s (.o) (.o))
theorem eq_cmp_isNaN_string (x0 : ByteArray) (w : World) (J : Bool → World → Prop) : vcFun Tryz.prog Tryz.f99 ann_cmp_isNaN_string [.one .bool] [.string x0] w J = VC_cmp_isNaN_string x0 w J := by kernel_rfl
theorem c_cmp_isNaN_string {x0 : ByteArray} {w : World} {J : Bool → World → Prop} (h : VC_cmp_isNaN_string x0 w J) : callJ Tryz.prog fn_cmp_isNaN_string #[.string x0] w [.one .bool] J := vc_calls Tryz.func99 ann_cmp_isNaN_string (Eq.mpr (eq_cmp_isNaN_string x0 w J) h)

/-- cmp.Or[int] -/
def VC_cmp_Or_int (vals0p : Option Addr) (vals0l : Nat) (vals0c : Nat) (w : World) (J : Int → World → Prop) : Prop :=
  ∃ I_8 : Int → World → Nat → Prop, (∃ m : Nat, I_8 (0 : Int) w m) ∧ ∀ (x8 : Int) (w1 : World) (m : Nat), I_8 x8 w1 m → (
  condB (decide (x8 < ((vals0l : Nat) : Int))) (
  idxA vals0p vals0l x8 fun a10 =>
  ldI .i64 w1 ((a10.add (x8.toNat * 1))) fun x11 =>
  condB (x11 != (0 : Int)) (
  J x11 w1) (
  ∃ m' : Nat, m' < m ∧ I_8 (w64 (x8 + (1 : Int))) w1 m')) (
  J (0 : Int) w1))
def ann_cmp_Or_int : Ann := .s (.o) (.s (.o) (.s (.s (.o) (.b (.l [(8, .int .i64)] (.s (.o) (.s (.c (.o) (.o)) (.s (.b (.s (.o) (.s (.o) (.c (.s (.o) (.o)) (.o))))) (.o))))))) (.s (.o) (.o))))
theorem eq_cmp_Or_int (vals0p : Option Addr) (vals0l : Nat) (vals0c : Nat) (w : World) (J : Int → World → Prop) : vcFun Tryz.prog Tryz.f66 ann_cmp_Or_int [.one (.int .i64)] [.slice vals0p vals0l vals0c] w J = VC_cmp_Or_int vals0p vals0l vals0c w J := by kernel_rfl
theorem c_cmp_Or_int {vals0p : Option Addr} {vals0l : Nat} {vals0c : Nat} {w : World} {J : Int → World → Prop} (h : VC_cmp_Or_int vals0p vals0l vals0c w J) : callJ Tryz.prog fn_cmp_Or_int #[.slice vals0p vals0l vals0c] w [.one (.int .i64)] J := vc_calls Tryz.func66 ann_cmp_Or_int (Eq.mpr (eq_cmp_Or_int vals0p vals0l vals0c w J) h)

end Go.Proofs.YtmnbgcgealpcbaaGreatDoor

/-
  Sorting, plain: what swaps within a part do; a merge by turning; blocks.
-/
set_option linter.unusedVariables false
set_option linter.unusedSimpArgs false
set_option linter.unusedSectionVars false
namespace Go.Vc
section
variable {α : Type} [Inhabited α]
variable {a b c d : Nat} {X Y Z : List α}
/-! ### An order -/
variable {lt : α → α → Bool}
/-! ### Turning -/
end
end Go.Vc


/- What the conditions of these functions are, reckoned by the reading; printed by program. -/
set_option maxRecDepth 100000
set_option linter.unusedVariables false
namespace Go.Proofs.YtmnbgcgealpcbaaGreatDoor
open Go Go.Vc

end Go.Proofs.YtmnbgcgealpcbaaGreatDoor

/-
  UTF-8, plain: the char that begins a row of bytes ('rd'), which numbers are chars, names and line ends.
-/
set_option linter.unusedVariables false
namespace Go.Vc
open Go Go.Lib

/-- The char at the head of n bytes that begin b0 b1 b2 b3, and its width; width 0: none. -/
def rdN (n b0 b1 b2 b3 : Nat) : Nat × Nat :=
  if b0 < 128 then (b0, 1)
  else if b0 < 192 then (0, 0)
  else if b0 < 224 then
    (if 2 ≤ n ∧ (128 ≤ b1 ∧ b1 ≤ 191) ∧ 128 ≤ 64 * (b0 - 192) + (b1 - 128) then (64 * (b0 - 192) + (b1 - 128), 2) else (0, 0))
  else if b0 < 240 then
    (if 3 ≤ n ∧ (128 ≤ b1 ∧ b1 ≤ 191) ∧ (128 ≤ b2 ∧ b2 ≤ 191) ∧ 2048 ≤ 64 * (64 * (b0 - 224) + (b1 - 128)) + (b2 - 128) ∧ (64 * (64 * (b0 - 224) + (b1 - 128)) + (b2 - 128) < 55296 ∨ 57344 ≤ 64 * (64 * (b0 - 224) + (b1 - 128)) + (b2 - 128))
      then (64 * (64 * (b0 - 224) + (b1 - 128)) + (b2 - 128), 3) else (0, 0))
  else if b0 < 248 then
    (if 4 ≤ n ∧ (128 ≤ b1 ∧ b1 ≤ 191) ∧ (128 ≤ b2 ∧ b2 ≤ 191) ∧ (128 ≤ b3 ∧ b3 ≤ 191) ∧ 65536 ≤ 64 * (64 * (64 * (b0 - 240) + (b1 - 128)) + (b2 - 128)) + (b3 - 128) ∧ 64 * (64 * (64 * (b0 - 240) + (b1 - 128)) + (b2 - 128)) + (b3 - 128) ≤ 1114111
      then (64 * (64 * (64 * (b0 - 240) + (b1 - 128)) + (b2 - 128)) + (b3 - 128), 4) else (0, 0))
  else (0, 0)

set_option maxHeartbeats 1000000 in
theorem decodeN_rd (n b0 b1 b2 b3 : Nat) (h0 : b0 < 256) (h1 : b1 < 256) (h2 : b2 < 256) (h3 : b3 < 256) : decodeN n b0 b1 b2 b3 = if (rdN n b0 b1 b2 b3).2 = 0 then (65533, 1) else rdN n b0 b1 b2 b3 := by
  by_cases c0 : b0 < 128
  · simp [decodeN, rdN, c0]
  by_cases c1 : b0 < 192
  · have e1 : ¬ b0 / 32 = 6 := by omega
    have e2 : ¬ b0 / 16 = 14 := by omega
    have e3 : ¬ b0 / 8 = 30 := by omega
    simp [decodeN, rdN, c0, c1, e1, e2, e3]
  by_cases c2 : b0 < 224
  · have e1 : b0 / 32 = 6 := by omega
    have e2 : ¬ b0 / 16 = 14 := by omega
    have e3 : ¬ b0 / 8 = 30 := by omega
    simp only [decodeN, rdN, c0, c1, c2, e1, e2, e3, if_false, if_true, true_and, false_and]
    repeat' split
    all_goals first | with_reducible rfl | (exfalso; omega) | (refine Prod.ext ?_ rfl; show (_ : Nat) = _; omega) | (rename_i h; exact absurd h (by simp)) | (rename_i h _; exact absurd h (by simp)) | (exfalso; simp only [Nat.succ_ne_zero, OfNat.ofNat_ne_zero] at *)
  by_cases c3 : b0 < 240
  · have e1 : ¬ b0 / 32 = 6 := by omega
    have e2 : b0 / 16 = 14 := by omega
    have e3 : ¬ b0 / 8 = 30 := by omega
    simp only [decodeN, rdN, c0, c1, c2, c3, e1, e2, e3, if_false, if_true, true_and, false_and]
    repeat' split
    all_goals first | with_reducible rfl | (exfalso; omega) | (refine Prod.ext ?_ rfl; show (_ : Nat) = _; omega) | (rename_i h; exact absurd h (by simp)) | (rename_i h _; exact absurd h (by simp)) | (exfalso; simp only [Nat.succ_ne_zero, OfNat.ofNat_ne_zero] at *)
  by_cases c4 : b0 < 248
  · have e1 : ¬ b0 / 32 = 6 := by omega
    have e2 : ¬ b0 / 16 = 14 := by omega
    have e3 : b0 / 8 = 30 := by omega
    simp only [decodeN, rdN, c0, c1, c2, c3, c4, e1, e2, e3, if_false, if_true, true_and, false_and]
    repeat' split
    all_goals first | with_reducible rfl | (exfalso; omega) | (refine Prod.ext ?_ rfl; show (_ : Nat) = _; omega) | (rename_i h; exact absurd h (by simp)) | (rename_i h _; exact absurd h (by simp)) | (exfalso; simp only [Nat.succ_ne_zero, OfNat.ofNat_ne_zero] at *)
  have e1 : ¬ b0 / 32 = 6 := by omega
  have e2 : ¬ b0 / 16 = 14 := by omega
  have e3 : ¬ b0 / 8 = 30 := by omega
  simp [decodeN, rdN, c0, c1, c2, c3, c4, e1, e2, e3]

/-- What is known of a char that is read: its width, its bytes. -/
theorem rdN_facts (n b0 b1 b2 b3 : Nat) (h0 : b0 < 256) (h1 : b1 < 256) (h2 : b2 < 256) (h3 : b3 < 256) :
    ((rdN n b0 b1 b2 b3).2 = 0 ∧ rdN n b0 b1 b2 b3 = (0, 0)) ∨ (rdN n b0 b1 b2 b3 = (b0, 1) ∧ b0 < 128)
    ∨ ((rdN n b0 b1 b2 b3).2 = 2 ∧ 2 ≤ n ∧ 192 ≤ b0 ∧ 128 ≤ b1 ∧ (rdN n b0 b1 b2 b3).1 = 64 * (b0 - 192) + (b1 - 128) ∧ 128 ≤ (rdN n b0 b1 b2 b3).1 ∧ (rdN n b0 b1 b2 b3).1 < 2048)
    ∨ ((rdN n b0 b1 b2 b3).2 = 3 ∧ 3 ≤ n ∧ 192 ≤ b0 ∧ 128 ≤ b1 ∧ 128 ≤ b2 ∧ 2048 ≤ (rdN n b0 b1 b2 b3).1 ∧ (rdN n b0 b1 b2 b3).1 < 65536)
    ∨ ((rdN n b0 b1 b2 b3).2 = 4 ∧ 4 ≤ n ∧ 192 ≤ b0 ∧ 128 ≤ b1 ∧ 128 ≤ b2 ∧ 128 ≤ b3 ∧ 65536 ≤ (rdN n b0 b1 b2 b3).1 ∧ (rdN n b0 b1 b2 b3).1 ≤ 1114111) := by
  unfold rdN
  repeat' split
  all_goals simp
  all_goals omega

/-- The k-th byte, as a number. -/
def gB (bs : List UInt8) (k : Nat) : Nat := (bs.getD k 0).toNat
theorem gB_lt (bs : List UInt8) (k : Nat) : gB bs k < 256 := UInt8.toNat_lt _
theorem gB_of {bs : List UInt8} {k : Nat} {b : UInt8} (h : bs[k]? = some b) : gB bs k = b.toNat := by simp [gB, List.getD_eq_getElem?_getD, h]
theorem gB_drop (bs : List UInt8) (i k : Nat) : gB (bs.drop i) k = gB bs (i + k) := by simp [gB, List.getD_eq_getElem?_getD, List.getElem?_drop]
/-- The char that begins some bytes, and its width; width 0: none does. -/
def rd (bs : List UInt8) : Nat × Nat := rdN bs.length (gB bs 0) (gB bs 1) (gB bs 2) (gB bs 3)
/-- What Go's decoder gives. -/
def dec (bs : List UInt8) : Nat × Nat := decodeN bs.length (gB bs 0) (gB bs 1) (gB bs 2) (gB bs 3)
theorem dec_rd (bs : List UInt8) : dec bs = if (rd bs).2 = 0 then (65533, 1) else rd bs := decodeN_rd _ _ _ _ _ (gB_lt _ _) (gB_lt _ _) (gB_lt _ _) (gB_lt _ _)

theorem rd_facts (bs : List UInt8) : ((rd bs).2 = 0 ∧ rd bs = (0, 0)) ∨ (rd bs = (gB bs 0, 1) ∧ gB bs 0 < 128)
    ∨ ((rd bs).2 = 2 ∧ 2 ≤ bs.length ∧ 192 ≤ gB bs 0 ∧ 128 ≤ gB bs 1 ∧ (rd bs).1 = 64 * (gB bs 0 - 192) + (gB bs 1 - 128) ∧ 128 ≤ (rd bs).1 ∧ (rd bs).1 < 2048)
    ∨ ((rd bs).2 = 3 ∧ 3 ≤ bs.length ∧ 192 ≤ gB bs 0 ∧ 128 ≤ gB bs 1 ∧ 128 ≤ gB bs 2 ∧ 2048 ≤ (rd bs).1 ∧ (rd bs).1 < 65536)
    ∨ ((rd bs).2 = 4 ∧ 4 ≤ bs.length ∧ 192 ≤ gB bs 0 ∧ 128 ≤ gB bs 1 ∧ 128 ≤ gB bs 2 ∧ 128 ≤ gB bs 3 ∧ 65536 ≤ (rd bs).1 ∧ (rd bs).1 ≤ 1114111) :=
  rdN_facts _ _ _ _ _ (gB_lt _ _) (gB_lt _ _) (gB_lt _ _) (gB_lt _ _)

theorem rd_le (bs : List UInt8) (h : bs ≠ []) : (rd bs).2 ≤ bs.length := by
  have hl : 0 < bs.length := List.length_pos_iff.2 h
  rcases rd_facts bs with ⟨_, e⟩ | ⟨e, _⟩ | h | h | h
  · rw [e]; exact Nat.zero_le _
  · rw [e]; exact hl
  all_goals omega
theorem rd_four (bs : List UInt8) : (rd bs).2 ≤ 4 := by
  rcases rd_facts bs with ⟨_, e⟩ | ⟨e, _⟩ | h | h | h
  · rw [e]; simp
  · rw [e]; simp
  all_goals omega
/-- The replacement char has three bytes. -/
theorem rd_fffd (bs : List UInt8) (h : (rd bs).1 = 65533) : 3 ≤ (rd bs).2 := by
  rcases rd_facts bs with ⟨_, e⟩ | ⟨e, _⟩ | h | h | h
  · rw [e] at h; simp at h
  · rw [e] at h; simp only at h; omega
  all_goals omega
/-- A byte below 128 is a char. -/
theorem rd_ascii (bs : List UInt8) (h : gB bs 0 < 128) : rd bs = (gB bs 0, 1) := by simp [rd, rdN, h]
theorem rd_ascii_cons (b : UInt8) (bs : List UInt8) (h : b.toNat < 128) : rd (b :: bs) = (b.toNat, 1) := rd_ascii (b :: bs) (by simpa [gB] using h)
theorem drop_rd_lt (bs : List UInt8) (h : bs ≠ []) (hk : (rd bs).2 ≠ 0) : (bs.drop (rd bs).2).length < bs.length := by
  have hl : 0 < bs.length := List.length_pos_iff.2 h
  rw [List.length_drop]; omega

/-- The same, char by char. -/
theorem rd_ind {P : List UInt8 → Prop} (h0 : P []) (h1 : ∀ bs, bs ≠ [] → (rd bs).2 = 0 → P bs) (h2 : ∀ bs, bs ≠ [] → (rd bs).2 ≠ 0 → P (bs.drop (rd bs).2) → P bs) : ∀ bs, P bs := by
  suffices h : ∀ n, ∀ bs : List UInt8, bs.length ≤ n → P bs from fun bs => h bs.length bs (Nat.le_refl _)
  intro n
  induction n with
  | zero => intro bs hl; rw [show bs = [] from List.eq_nil_of_length_eq_zero (by omega)]; exact h0
  | succ n ih =>
    intro bs hl
    by_cases hb : bs = []
    · subst hb; exact h0
    by_cases hk : (rd bs).2 = 0
    · exact h1 bs hb hk
    · exact h2 bs hb hk (ih _ (by have := drop_rd_lt bs hb hk; omega))

/-! ## Which numbers -/

def Chr (r : Int) : Prop := r = 9 ∨ r = 10 ∨ r = 13 ∨ (32 ≤ r ∧ r ≤ 55295) ∨ (57344 ≤ r ∧ r ≤ 65533) ∨ (65536 ≤ r ∧ r ≤ 1114111)
def Sta (r : Int) : Prop :=
  (65 ≤ r ∧ r ≤ 90) ∨ r = 95 ∨ (97 ≤ r ∧ r ≤ 122) ∨ (192 ≤ r ∧ r ≤ 767 ∧ r ≠ 215 ∧ r ≠ 247) ∨ (880 ≤ r ∧ r ≤ 8191 ∧ r ≠ 894)
  ∨ r = 8204 ∨ r = 8205 ∨ (8304 ≤ r ∧ r ≤ 8591) ∨ (11264 ≤ r ∧ r ≤ 12271) ∨ (12289 ≤ r ∧ r ≤ 55295)
  ∨ (63744 ≤ r ∧ r ≤ 65533 ∧ (r < 64976 ∨ 65008 ≤ r)) ∨ (65536 ≤ r ∧ r ≤ 983039)
def Pr2 (r : Int) : Prop := r = 45 ∨ r = 46 ∨ (48 ≤ r ∧ r ≤ 57) ∨ r = 183 ∨ (768 ≤ r ∧ r ≤ 879) ∨ r = 8255 ∨ r = 8256
instance (r : Int) : Decidable (Chr r) := by unfold Chr; exact inferInstance
instance (r : Int) : Decidable (Sta r) := by unfold Sta; exact inferInstance
def Prt (r : Int) : Prop := Sta r ∨ Pr2 r
instance (r : Int) : Decidable (Pr2 r) := by unfold Pr2; exact inferInstance
instance (r : Int) : Decidable (Prt r) := by unfold Prt; exact inferInstance
theorem prt_pr2 {r : Int} (h : ¬ Sta r) : decide (Prt r) = decide (Pr2 r) := decide_eq_decide.2 ⟨fun hp => hp.resolve_left h, fun hp => .inr hp⟩
def chr (r : Int) : Bool := decide (Chr r)
def isSt (r : Int) : Bool := decide (Sta r)
def isPt (r : Int) : Bool := decide (Prt r)

/-- Spans that rise. -/
def inL (r : Int) : List (Int × Int) → Bool
  | [] => false
  | s :: l => if r ≤ s.2 then decide (s.1 ≤ r) else inL r l

def inP (r : Int) : List (Int × Int) → Prop
  | [] => False
  | s :: l => (r ≤ s.2 ∧ s.1 ≤ r) ∨ (¬ r ≤ s.2 ∧ inP r l)
theorem inL_iff (r : Int) : ∀ L, inL r L = true ↔ inP r L
  | [] => by simp [inL, inP]
  | s :: l => by
    unfold inL inP
    split
    · next h => simp [h]
    · next h => rw [inL_iff r l]; simp [h]
theorem inL_dec {r : Int} {L : List (Int × Int)} {p : Prop} [Decidable p] (h : inP r L ↔ p) : inL r L = decide p := by
  rw [Bool.eq_iff_iff, inL_iff, decide_eq_true_eq]; exact h

/-! ## Texts -/

/-- Is it UTF-8? -/
def vld (bs : List UInt8) : Bool := if h : bs = [] then true else if hk : (rd bs).2 = 0 then false else vld (bs.drop (rd bs).2)
termination_by bs.length
decreasing_by exact drop_rd_lt bs h hk
theorem vld_nil : vld [] = true := by unfold vld; simp
theorem vld_bad {bs : List UInt8} (h : bs ≠ []) (hk : (rd bs).2 = 0) : vld bs = false := by unfold vld; simp [h, hk]
theorem vld_step {bs : List UInt8} (h : bs ≠ []) (hk : (rd bs).2 ≠ 0) : vld bs = vld (bs.drop (rd bs).2) := by rw [vld]; simp [h, hk]

/-- All chars may stand in names. -/
def prt (bs : List UInt8) : Bool := if h : bs = [] then true else if hk : (rd bs).2 = 0 then false else isPt (rd bs).1 && prt (bs.drop (rd bs).2)
termination_by bs.length
decreasing_by exact drop_rd_lt bs h hk
theorem prt_nil : prt [] = true := by unfold prt; simp
theorem prt_bad {bs : List UInt8} (h : bs ≠ []) (hk : (rd bs).2 = 0) : prt bs = false := by unfold prt; simp [h, hk]
theorem prt_step {bs : List UInt8} (h : bs ≠ []) (hk : (rd bs).2 ≠ 0) : prt bs = (isPt (rd bs).1 && prt (bs.drop (rd bs).2)) := by rw [prt]; simp [h, hk]

/-- The first fault, from a place on: the place and why; 0, 0: none. -/
def flt (at_ : Nat) (bs : List UInt8) : Nat × Nat := if h : bs = [] then (0, 0) else if hk : (rd bs).2 = 0 then (at_, 20) else if chr (rd bs).1 = false then (at_, 21) else flt (at_ + (rd bs).2) (bs.drop (rd bs).2)
termination_by bs.length
decreasing_by exact drop_rd_lt bs h hk
theorem flt_nil (i : Nat) : flt i [] = (0, 0) := by unfold flt; simp
theorem flt_utf {i : Nat} {bs : List UInt8} (h : bs ≠ []) (hk : (rd bs).2 = 0) : flt i bs = (i, 20) := by unfold flt; simp [h, hk]
theorem flt_chr {i : Nat} {bs : List UInt8} (h : bs ≠ []) (hk : (rd bs).2 ≠ 0) (hc : chr (rd bs).1 = false) : flt i bs = (i, 21) := by unfold flt; simp [h, hk, hc]
theorem flt_step {i : Nat} {bs : List UInt8} (h : bs ≠ []) (hk : (rd bs).2 ≠ 0) (hc : chr (rd bs).1 = true) : flt i bs = flt (i + (rd bs).2) (bs.drop (rd bs).2) := by rw [flt]; simp [h, hk, hc]

/-- Is it a name? -/
def nm (bs : List UInt8) : Bool := decide (bs ≠ []) && decide (bs.length ≤ 100) && isSt (rd bs).1 && prt bs

theorem prt_vld : ∀ bs, prt bs = true → vld bs = true := by
  refine rd_ind ?_ ?_ ?_
  · intro _; exact vld_nil
  · intro bs h hk hp; rw [prt_bad h hk] at hp; cases hp
  · intro bs h hk ih hp
    rw [prt_step h hk, Bool.and_eq_true] at hp
    rw [vld_step h hk]; exact ih hp.2

/-! ## Line ends -/

end Go.Vc


/- What the conditions of these functions are, reckoned by the reading; printed by program. -/
set_option maxRecDepth 100000
set_option linter.unusedVariables false
namespace Go.Proofs.YtmnbgcgealpcbaaGreatDoor
open Go Go.Vc

/-- unicode/utf8.DecodeRune -/
def VC_unicode_utf8_DecodeRune (p0p : Option Addr) (p0l : Nat) (p0c : Nat) (w : World) (J : Int → Int → World → Prop) : Prop :=
  withJ (fun (w1 : World) =>
  callJ Tryz.prog fn_unicode_utf8_decodeRuneSlow #[.slice p0p p0l p0c] w1 [.one (.int .i32), .one (.int .i64)] fun (r19_0 : Int) (r19_1 : Int) (w2 : World) =>
  J r19_0 r19_1 w2) fun J_0 =>
  ∃ I_8 : Int → World → Nat → Prop, (∃ m : Nat, I_8 (0 : Int) w m) ∧ ∀ (x8 : Int) (w3 : World) (m : Nat), I_8 x8 w3 m → (
  condB (decide (x8 < ((p0l : Nat) : Int))) (
  idxA p0p p0l x8 fun a10 =>
  ldI .u8 w3 ((a10.add (x8.toNat * 1))) fun x11 =>
  condB (decide (x11 < (128 : Int))) (
  J (IntKind.i32.wrap x11) (1 : Int) w3) (
  J_0 w3)) (
  J_0 w3))
def ann_unicode_utf8_DecodeRune : Ann := .s (.o) (.j [] (.s (.o) (.b (.l [(8, .int .i64)] (.s (.o) (.s (.c (.o) (.o)) (.s (.b (.s (.o) (.s (.s (.o) (.c (.s (.o) (.o)) (.o))) (.o)))) (.u))))))) (.s (.o) (.o)))
theorem eq_unicode_utf8_DecodeRune (p0p : Option Addr) (p0l : Nat) (p0c : Nat) (w : World) (J : Int → Int → World → Prop) : vcFun Tryz.prog Tryz.f137 ann_unicode_utf8_DecodeRune [.one (.int .i32), .one (.int .i64)] [.slice p0p p0l p0c] w J = VC_unicode_utf8_DecodeRune p0p p0l p0c w J := by kernel_rfl
theorem c_unicode_utf8_DecodeRune {p0p : Option Addr} {p0l : Nat} {p0c : Nat} {w : World} {J : Int → Int → World → Prop} (h : VC_unicode_utf8_DecodeRune p0p p0l p0c w J) : callJ Tryz.prog fn_unicode_utf8_DecodeRune #[.slice p0p p0l p0c] w [.one (.int .i32), .one (.int .i64)] J := vc_calls Tryz.func137 ann_unicode_utf8_DecodeRune (Eq.mpr (eq_unicode_utf8_DecodeRune p0p p0l p0c w J) h)

/-- unicode/utf8.decodeRuneSlow -/
def VC_unicode_utf8_decodeRuneSlow (p0p : Option Addr) (p0l : Nat) (p0c : Nat) (w : World) (J : Int → Int → World → Prop) : Prop :=
  condB (decide (((p0l : Nat) : Int) < (1 : Int))) (
  J (65533 : Int) (0 : Int) w) (
  idxA p0p p0l (0 : Int) fun a18 =>
  ldI .u8 w ((a18.add ((0 : Int).toNat * 1))) fun x19 =>
  idxA (some ⟨0, 0, none⟩) 256 x19 fun a21 =>
  ldI .u8 w ((a21.add (x19.toNat * 1))) fun x22 =>
  condB (decide (x22 ≥ (240 : Int))) (
  0 ≤ (31 : Int) ∧
  0 ≤ (31 : Int) ∧
  idxA p0p p0l (0 : Int) fun a30 =>
  ldI .u8 w ((a30.add ((0 : Int).toNat * 1))) fun x31 =>
  J (bOr .i32 (bAndNot .i32 (IntKind.i32.wrap x31) (shrI .i32 (shlI .i32 (IntKind.i32.wrap x22) (31 : Int)) (31 : Int))) (bAnd .i32 (65533 : Int) (shrI .i32 (shlI .i32 (IntKind.i32.wrap x22) (31 : Int)) (31 : Int)))) (1 : Int) w) (
  0 ≤ (4 : Int) ∧
  idxA (some ⟨1, 0, none⟩) 16 (shrI .u8 x22 (4 : Int)) fun a43 =>
  ldI .u8 w ((a43.add ((shrI .u8 x22 (4 : Int)).toNat * 2))) fun x44_0 =>
  ldI .u8 w (((a43.add ((shrI .u8 x22 (4 : Int)).toNat * 2)).add 1)) fun x44_1 =>
  newB w (.cells (zeroC Tryz.prog T_utf8_acceptRange) T_utf8_acceptRange) fun b9 w1 =>
  stN w1 ⟨b9, 0, none⟩ ⟨[.int .u8 x44_0, .int .u8 x44_1]⟩ 2 fun w2 =>
  condB (decide (((p0l : Nat) : Int) < (w64 (bAnd .u8 x22 (7 : Int))))) (
  J (65533 : Int) (1 : Int) w2) (
  idxA p0p p0l (1 : Int) fun a49 =>
  ldI .u8 w2 ((a49.add ((1 : Int).toNat * 1))) fun x50 =>
  withJ (fun (x60 : Bool) (w3 : World) =>
  condB x60 (
  J (65533 : Int) (1 : Int) w3) (
  condB (decide ((w64 (bAnd .u8 x22 (7 : Int))) ≤ (2 : Int))) (
  0 ≤ (6 : Int) ∧
  J (bOr .i32 (shlI .i32 (IntKind.i32.wrap (bAnd .u8 x19 (31 : Int))) (6 : Int)) (IntKind.i32.wrap (bAnd .u8 x50 (63 : Int)))) (2 : Int) w3) (
  idxA p0p p0l (2 : Int) fun a72 =>
  ldI .u8 w3 ((a72.add ((2 : Int).toNat * 1))) fun x73 =>
  withJ (fun (x79 : Bool) (w4 : World) =>
  condB x79 (
  J (65533 : Int) (1 : Int) w4) (
  condB (decide ((w64 (bAnd .u8 x22 (7 : Int))) ≤ (3 : Int))) (
  0 ≤ (12 : Int) ∧
  0 ≤ (6 : Int) ∧
  J (bOr .i32 (bOr .i32 (shlI .i32 (IntKind.i32.wrap (bAnd .u8 x19 (15 : Int))) (12 : Int)) (shlI .i32 (IntKind.i32.wrap (bAnd .u8 x50 (63 : Int))) (6 : Int))) (IntKind.i32.wrap (bAnd .u8 x73 (63 : Int)))) (3 : Int) w4) (
  idxA p0p p0l (3 : Int) fun a96 =>
  ldI .u8 w4 ((a96.add ((3 : Int).toNat * 1))) fun x97 =>
  withJ (fun (x103 : Bool) (w5 : World) =>
  condB x103 (
  J (65533 : Int) (1 : Int) w5) (
  0 ≤ (18 : Int) ∧
  0 ≤ (12 : Int) ∧
  0 ≤ (6 : Int) ∧
  J (bOr .i32 (bOr .i32 (bOr .i32 (shlI .i32 (IntKind.i32.wrap (bAnd .u8 x19 (7 : Int))) (18 : Int)) (shlI .i32 (IntKind.i32.wrap (bAnd .u8 x50 (63 : Int))) (12 : Int))) (shlI .i32 (IntKind.i32.wrap (bAnd .u8 x73 (63 : Int))) (6 : Int))) (IntKind.i32.wrap (bAnd .u8 x97 (63 : Int)))) (4 : Int) w5)) fun J_103 =>
  condB (decide (x97 < (128 : Int))) (
  J_103 true w4) (
  J_103 (decide ((191 : Int) < x97)) w4)))) fun J_79 =>
  condB (decide (x73 < (128 : Int))) (
  J_79 true w3) (
  J_79 (decide ((191 : Int) < x73)) w3)))) fun J_60 =>
  ldI .u8 w2 ⟨b9, 0, none⟩ fun x53 =>
  condB (decide (x50 < x53)) (
  J_60 true w2) (
  ldI .u8 w2 ⟨b9, 1, none⟩ fun x57 =>
  J_60 (decide (x57 < x50)) w2))))
def ann_unicode_utf8_decodeRuneSlow : Ann := .s (.o) (.s (.o) (.s (.s (.o) (.c (.s (.o) (.o)) (.o))) (.s (.o) (.s (.o) (.s (.s (.o) (.c (.s (.o) (.s (.o) (.o))) (.o))) (.s (.o) (.s (.o) (.s (.s (.o) (.c (.s (.o) (.o)) (.o))) (.s (.o) (.s (.j [(60, .bool)] (.o) (.c (.s (.o) (.o)) (.o))) (.s (.s (.o) (.c (.s (.o) (.o)) (.o))) (.s (.o) (.s (.j [(79, .bool)] (.o) (.c (.s (.o) (.o)) (.o))) (.s (.s (.o) (.c (.s (.o) (.o)) (.o))) (.s (.o) (.s (.j [(103, .bool)] (.o) (.c (.s (.o) (.o)) (.o))) (.s (.o) (.o))))))))))))))))))
theorem eq_unicode_utf8_decodeRuneSlow (p0p : Option Addr) (p0l : Nat) (p0c : Nat) (w : World) (J : Int → Int → World → Prop) : vcFun Tryz.prog Tryz.f175 ann_unicode_utf8_decodeRuneSlow [.one (.int .i32), .one (.int .i64)] [.slice p0p p0l p0c] w J = VC_unicode_utf8_decodeRuneSlow p0p p0l p0c w J := by kernel_rfl
theorem c_unicode_utf8_decodeRuneSlow {p0p : Option Addr} {p0l : Nat} {p0c : Nat} {w : World} {J : Int → Int → World → Prop} (h : VC_unicode_utf8_decodeRuneSlow p0p p0l p0c w J) : callJ Tryz.prog fn_unicode_utf8_decodeRuneSlow #[.slice p0p p0l p0c] w [.one (.int .i32), .one (.int .i64)] J := vc_calls Tryz.func175 ann_unicode_utf8_decodeRuneSlow (Eq.mpr (eq_unicode_utf8_decodeRuneSlow p0p p0l p0c w J) h)

/-- unicode/utf8.word[string] -/
def VC_unicode_utf8_word_string (s0 : ByteArray) (w : World) (J : Int → World → Prop) : Prop :=
  idxStr s0 (0 : Int) fun x22 =>
  idxStr s0 (1 : Int) fun x25 =>
  0 ≤ (8 : Int) ∧
  idxStr s0 (2 : Int) fun x30 =>
  0 ≤ (16 : Int) ∧
  idxStr s0 (3 : Int) fun x35 =>
  0 ≤ (24 : Int) ∧
  idxStr s0 (4 : Int) fun x40 =>
  0 ≤ (32 : Int) ∧
  idxStr s0 (5 : Int) fun x45 =>
  0 ≤ (40 : Int) ∧
  idxStr s0 (6 : Int) fun x50 =>
  0 ≤ (48 : Int) ∧
  idxStr s0 (7 : Int) fun x55 =>
  0 ≤ (56 : Int) ∧
  J (bOr .u64 (bOr .u64 (bOr .u64 (bOr .u64 (bOr .u64 (bOr .u64 (bOr .u64 (IntKind.u64.wrap x22) (shlI .u64 (IntKind.u64.wrap x25) (8 : Int))) (shlI .u64 (IntKind.u64.wrap x30) (16 : Int))) (shlI .u64 (IntKind.u64.wrap x35) (24 : Int))) (shlI .u64 (IntKind.u64.wrap x40) (32 : Int))) (shlI .u64 (IntKind.u64.wrap x45) (40 : Int))) (shlI .u64 (IntKind.u64.wrap x50) (48 : Int))) (shlI .u64 (IntKind.u64.wrap x55) (56 : Int))) w.drew
def ann_unicode_utf8_word_string : Ann := .s (.o) (.s (.c .u (.o)) (.s (.d (.take 0 (.take 1 (.take 2 (.take 3 (.take 4 (.take 5 (.take 6 (.take 7 (.take 8 (.take 9 (.take 10 (.take 11 (.take 12 (.take 13 (.take 14 (.take 15 (.take 16 (.take 17 (.take 18 (.take 19 (.take 20 (.take 21 (.take 22 (.take 23 (.take 24 (.take 25 (.take 26 (.take 27 (.take 28 (.take 29 (.take 30 (.take 31 (.take 32 (.take 33 (.take 34 (.take 35 (.take 36 (.take 37 (.take 38 (.done))))))))))))))))))))))))))))))))))))))))) (.o)))
theorem eq_unicode_utf8_word_string (s0 : ByteArray) (w : World) (J : Int → World → Prop) : vcFun Tryz.prog Tryz.f126 ann_unicode_utf8_word_string [.one (.int .u64)] [.string s0] w J = VC_unicode_utf8_word_string s0 w J := by kernel_rfl
theorem c_unicode_utf8_word_string {s0 : ByteArray} {w : World} {J : Int → World → Prop} (h : VC_unicode_utf8_word_string s0 w J) : callJ Tryz.prog fn_unicode_utf8_word_string #[.string s0] w [.one (.int .u64)] J := vc_calls Tryz.func126 ann_unicode_utf8_word_string (Eq.mpr (eq_unicode_utf8_word_string s0 w J) h)

/-- unicode/utf8.ValidString -/
def VC_unicode_utf8_ValidString (s0 : ByteArray) (w : World) (J : Bool → World → Prop) : Prop :=
  ∃ I_0 : ByteArray → World → Nat → Prop, (∃ m : Nat, I_0 s0 w m) ∧ ∀ (s0 : ByteArray) (w1 : World) (m : Nat), I_0 s0 w1 m → (
  condB (decide ((s0.size : Int) > (0 : Int))) (
  idxStr s0 (0 : Int) fun x11 =>
  condB (decide (x11 < (128 : Int))) (
  slStr s0 (some (1 : Int)) none fun s15 =>
  withJ (fun (s0_1 : ByteArray) (w2 : World) =>
  ∃ m' : Nat, m' < m ∧ I_0 s0_1 w2 m') fun J_0 =>
  withJ (fun (x24 : Bool) (w3 : World) =>
  condB x24 (
  slStr s15 (some (8 : Int)) none fun s26 =>
  withJ (fun (x39 : Bool) (w4 : World) =>
  condB x39 (
  slStr s26 (some (16 : Int)) none fun s41 =>
  ∃ I_0_1 : ByteArray → World → Nat → Prop, (∃ m : Nat, I_0_1 s41 w4 m) ∧ ∀ (s0_2 : ByteArray) (w5 : World) (m_1 : Nat), I_0_1 s0_2 w5 m_1 → (
  withJ (fun (x62 : Bool) (w6 : World) =>
  condB x62 (
  slStr s0_2 (some (32 : Int)) none fun s64 =>
  ∃ m' : Nat, m' < m_1 ∧ I_0_1 s64 w6 m') (
  J_0 s0_2 w6)) fun J_62 =>
  condB (decide ((s0_2.size : Int) > (32 : Int))) (
  slStr s0_2 (some (8 : Int)) none fun s49 =>
  slStr s0_2 (some (16 : Int)) none fun s53 =>
  slStr s0_2 (some (24 : Int)) none fun s56 =>
  callJ Tryz.prog fn_unicode_utf8_word_string #[.string s0_2] w5.drew [.one (.int .u64)] fun (r47 : Int) (w7 : World) =>
  callJ Tryz.prog fn_unicode_utf8_word_string #[.string s49] w7 [.one (.int .u64)] fun (r50 : Int) (w8 : World) =>
  callJ Tryz.prog fn_unicode_utf8_word_string #[.string s53] w8 [.one (.int .u64)] fun (r54 : Int) (w9 : World) =>
  callJ Tryz.prog fn_unicode_utf8_word_string #[.string s56] w9 [.one (.int .u64)] fun (r57 : Int) (w10 : World) =>
  J_62 ((bAnd .u64 (bOr .u64 (bOr .u64 r47 r50) (bOr .u64 r54 r57)) (9259542123273814144 : Int)) == (0 : Int)) w10) (
  J_62 false w5.drew))) (
  J_0 s26 w4)) fun J_39 =>
  condB (decide ((s26.size : Int) > (16 : Int))) (
  slStr s26 (some (8 : Int)) none fun s34 =>
  callJ Tryz.prog fn_unicode_utf8_word_string #[.string s26] w3.drew [.one (.int .u64)] fun (r32 : Int) (w11 : World) =>
  callJ Tryz.prog fn_unicode_utf8_word_string #[.string s34] w11 [.one (.int .u64)] fun (r35 : Int) (w12 : World) =>
  J_39 ((bAnd .u64 (bOr .u64 r32 r35) (9259542123273814144 : Int)) == (0 : Int)) w12) (
  J_39 false w3.drew)) (
  J_0 s15 w3)) fun J_24 =>
  condB (decide ((s15.size : Int) > (8 : Int))) (
  callJ Tryz.prog fn_unicode_utf8_word_string #[.string s15] w1 [.one (.int .u64)] fun (r21 : Int) (w13 : World) =>
  J_24 ((bAnd .u64 r21 (9259542123273814144 : Int)) == (0 : Int)) w13) (
  J_24 false w1)) (
  idxA (some ⟨0, 0, none⟩) 256 x11 fun a66 =>
  ldI .u8 w1 ((a66.add (x11.toNat * 1))) fun x67 =>
  0 ≤ (4 : Int) ∧
  idxA (some ⟨1, 0, none⟩) 16 (shrI .u8 x67 (4 : Int)) fun a73 =>
  ldI .u8 w1 ((a73.add ((shrI .u8 x67 (4 : Int)).toNat * 2))) fun x74_0 =>
  ldI .u8 w1 (((a73.add ((shrI .u8 x67 (4 : Int)).toNat * 2)).add 1)) fun x74_1 =>
  newB w1 (.cells (zeroC Tryz.prog T_utf8_acceptRange) T_utf8_acceptRange) fun b6 w14 =>
  stN w14 ⟨b6, 0, none⟩ ⟨[.int .u8 x74_0, .int .u8 x74_1]⟩ 2 fun w15 =>
  condB ((w64 (bAnd .u8 x67 (7 : Int))) == (2 : Int)) (
  withJ (fun (x94 : Bool) (w16 : World) =>
  condB x94 (
  J false w16) (
  slStr s0 (some (2 : Int)) none fun s96 =>
  ∃ m' : Nat, m' < m ∧ I_0 s96 w16 m')) fun J_94 =>
  condB (decide ((s0.size : Int) < (2 : Int))) (
  J_94 true w15.drew) (
  idxStr s0 (1 : Int) fun x83 =>
  ldI .u8 w15.drew ⟨b6, 0, none⟩ fun x85 =>
  condB (decide (x83 < x85)) (
  J_94 true w15.drew) (
  ldI .u8 w15.drew ⟨b6, 1, none⟩ fun x90 =>
  idxStr s0 (1 : Int) fun x92 =>
  J_94 (decide (x90 < x92)) w15.drew))) (
  condB ((w64 (bAnd .u8 x67 (7 : Int))) == (3 : Int)) (
  withJ (fun (x125 : Bool) (w17 : World) =>
  condB x125 (
  J false w17) (
  slStr s0 (some (3 : Int)) none fun s127 =>
  ∃ m' : Nat, m' < m ∧ I_0 s127 w17 m')) fun J_125 =>
  condB (decide ((s0.size : Int) < (3 : Int))) (
  J_125 true w15.drew) (
  idxStr s0 (1 : Int) fun x104 =>
  ldI .u8 w15.drew ⟨b6, 0, none⟩ fun x106 =>
  condB (decide (x104 < x106)) (
  J_125 true w15.drew) (
  ldI .u8 w15.drew ⟨b6, 1, none⟩ fun x111 =>
  idxStr s0 (1 : Int) fun x113 =>
  condB (decide (x111 < x113)) (
  J_125 true w15.drew) (
  idxStr s0 (2 : Int) fun x118 =>
  condB (decide (x118 < (128 : Int))) (
  J_125 true w15.drew) (
  idxStr s0 (2 : Int) fun x123 =>
  J_125 (decide ((191 : Int) < x123)) w15.drew))))) (
  condB ((w64 (bAnd .u8 x67 (7 : Int))) == (4 : Int)) (
  withJ (fun (x166 : Bool) (w18 : World) =>
  condB x166 (
  J false w18) (
  slStr s0 (some (4 : Int)) none fun s168 =>
  ∃ m' : Nat, m' < m ∧ I_0 s168 w18 m')) fun J_166 =>
  condB (decide ((s0.size : Int) < (4 : Int))) (
  J_166 true w15.drew) (
  idxStr s0 (1 : Int) fun x135 =>
  ldI .u8 w15.drew ⟨b6, 0, none⟩ fun x137 =>
  condB (decide (x135 < x137)) (
  J_166 true w15.drew) (
  ldI .u8 w15.drew ⟨b6, 1, none⟩ fun x142 =>
  idxStr s0 (1 : Int) fun x144 =>
  condB (decide (x142 < x144)) (
  J_166 true w15.drew) (
  idxStr s0 (2 : Int) fun x149 =>
  condB (decide (x149 < (128 : Int))) (
  J_166 true w15.drew) (
  idxStr s0 (2 : Int) fun x154 =>
  condB (decide ((191 : Int) < x154)) (
  J_166 true w15.drew) (
  idxStr s0 (3 : Int) fun x159 =>
  condB (decide (x159 < (128 : Int))) (
  J_166 true w15.drew) (
  idxStr s0 (3 : Int) fun x164 =>
  J_166 (decide ((191 : Int) < x164)) w15.drew))))))) (
  J false w15))))) (
  J true w1))
def ann_unicode_utf8_ValidString : Ann := .s (.o) (.s (.b (.l [(0, .str)] (.s (.s (.o) (.c (.o) (.o))) (.b (.s (.o) (.s (.s (.o) (.c (.s (.o) (.j [(0, .str)] (.j [(24, .bool)] (.o) (.c (.s (.o) (.j [(39, .bool)] (.d (.take 0 (.take 1 (.take 2 (.take 3 (.take 4 (.take 6 (.take 7 (.eff 5 (.eff 8 (.take 9 (.take 10 (.take 11 (.take 12 (.done))))) (.none)) (.none)))))))))) (.c (.s (.o) (.b (.l [(0, .str)] (.s (.j [(62, .bool)] (.d (.take 0 (.take 1 (.take 2 (.take 3 (.take 4 (.take 6 (.take 7 (.take 10 (.take 11 (.take 13 (.take 14 (.eff 5 (.eff 8 (.take 9 (.eff 12 (.eff 15 (.take 16 (.take 17 (.take 18 (.take 19 (.take 20 (.done)))))) (.none)) (.none))) (.none)) (.none)))))))))))))) (.c (.o) (.o))) (.b (.o)))))) (.o)))) (.o))) (.o))) (.o))) (.s (.o) (.s (.o) (.s (.o) (.s (.o) (.b (.s (.o) (.c (.s (.j [(94, .bool)] (.d (.take 0 (.take 1 (.take 2 (.take 3 (.take 4 (.take 5 (.take 6 (.take 7 (.take 8 (.take 9 (.take 10 (.take 11 (.take 12 (.take 13 (.take 14 (.take 15 (.take 16 (.done))))))))))))))))))) (.c (.s (.o) (.o)) (.o))) (.o)) (.s (.o) (.c (.s (.j [(125, .bool)] (.d (.take 0 (.take 1 (.take 2 (.take 3 (.take 4 (.take 5 (.take 6 (.take 7 (.take 8 (.take 9 (.take 10 (.take 11 (.take 12 (.take 13 (.take 14 (.take 15 (.take 16 (.take 17 (.take 18 (.take 19 (.take 20 (.take 21 (.take 22 (.take 23 (.take 24 (.take 25 (.take 26 (.done))))))))))))))))))))))))))))) (.c (.s (.o) (.o)) (.o))) (.o)) (.s (.o) (.c (.s (.j [(166, .bool)] (.d (.take 0 (.take 1 (.take 2 (.take 3 (.take 4 (.take 5 (.take 6 (.take 7 (.take 8 (.take 9 (.take 10 (.take 11 (.take 12 (.take 13 (.take 14 (.take 15 (.take 16 (.take 17 (.take 18 (.take 19 (.take 20 (.take 21 (.take 22 (.take 23 (.take 24 (.take 25 (.take 26 (.take 27 (.take 28 (.take 29 (.take 30 (.take 31 (.take 32 (.take 33 (.take 34 (.take 35 (.take 36 (.done))))))))))))))))))))))))))))))))))))))) (.c (.s (.o) (.o)) (.o))) (.o)) (.s (.o) (.o))))))))))))))))))) (.s (.o) (.o)))
theorem eq_unicode_utf8_ValidString (s0 : ByteArray) (w : World) (J : Bool → World → Prop) : vcFun Tryz.prog Tryz.f85 ann_unicode_utf8_ValidString [.one .bool] [.string s0] w J = VC_unicode_utf8_ValidString s0 w J := by kernel_rfl
theorem c_unicode_utf8_ValidString {s0 : ByteArray} {w : World} {J : Bool → World → Prop} (h : VC_unicode_utf8_ValidString s0 w J) : callJ Tryz.prog fn_unicode_utf8_ValidString #[.string s0] w [.one .bool] J := vc_calls Tryz.func85 ann_unicode_utf8_ValidString (Eq.mpr (eq_unicode_utf8_ValidString s0 w J) h)

end Go.Proofs.YtmnbgcgealpcbaaGreatDoor

/-
  Strings as rows of bytes.
-/
namespace Go.Vc
open Go
/-- A string's bytes. -/
abbrev bl (s : ByteArray) : List UInt8 := s.data.toList
theorem bl_len (s : ByteArray) : (bl s).length = s.size := (Lib.size_eq s).symm
theorem bl_get (s : ByteArray) (i : Nat) : s[i]? = (bl s)[i]? := by
  by_cases h : i < s.size
  · rw [getElem?_pos s i h]
    have h2 : i < (bl s).length := by rw [bl_len]; exact h
    rw [List.getElem?_eq_getElem h2]; rfl
  · rw [getElem?_neg s i h, List.getElem?_eq_none (by rw [bl_len]; omega)]
theorem idxStr_b {s : ByteArray} {i : Int} {K : Int → Prop} (h0 : 0 ≤ i) (h : i < s.size) (k : ∀ b : UInt8, (bl s)[i.toNat]? = some b → K b.toNat) : idxStr s i K := by
  have h2 : i.toNat < (bl s).length := by rw [bl_len]; omega
  exact ⟨(bl s)[i.toNat], h0, by rw [bl_get, List.getElem?_eq_getElem h2], k _ (List.getElem?_eq_getElem h2)⟩
theorem slStr_drop {s : ByteArray} {i : Nat} {K : ByteArray → Prop} (h : i ≤ s.size) (k : ∀ t, bl t = (bl s).drop i → t.size = s.size - i → K t) : slStr s (some (i : Int)) none K := by
  have e : bl (s.extract i s.size) = (bl s).drop i := by
    show (s.extract i s.size).data.toList = _
    rw [Lib.extract_data]; exact List.take_of_length_le (by rw [List.length_drop, bl_len]; omega)
  exact ⟨i, s.size, rfl, rfl, h, Nat.le_refl _, k _ e (by rw [← bl_len, e, List.length_drop, bl_len])⟩
theorem bl_ext {s t : ByteArray} (h : bl s = bl t) : s = t := by
  cases s; cases t; congr; exact Array.toList_inj.1 h
theorem toList_bl (s : ByteArray) : s.toList = bl s := Lib.toList_data s
end Go.Vc


/-
  Package unicode/utf8 (DecodeRune, ValidString) by contract; strings as rows of bytes.
-/
namespace Go.Vc
open Go Go.Lib

/-! ## Strings -/
theorem get!_gB (s : ByteArray) (i k : Nat) : (s.get! (i + k)).toNat = gB ((bl s).drop i) k := by
  rw [gB_drop, gB, getD_get!']
theorem decode_dec (s : ByteArray) (i : Nat) : Utf8.decode s i = dec ((bl s).drop i) := by
  rw [decode_at, dec, List.length_drop, bl_len]
  have := get!_gB s i 0
  rw [Nat.add_zero] at this
  rw [this, get!_gB, get!_gB, get!_gB]
theorem idxStr_i {s : ByteArray} {i : Nat} {K : Int → Prop} (h : i < s.size) (k : K ((gB (bl s) i : Nat) : Int)) : idxStr s (i : Int) K := by
  have h2 : i < (bl s).length := by rw [bl_len]; exact h
  refine ⟨(bl s)[i], by omega, by rw [Int.toNat_natCast, bl_get, List.getElem?_eq_getElem h2], ?_⟩
  rw [gB_of (List.getElem?_eq_getElem h2)] at k; exact k

/-! ## Words -/
theorem wrap_i32 (n : Int) (h : -2147483648 ≤ n) (h2 : n < 2147483648) : IntKind.i32.wrap n = n := by
  unfold IntKind.wrap; simp [IntKind.signed, IntKind.bits]; omega
theorem or32 {x y : Nat} (i : Nat) (_ : i ≤ 31) (hx : x % 2 ^ i = 0) (hy : y < 2 ^ i) (h : x + y < 2147483648) : bOr .i32 (x : Int) (y : Int) = ((x + y : Nat) : Int) := by
  show bits .or .i32 (x : Int) (y : Int) = _
  have hw : ∀ n : Int, 0 ≤ n → n < 2 ^ 31 → IntKind.i32.wrap n = n := fun n h0 h1 => wrap_i32 n (by omega) (by omega)
  rw [bits_join .i32 31 (by decide) hw i (x : Int) (y : Int) (by omega) (by exact_mod_cast hx) (by omega) (by omega) (by exact_mod_cast hy) (by omega)]
  omega
theorem shl32 (n s : Nat) (hs : s ≤ 31) (h : n * 2 ^ s < 2147483648) : shlI .i32 (n : Int) (s : Int) = ((n * 2 ^ s : Nat) : Int) := by
  unfold shlI
  rw [Int.toNat_natCast, show min s IntKind.i32.bits = s from by simp [IntKind.bits]; omega]
  have e : (n : Int) * 2 ^ s = ((n * 2 ^ s : Nat) : Int) := by push_cast; rfl
  rw [e, wrap_i32 _ (by omega) (by omega)]
set_option maxRecDepth 100000 in
theorem and63' : ∀ x : Fin 256, bAnd .u8 ((x.val : Nat) : Int) 63 = ((x.val % 64 : Nat) : Int) := by decide
set_option maxRecDepth 100000 in
theorem and31' : ∀ x : Fin 256, bAnd .u8 ((x.val : Nat) : Int) 31 = ((x.val % 32 : Nat) : Int) := by decide
set_option maxRecDepth 100000 in
theorem and15' : ∀ x : Fin 256, bAnd .u8 ((x.val : Nat) : Int) 15 = ((x.val % 16 : Nat) : Int) := by decide
set_option maxRecDepth 100000 in
theorem and7' : ∀ x : Fin 256, bAnd .u8 ((x.val : Nat) : Int) 7 = ((x.val % 8 : Nat) : Int) := by decide
theorem and63 {x : Nat} (h : x < 256) : bAnd .u8 (x : Int) 63 = ((x % 64 : Nat) : Int) := and63' ⟨x, h⟩
theorem and31 {x : Nat} (h : x < 256) : bAnd .u8 (x : Int) 31 = ((x % 32 : Nat) : Int) := and31' ⟨x, h⟩
theorem and15 {x : Nat} (h : x < 256) : bAnd .u8 (x : Int) 15 = ((x % 16 : Nat) : Int) := and15' ⟨x, h⟩
theorem and7 {x : Nat} (h : x < 256) : bAnd .u8 (x : Int) 7 = ((x % 8 : Nat) : Int) := and7' ⟨x, h⟩
theorem shr4 (x : Nat) : shrI .u8 (x : Int) 4 = ((x / 16 : Nat) : Int) := by
  unfold shrI
  rw [show min (4 : Int).toNat IntKind.u8.bits = 4 from rfl]
  show (x : Int).fdiv 16 = _
  rw [Int.fdiv_eq_ediv_of_nonneg _ (by decide)]; omega
theorem keep240 {x : Nat} (h : x < 256) : bOr .i32 (bAndNot .i32 (IntKind.i32.wrap (x : Int)) (shrI .i32 (shlI .i32 (IntKind.i32.wrap ((240 : Nat) : Int)) 31) 31)) (bAnd .i32 65533 (shrI .i32 (shlI .i32 (IntKind.i32.wrap ((240 : Nat) : Int)) 31) 31)) = (x : Int) := by
  rw [show shrI .i32 (shlI .i32 (IntKind.i32.wrap ((240 : Nat) : Int)) 31) 31 = 0 from by decide, wrap_i32 _ (by omega) (by omega)]
  exact Proofs.Utf8W.keep_byte ⟨x, h⟩
theorem drop241 {x : Nat} (h : x < 256) : bOr .i32 (bAndNot .i32 (IntKind.i32.wrap (x : Int)) (shrI .i32 (shlI .i32 (IntKind.i32.wrap ((241 : Nat) : Int)) 31) 31)) (bAnd .i32 65533 (shrI .i32 (shlI .i32 (IntKind.i32.wrap ((241 : Nat) : Int)) 31) 31)) = 65533 := by
  rw [show shrI .i32 (shlI .i32 (IntKind.i32.wrap ((241 : Nat) : Int)) 31) 31 = -1 from by decide, wrap_i32 _ (by omega) (by omega)]
  exact Proofs.Utf8W.drop_byte ⟨x, h⟩

theorem leafF {J : Int → Int → World → Prop} {w : World} {x : Nat × Nat} (e : x = (65533, 1)) (h : J (x.1 : Int) (x.2 : Int) w) : J 65533 1 w := by
  rw [e] at h; simpa using h
theorem leaf {J : Int → Int → World → Prop} {w : World} {x : Nat × Nat} {r k : Nat} {k' : Int} (e : x = (r, k)) (hk : (k : Int) = k') (h : J (x.1 : Int) (x.2 : Int) w) : J (r : Int) k' w := by
  rw [e] at h; rw [← hk]; exact h
theorem firstT_ge {b : Nat} : ¬ firstT b < 240 → firstT b = 240 ∨ firstT b = 241 := by
  intro h
  rcases firstT_cases b with h' | h' | h' | h' | h' | h' | h' | h' | h' <;> omega
theorem firstT_small {b : Nat} : firstT b < 240 → firstT b % 8 ≤ 4 ∧ 2 ≤ firstT b % 8 ∧ firstT b / 16 < 16 ∧ firstT b < 256 ∧ 194 ≤ b := by
  intro h
  have h2 := firstT_low h
  rcases firstT_cases b with h' | h' | h' | h' | h' | h' | h' | h' | h' <;> (rw [h'] at h ⊢; omega)

/-! ## Which chars -/
theorem rd0_of_dec {bs : List UInt8} (h : dec bs = (65533, 1)) : (rd bs).2 = 0 := by
  rw [dec_rd] at h
  split at h
  · assumption
  · have h1 := congrArg Prod.fst h
    have h2 := congrArg Prod.snd h
    have := rd_fffd bs h1
    simp only at h2; omega
theorem rd_of_dec {bs : List UInt8} {r k : Nat} (h : dec bs = (r, k)) (hk : 2 ≤ k) : rd bs = (r, k) := by
  rw [dec_rd] at h
  split at h
  · have := congrArg Prod.snd h; simp only at this; omega
  · exact h
theorem dec_of_rd {bs : List UInt8} (h : (rd bs).2 ≠ 0) : dec bs = rd bs := by rw [dec_rd, if_neg h]
theorem vld_drop : ∀ (k : Nat) (bs : List UInt8), (∀ b ∈ bs.take k, b.toNat < 128) → vld bs = vld (bs.drop k)
  | 0, bs, _ => by simp
  | k + 1, [], _ => by simp
  | k + 1, b :: r, h => by
    have hb := h b (by simp)
    have e := rd_ascii_cons b r hb
    rw [vld_step (by simp) (by rw [e]; simp), e]
    simp only [List.drop_succ_cons, List.drop_zero]
    exact vld_drop k r (fun x hx => h x (by simp [hx]))

/-- The tables of the library. -/
def Tabs (w : World) : Prop := Lib.Utf8Tabs 0 1 w
theorem Tabs.chg {w w' : World} (h : Tabs w) (hc : Chg No w w') : Tabs w' :=
  ⟨fun c h1 => hc.cell (h.1 c h1) (fun f => f), fun i hi => ⟨hc.cell (h.2 i hi).1 (fun f => f), hc.cell (h.2 i hi).2 (fun f => f)⟩⟩
end Go.Vc

namespace Go.Proofs.YtmnbgcgealpcbaaGreatDoor
open Go Go.Vc Go.Lib

section
variable {w : World}

theorem zeroC_acc : zeroC Tryz.prog T_utf8_acceptRange = ⟨[.int .u8 0, .int .u8 0]⟩ := by kernel_rfl

set_option maxRecDepth 100000 in
set_option maxHeartbeats 1000000 in
theorem decodeRuneSlow_ok {p : Option Addr} {l c : Nat} {bs : List UInt8} {J : Int → Int → World → Prop} (h : Bytes w p l bs) (hl : l ≠ 0) (T : Tabs w)
    (K : ∀ w', Chg No w w' → J ((dec bs).1 : Int) ((dec bs).2 : Int) w') : callJ Tryz.prog fn_unicode_utf8_decodeRuneSlow #[.slice p l c] w [.one (.int .i32), .one (.int .i64)] J := by
  refine c_unicode_utf8_decodeRuneSlow ?_
  unfold VC_unicode_utf8_decodeRuneSlow
  have hbl := h.len
  refine condB_d (fun hz => absurd hz (by omega)) fun _ => ?_
  refine byte_i h (by decide) (by omega) fun b0 hb0 => ?_
  have g0 := gB_of hb0
  rw [show (0 : Int).toNat = 0 from rfl] at g0
  rw [← g0]
  have l0 := gB_lt bs 0; have l1 := gB_lt bs 1; have l2 := gB_lt bs 2; have l3 := gB_lt bs 3
  refine idxA_i (by omega) (by omega) ?_
  rw [Addr.add_mk, Nat.zero_add, Nat.mul_one, Int.toNat_natCast]
  refine ldI_i (T.1 _ l0) ?_
  refine condB_d (fun hx => ?_) (fun hx => ?_)
  · refine ⟨by decide, by decide, ?_⟩
    refine byte_i h (by decide) (by omega) fun b0' hb0' => ?_
    rw [hb0] at hb0'; cases hb0'
    rw [← g0]
    rcases firstT_ge (b := gB bs 0) (by omega) with hf | hf
    · rw [hf, keep240 l0]
      exact leaf (show dec bs = (gB bs 0, 1) from ascii_eq _ _ _ _ _ hf) rfl (K w (Chg.refl _ _))
    · rw [hf, drop241 l0]
      exact leafF (show dec bs = (65533, 1) from bad_eq _ _ _ _ _ l0 hf) (K w (Chg.refl _ _))
  · have hx : firstT (gB bs 0) < 240 := by omega
    obtain ⟨s4, s2, s16, s256, _⟩ := firstT_small hx
    have hdec : dec bs = slowN bs.length (gB bs 0) (gB bs 1) (gB bs 2) (gB bs 3) (firstT (gB bs 0) % 8) (accLo (firstT (gB bs 0) / 16)) (accHi (firstT (gB bs 0) / 16)) := (slow_eq _ _ _ _ _ (by omega) l1 l2 l3 hx).symm
    rw [hdec] at K
    rw [shr4, and7 s256, w64_of (by omega) (by omega)]
    generalize hsz : firstT (gB bs 0) % 8 = sz at *
    generalize hq : firstT (gB bs 0) / 16 = q at *
    refine ⟨by decide, idxA_i (by omega) (by omega) ?_⟩
    simp only [Addr.add_mk, Nat.zero_add, Int.toNat_natCast]
    have ht := T.2 q s16
    rw [Nat.mul_comm] at ht
    refine ldI_i ht.1 (ldI_i ht.2 ?_)
    rw [zeroC_acc]
    refine (Hp.start w No).newB fun b9 w1 H1 hb9 hc1 => ?_
    refine H1.stN 0 rfl (off := 0) rfl (by decide) (by simp [one1, Value.oneCell']) fun w2 H2 hc2 => ?_
    have hc : Chg No w w2 := hc1.trans hc2 fun x hx he => by subst he; omega
    have hB : Bytes w2 p l bs := h.chg hc (off_no _)
    simp only [splice, List.take_zero, List.nil_append, List.set_cons_zero, List.length_cons, List.length_nil, List.drop_succ_cons, List.drop_nil, List.append_nil, Nat.zero_add] at H2
    refine condB_d (fun hn => ?_) (fun hn => ?_)
    · have e : slowN bs.length (gB bs 0) (gB bs 1) (gB bs 2) (gB bs 3) sz (accLo q) (accHi q) = (65533, 1) := by unfold slowN; rw [if_pos (by omega)]
      exact leafF e (K w2 hc)
    · refine byte_i hB (by decide) (by omega) fun b1 hb1 => ?_
      have g1 := gB_of hb1
      rw [show (1 : Int).toNat = 1 from rfl] at g1
      rw [← g1]
      refine withJ_i fun J60 hJ60 => ?_
      have n1 : ¬ bs.length < sz := by omega
      have fail1 : (gB bs 1 < accLo q ∨ accHi q < gB bs 1) → J60 true w2 := fun hf => by
        subst hJ60
        have e : slowN bs.length (gB bs 0) (gB bs 1) (gB bs 2) (gB bs 3) sz (accLo q) (accHi q) = (65533, 1) := by unfold slowN; rw [if_neg n1, if_pos hf]
        exact leafF e (K w2 hc)
      refine H2.ldI 0 rfl (off := 0) rfl ?_
      refine condB_d (fun hlo => fail1 (.inl (by omega))) (fun hlo => ?_)
      refine H2.ldI 0 rfl (off := 1) rfl ?_
      by_cases hhi : accHi q < gB bs 1
      · rw [decide_eq_true (by omega)]; exact fail1 (.inr hhi)
      rw [decide_eq_false (by omega)]
      have n2 : ¬ (gB bs 1 < accLo q ∨ accHi q < gB bs 1) := by omega
      clear fail1
      subst hJ60
      refine condB_d (fun h2 => ?_) (fun h2 => ?_)
      · have e : slowN bs.length (gB bs 0) (gB bs 1) (gB bs 2) (gB bs 3) sz (accLo q) (accHi q) = (gB bs 0 % 32 * 64 + gB bs 1 % 64, 2) := by unfold slowN; rw [if_neg n1, if_neg n2, if_pos (by omega)]
        refine ⟨by decide, ?_⟩
        rw [and31 l0, and63 l1, wrap_i32 _ (by omega) (by omega), wrap_i32 _ (by omega) (by omega), show (6 : Int) = ((6 : Nat) : Int) from rfl, shl32 _ 6 (by decide) (by omega), or32 6 (by decide) (by omega) (by omega) (by omega)]
        exact leaf e rfl (K w2 hc)
      · refine byte_i hB (by decide) (by omega) fun b2 hb2 => ?_
        have g2 := gB_of hb2
        rw [show (2 : Int).toNat = 2 from rfl] at g2
        rw [← g2]
        refine withJ_i fun J79 hJ79 => ?_
        have fail2 : (gB bs 2 < 128 ∨ 191 < gB bs 2) → J79 true w2 := fun hf => by
          subst hJ79
          have e : slowN bs.length (gB bs 0) (gB bs 1) (gB bs 2) (gB bs 3) sz (accLo q) (accHi q) = (65533, 1) := by unfold slowN; rw [if_neg n1, if_neg n2, if_neg (by omega), if_pos hf]
          exact leafF e (K w2 hc)
        refine condB_d (fun hlo => fail2 (.inl (by omega))) (fun hlo => ?_)
        by_cases hhi : 191 < gB bs 2
        · rw [decide_eq_true (by omega)]; exact fail2 (.inr hhi)
        rw [decide_eq_false (by omega)]
        have n3 : ¬ (gB bs 2 < 128 ∨ 191 < gB bs 2) := by omega
        clear fail2
        subst hJ79
        refine condB_d (fun h3 => ?_) (fun h3 => ?_)
        · have e : slowN bs.length (gB bs 0) (gB bs 1) (gB bs 2) (gB bs 3) sz (accLo q) (accHi q) = (gB bs 0 % 16 * 4096 + gB bs 1 % 64 * 64 + gB bs 2 % 64, 3) := by
            unfold slowN; rw [if_neg n1, if_neg n2, if_neg (by omega), if_neg n3, if_pos (by omega)]
          refine ⟨by decide, by decide, ?_⟩
          rw [and15 l0, and63 l1, and63 l2, wrap_i32 _ (by omega) (by omega), wrap_i32 _ (by omega) (by omega), wrap_i32 _ (by omega) (by omega), show (6 : Int) = ((6 : Nat) : Int) from rfl, show (12 : Int) = ((12 : Nat) : Int) from rfl,
            shl32 _ 12 (by decide) (by omega), shl32 _ 6 (by decide) (by omega), or32 12 (by decide) (by omega) (by omega) (by omega), or32 6 (by decide) (by omega) (by omega) (by omega)]
          exact leaf e rfl (K w2 hc)
        · refine byte_i hB (by decide) (by omega) fun b3 hb3 => ?_
          have g3 := gB_of hb3
          rw [show (3 : Int).toNat = 3 from rfl] at g3
          rw [← g3]
          refine withJ_i fun J103 hJ103 => ?_
          have fail3 : (gB bs 3 < 128 ∨ 191 < gB bs 3) → J103 true w2 := fun hf => by
            subst hJ103
            have e : slowN bs.length (gB bs 0) (gB bs 1) (gB bs 2) (gB bs 3) sz (accLo q) (accHi q) = (65533, 1) := by unfold slowN; rw [if_neg n1, if_neg n2, if_neg (by omega), if_neg n3, if_neg (by omega), if_pos hf]
            exact leafF e (K w2 hc)
          refine condB_d (fun hlo => fail3 (.inl (by omega))) (fun hlo => ?_)
          by_cases hhi : 191 < gB bs 3
          · rw [decide_eq_true (by omega)]; exact fail3 (.inr hhi)
          rw [decide_eq_false (by omega)]
          have n4 : ¬ (gB bs 3 < 128 ∨ 191 < gB bs 3) := by omega
          clear fail3
          subst hJ103
          have e : slowN bs.length (gB bs 0) (gB bs 1) (gB bs 2) (gB bs 3) sz (accLo q) (accHi q) = (gB bs 0 % 8 * 262144 + gB bs 1 % 64 * 4096 + gB bs 2 % 64 * 64 + gB bs 3 % 64, 4) := by
            unfold slowN; rw [if_neg n1, if_neg n2, if_neg (by omega), if_neg n3, if_neg (by omega), if_neg n4]
          refine ⟨by decide, by decide, by decide, ?_⟩
          rw [and7 l0, and63 l1, and63 l2, and63 l3, wrap_i32 _ (by omega) (by omega), wrap_i32 _ (by omega) (by omega), wrap_i32 _ (by omega) (by omega), wrap_i32 _ (by omega) (by omega),
            show (6 : Int) = ((6 : Nat) : Int) from rfl, show (12 : Int) = ((12 : Nat) : Int) from rfl, show (18 : Int) = ((18 : Nat) : Int) from rfl,
            shl32 _ 18 (by decide) (by omega), shl32 _ 12 (by decide) (by omega), shl32 _ 6 (by decide) (by omega), or32 18 (by decide) (by omega) (by omega) (by omega), or32 12 (by decide) (by omega) (by omega) (by omega), or32 6 (by decide) (by omega) (by omega) (by omega)]
          exact leaf e rfl (K w2 hc)

set_option maxRecDepth 100000 in
theorem DecodeRune_ok {p : Option Addr} {l c : Nat} {bs : List UInt8} {J : Int → Int → World → Prop} (h : Bytes w p l bs) (hl : l ≠ 0) (T : Tabs w)
    (K : ∀ w', Chg No w w' → J ((dec bs).1 : Int) ((dec bs).2 : Int) w') : callJ Tryz.prog fn_unicode_utf8_DecodeRune #[.slice p l c] w [.one (.int .i32), .one (.int .i64)] J := by
  refine c_unicode_utf8_DecodeRune ?_
  unfold VC_unicode_utf8_DecodeRune
  refine withJ_i fun J0 hJ0 => ?_
  refine ⟨fun x w' m => x = 0 ∧ w' = w, ⟨0, rfl, rfl⟩, ?_⟩
  rintro x w' m ⟨rfl, rfl⟩
  have go : J0 w' := by subst hJ0; exact decodeRuneSlow_ok h hl T K
  refine condB_d (fun hx => ?_) (fun hx => go)
  refine byte_i h (by decide) (by omega) fun b hb => ?_
  have g0 := gB_of hb
  rw [show (0 : Int).toNat = 0 from rfl] at g0
  refine condB_d (fun h1 => ?_) (fun h1 => go)
  have e : dec bs = (gB bs 0, 1) := by unfold dec decodeN; rw [if_pos (by omega)]
  rw [wrap_i32 _ (by omega) (by omega), ← g0]
  exact leaf e rfl (K w' (Chg.refl _ _))

set_option maxRecDepth 100000 in
set_option maxHeartbeats 1000000 in
theorem word_ok {s : ByteArray} {J : Int → World → Prop} (h : 8 ≤ s.size) (K : ∀ A : Nat, A < 18446744073709551616 → (A &&& 9259542123273814144 = 0 → ∀ b ∈ (bl s).take 8, b.toNat < 128) → J (A : Int) w.drew) :
    callJ Tryz.prog fn_unicode_utf8_word_string #[.string s] w [.one (.int .u64)] J := by
  refine c_unicode_utf8_word_string ?_
  unfold VC_unicode_utf8_word_string
  have hk := K _ (word_lt s) (fun h0 => (word_asc s h).1 h0)
  have q : ∀ i, (s.get! i).toNat = gB (bl s) i := fun i => by rw [gB, getD_get!']
  simp only [Lib.leNat, q] at hk
  have lt := fun i => gB_lt (bl s) i
  refine idxStr_i (i := 0) (by omega) ?_
  refine idxStr_i (i := 1) (by omega) ⟨by decide, ?_⟩
  refine idxStr_i (i := 2) (by omega) ⟨by decide, ?_⟩
  refine idxStr_i (i := 3) (by omega) ⟨by decide, ?_⟩
  refine idxStr_i (i := 4) (by omega) ⟨by decide, ?_⟩
  refine idxStr_i (i := 5) (by omega) ⟨by decide, ?_⟩
  refine idxStr_i (i := 6) (by omega) ⟨by decide, ?_⟩
  refine idxStr_i (i := 7) (by omega) ⟨by decide, ?_⟩
  have h0 := lt 0; have h1 := lt 1; have h2 := lt 2; have h3 := lt 3; have h4 := lt 4; have h5 := lt 5; have h6 := lt 6; have h7 := lt 7
  generalize gB (bl s) 0 = x0 at *; generalize gB (bl s) 1 = x1 at *; generalize gB (bl s) 2 = x2 at *; generalize gB (bl s) 3 = x3 at *
  generalize gB (bl s) 4 = x4 at *; generalize gB (bl s) 5 = x5 at *; generalize gB (bl s) 6 = x6 at *; generalize gB (bl s) 7 = x7 at *
  have sh : ∀ (n : Nat) (k : Int), shlI .u64 (n : Int) k = IntKind.u64.wrap ((n : Int) * 2 ^ (min k.toNat 64)) := fun _ _ => rfl
  have bo : ∀ x y : Int, bOr .u64 x y = bits .or .u64 x y := fun _ _ => rfl
  simp (disch := omega) only [u64_wrap_id, sh, bo]
  simp only [show (8 : Int).toNat = 8 from rfl, show (16 : Int).toNat = 16 from rfl, show (24 : Int).toNat = 24 from rfl, show (32 : Int).toNat = 32 from rfl, show (40 : Int).toNat = 40 from rfl, show (48 : Int).toNat = 48 from rfl, show (56 : Int).toNat = 56 from rfl, show min 8 64 = 8 from rfl, show min 16 64 = 16 from rfl, show min 24 64 = 24 from rfl, show min 32 64 = 32 from rfl, show min 40 64 = 40 from rfl, show min 48 64 = 48 from rfl, show min 56 64 = 56 from rfl, Int.reducePow]
  simp (disch := omega) only [u64_wrap_id, u64_or8, u64_or16, u64_or24, u64_or32, u64_or40, u64_or48, u64_or56]
  have e : (x0 : Int) + (x1 : Int) * 256 + (x2 : Int) * 65536 + (x3 : Int) * 16777216 + (x4 : Int) * 4294967296 + (x5 : Int) * 1099511627776 + (x6 : Int) * 281474976710656 + (x7 : Int) * 72057594037927936
    = ((x0 + 256 * (x1 + 256 * (x2 + 256 * (x3 + 256 * (x4 + 256 * (x5 + 256 * (x6 + 256 * (x7 + 256 * 0))))))) : Nat) : Int) := by push_cast; omega
  rw [e]; exact hk
end

end Go.Proofs.YtmnbgcgealpcbaaGreatDoor


/- What the conditions of these functions are, reckoned by the reading; printed by program. -/
set_option maxRecDepth 100000
set_option linter.unusedVariables false
namespace Go.Proofs.YtmnbgcgealpcbaaGreatDoor
open Go Go.Vc

/-- lectern/char.IsChar -/
def VC_char_IsChar (r0 : Int) (w : World) (J : Bool → World → Prop) : Prop :=
  withJ (fun (x2 : Bool) (w1 : World) =>
  J x2 w1) fun J_2 =>
  condB (r0 == (9 : Int)) (
  J_2 true w) (
  condB (r0 == (10 : Int)) (
  J_2 true w) (
  condB (r0 == (13 : Int)) (
  J_2 true w) (
  Array.size (⟨[.int .i32 (32 : Int), .int .i32 (55295 : Int)]⟩ : Array Value) = 2 ∧
  Array.size (⟨[.int .i32 (57344 : Int), .int .i32 (65533 : Int)]⟩ : Array Value) = 2 ∧
  Array.size (⟨[.int .i32 (65536 : Int), .int .i32 (1114111 : Int)]⟩ : Array Value) = 2 ∧
  newB w (.cells ⟨[.int .i32 (32 : Int), .int .i32 (55295 : Int), .int .i32 (57344 : Int), .int .i32 (65533 : Int), .int .i32 (65536 : Int), .int .i32 (1114111 : Int)]⟩ T_char_span) fun b18 w2 =>
  callJ Tryz.prog fn_char_in #[.int .i32 r0, .slice (some ⟨b18, 0, none⟩) 3 3] w2 [.one .bool] fun (r19 : Bool) (w3 : World) =>
  J_2 r19 w3)))
def ann_char_IsChar : Ann := .s (.o) (.j [(2, .bool)] (.o) (.o))
theorem eq_char_IsChar (r0 : Int) (w : World) (J : Bool → World → Prop) : vcFun Tryz.prog Tryz.f138 ann_char_IsChar [.one .bool] [.int .i32 r0] w J = VC_char_IsChar r0 w J := by kernel_rfl
theorem c_char_IsChar {r0 : Int} {w : World} {J : Bool → World → Prop} (h : VC_char_IsChar r0 w J) : callJ Tryz.prog fn_char_IsChar #[.int .i32 r0] w [.one .bool] J := vc_calls Tryz.func138 ann_char_IsChar (Eq.mpr (eq_char_IsChar r0 w J) h)

/-- lectern/char.IsPart -/
def VC_char_IsPart (r0 : Int) (w : World) (J : Bool → World → Prop) : Prop :=
  withJ (fun (x2 : Bool) (w1 : World) =>
  J x2 w1) fun J_2 =>
  callJ Tryz.prog fn_char_IsStart #[.int .i32 r0] w [.one .bool] fun (r4 : Bool) (w2 : World) =>
  condB r4 (
  J_2 true w2) (
  condB (r0 == (45 : Int)) (
  J_2 true w2) (
  condB (r0 == (46 : Int)) (
  J_2 true w2) (
  condB (decide (r0 ≥ (48 : Int))) (
  condB (decide (r0 ≤ (57 : Int))) (
  J_2 true w2) (
  condB (r0 == (183 : Int)) (
  J_2 true w2) (
  Array.size (⟨[.int .i32 (768 : Int), .int .i32 (879 : Int)]⟩ : Array Value) = 2 ∧
  Array.size (⟨[.int .i32 (8255 : Int), .int .i32 (8256 : Int)]⟩ : Array Value) = 2 ∧
  newB w2 (.cells ⟨[.int .i32 (768 : Int), .int .i32 (879 : Int), .int .i32 (8255 : Int), .int .i32 (8256 : Int)]⟩ T_char_span) fun b29 w3 =>
  callJ Tryz.prog fn_char_in #[.int .i32 r0, .slice (some ⟨b29, 0, none⟩) 2 2] w3 [.one .bool] fun (r30 : Bool) (w4 : World) =>
  J_2 r30 w4))) (
  condB (r0 == (183 : Int)) (
  J_2 true w2) (
  Array.size (⟨[.int .i32 (768 : Int), .int .i32 (879 : Int)]⟩ : Array Value) = 2 ∧
  Array.size (⟨[.int .i32 (8255 : Int), .int .i32 (8256 : Int)]⟩ : Array Value) = 2 ∧
  newB w2 (.cells ⟨[.int .i32 (768 : Int), .int .i32 (879 : Int), .int .i32 (8255 : Int), .int .i32 (8256 : Int)]⟩ T_char_span) fun b29_1 w5 =>
  callJ Tryz.prog fn_char_in #[.int .i32 r0, .slice (some ⟨b29_1, 0, none⟩) 2 2] w5 [.one .bool] fun (r30_1 : Bool) (w6 : World) =>
  J_2 r30_1 w6)))))
def ann_char_IsPart : Ann := .s (.o) (.j [(2, .bool)] (.o) (.o))
theorem eq_char_IsPart (r0 : Int) (w : World) (J : Bool → World → Prop) : vcFun Tryz.prog Tryz.f87 ann_char_IsPart [.one .bool] [.int .i32 r0] w J = VC_char_IsPart r0 w J := by kernel_rfl
theorem c_char_IsPart {r0 : Int} {w : World} {J : Bool → World → Prop} (h : VC_char_IsPart r0 w J) : callJ Tryz.prog fn_char_IsPart #[.int .i32 r0] w [.one .bool] J := vc_calls Tryz.func87 ann_char_IsPart (Eq.mpr (eq_char_IsPart r0 w J) h)

/-- lectern/char.IsStart -/
def VC_char_IsStart (r0 : Int) (w : World) (J : Bool → World → Prop) : Prop :=
  condB (decide (r0 < (128 : Int))) (
  withJ (fun (x2 : Bool) (w1 : World) =>
  J x2 w1) fun J_2 =>
  condB (decide (r0 ≥ (97 : Int))) (
  condB (decide (r0 ≤ (122 : Int))) (
  J_2 true w) (
  condB (decide (r0 ≥ (65 : Int))) (
  condB (decide (r0 ≤ (90 : Int))) (
  J_2 true w) (
  J_2 (r0 == (95 : Int)) w)) (
  J_2 (r0 == (95 : Int)) w))) (
  condB (decide (r0 ≥ (65 : Int))) (
  condB (decide (r0 ≤ (90 : Int))) (
  J_2 true w) (
  J_2 (r0 == (95 : Int)) w)) (
  J_2 (r0 == (95 : Int)) w))) (
  Array.size (⟨[.int .i32 (192 : Int), .int .i32 (214 : Int)]⟩ : Array Value) = 2 ∧
  Array.size (⟨[.int .i32 (216 : Int), .int .i32 (246 : Int)]⟩ : Array Value) = 2 ∧
  Array.size (⟨[.int .i32 (248 : Int), .int .i32 (767 : Int)]⟩ : Array Value) = 2 ∧
  Array.size (⟨[.int .i32 (880 : Int), .int .i32 (893 : Int)]⟩ : Array Value) = 2 ∧
  Array.size (⟨[.int .i32 (895 : Int), .int .i32 (8191 : Int)]⟩ : Array Value) = 2 ∧
  Array.size (⟨[.int .i32 (8204 : Int), .int .i32 (8205 : Int)]⟩ : Array Value) = 2 ∧
  Array.size (⟨[.int .i32 (8304 : Int), .int .i32 (8591 : Int)]⟩ : Array Value) = 2 ∧
  Array.size (⟨[.int .i32 (11264 : Int), .int .i32 (12271 : Int)]⟩ : Array Value) = 2 ∧
  Array.size (⟨[.int .i32 (12289 : Int), .int .i32 (55295 : Int)]⟩ : Array Value) = 2 ∧
  Array.size (⟨[.int .i32 (63744 : Int), .int .i32 (64975 : Int)]⟩ : Array Value) = 2 ∧
  Array.size (⟨[.int .i32 (65008 : Int), .int .i32 (65533 : Int)]⟩ : Array Value) = 2 ∧
  Array.size (⟨[.int .i32 (65536 : Int), .int .i32 (983039 : Int)]⟩ : Array Value) = 2 ∧
  newB w (.cells ⟨[.int .i32 (192 : Int), .int .i32 (214 : Int), .int .i32 (216 : Int), .int .i32 (246 : Int), .int .i32 (248 : Int), .int .i32 (767 : Int), .int .i32 (880 : Int), .int .i32 (893 : Int), .int .i32 (895 : Int), .int .i32 (8191 : Int), .int .i32 (8204 : Int), .int .i32 (8205 : Int), .int .i32 (8304 : Int), .int .i32 (8591 : Int), .int .i32 (11264 : Int), .int .i32 (12271 : Int), .int .i32 (12289 : Int), .int .i32 (55295 : Int), .int .i32 (63744 : Int), .int .i32 (64975 : Int), .int .i32 (65008 : Int), .int .i32 (65533 : Int), .int .i32 (65536 : Int), .int .i32 (983039 : Int)]⟩ T_char_span) fun b36 w2 =>
  callJ Tryz.prog fn_char_in #[.int .i32 r0, .slice (some ⟨b36, 0, none⟩) 12 12] w2 [.one .bool] fun (r37 : Bool) (w3 : World) =>
  J r37 w3)
def ann_char_IsStart : Ann := .s (.o) (.s (.s (.o) (.c (.j [(2, .bool)] (.o) (.o)) (.o))) (.s (.o) (.o)))
theorem eq_char_IsStart (r0 : Int) (w : World) (J : Bool → World → Prop) : vcFun Tryz.prog Tryz.f86 ann_char_IsStart [.one .bool] [.int .i32 r0] w J = VC_char_IsStart r0 w J := by kernel_rfl
theorem c_char_IsStart {r0 : Int} {w : World} {J : Bool → World → Prop} (h : VC_char_IsStart r0 w J) : callJ Tryz.prog fn_char_IsStart #[.int .i32 r0] w [.one .bool] J := vc_calls Tryz.func86 ann_char_IsStart (Eq.mpr (eq_char_IsStart r0 w J) h)

/-- lectern/char.in -/
def VC_char_in (r0 : Int) (l1p : Option Addr) (l1l : Nat) (l1c : Nat) (w : World) (J : Bool → World → Prop) : Prop :=
  ∃ I_9 : Int → World → Nat → Prop, (∃ m : Nat, I_9 (0 : Int) w m) ∧ ∀ (x9 : Int) (w1 : World) (m : Nat), I_9 x9 w1 m → (
  condB (decide (x9 < ((l1l : Nat) : Int))) (
  idxA l1p l1l x9 fun a11 =>
  ldI .i32 w1 ((a11.add (x9.toNat * 2))) fun x12_0 =>
  ldI .i32 w1 (((a11.add (x9.toNat * 2)).add 1)) fun x12_1 =>
  newB w1 (.cells (zeroC Tryz.prog T_char_span) T_char_span) fun b6 w2 =>
  stN w2 ⟨b6, 0, none⟩ ⟨[.int .i32 x12_0, .int .i32 x12_1]⟩ 2 fun w3 =>
  ldI .i32 w3 ⟨b6, 1, none⟩ fun x15 =>
  condB (decide (r0 ≤ x15)) (
  ldI .i32 w3 ⟨b6, 0, none⟩ fun x19 =>
  J (decide (r0 ≥ x19)) w3) (
  ∃ m' : Nat, m' < m ∧ I_9 (w64 (x9 + (1 : Int))) w3 m')) (
  J false w1))
def ann_char_in : Ann := .s (.o) (.s (.s (.o) (.b (.l [(9, .int .i64)] (.s (.o) (.s (.c (.o) (.o)) (.s (.b (.s (.o) (.s (.o) (.c (.s (.o) (.o)) (.o))))) (.o))))))) (.s (.o) (.o)))
theorem eq_char_in (r0 : Int) (l1p : Option Addr) (l1l : Nat) (l1c : Nat) (w : World) (J : Bool → World → Prop) : vcFun Tryz.prog Tryz.f127 ann_char_in [.one .bool] [.int .i32 r0, .slice l1p l1l l1c] w J = VC_char_in r0 l1p l1l l1c w J := by kernel_rfl
theorem c_char_in {r0 : Int} {l1p : Option Addr} {l1l : Nat} {l1c : Nat} {w : World} {J : Bool → World → Prop} (h : VC_char_in r0 l1p l1l l1c w J) : callJ Tryz.prog fn_char_in #[.int .i32 r0, .slice l1p l1l l1c] w [.one .bool] J := vc_calls Tryz.func127 ann_char_in (Eq.mpr (eq_char_in r0 l1p l1l l1c w J) h)

/-- lectern/char.Next -/
def VC_char_Next (b0p : Option Addr) (b0l : Nat) (b0c : Nat) (at1 : Int) (w : World) (J : Int → Int → Int → World → Prop) : Prop :=
  withJ (fun (x16 : Bool) (w1 : World) =>
  condB x16 (
  J (0 : Int) (0 : Int) (1 : Int) w1) (
  slS b0p b0l b0c 1 (some at1) none none fun q20p q20l q20c =>
  callJ Tryz.prog fn_unicode_utf8_DecodeRune #[.slice q20p q20l q20c] w1 [.one (.int .i32), .one (.int .i64)] fun (r21_0 : Int) (r21_1 : Int) (w2 : World) =>
  withJ (fun (x24 : Bool) (w3 : World) =>
  condB x24 (
  J (0 : Int) (0 : Int) (20 : Int) w3) (
  callJ Tryz.prog fn_char_IsChar #[.int .i32 r21_0] w3 [.one .bool] fun (r33 : Bool) (w4 : World) =>
  condB (!r33) (
  J (0 : Int) (0 : Int) (21 : Int) w4) (
  J r21_0 (w64 (at1 + r21_1)) (0 : Int) w4))) fun J_24 =>
  condB (r21_0 == (65533 : Int)) (
  J_24 (decide (r21_1 < (3 : Int))) w2) (
  J_24 false w2))) fun J_16 =>
  condB (decide (at1 < (0 : Int))) (
  J_16 true w) (
  J_16 (decide (at1 ≥ ((b0l : Nat) : Int))) w)
def ann_char_Next : Ann := .s (.o) (.s (.j [(16, .bool)] (.o) (.c (.s (.o) (.o)) (.o))) (.s (.o) (.s (.b (.j [(24, .bool)] (.o) (.c (.s (.o) (.o)) (.s (.o) (.c (.s (.o) (.o)) (.o)))))) (.s (.o) (.o)))))
theorem eq_char_Next (b0p : Option Addr) (b0l : Nat) (b0c : Nat) (at1 : Int) (w : World) (J : Int → Int → Int → World → Prop) : vcFun Tryz.prog Tryz.f100 ann_char_Next [.one (.int .i32), .one (.int .i64), .one (.int .i64)] [.slice b0p b0l b0c, .int .i64 at1] w J = VC_char_Next b0p b0l b0c at1 w J := by kernel_rfl
theorem c_char_Next {b0p : Option Addr} {b0l : Nat} {b0c : Nat} {at1 : Int} {w : World} {J : Int → Int → Int → World → Prop} (h : VC_char_Next b0p b0l b0c at1 w J) : callJ Tryz.prog fn_char_Next #[.slice b0p b0l b0c, .int .i64 at1] w [.one (.int .i32), .one (.int .i64), .one (.int .i64)] J := vc_calls Tryz.func100 ann_char_Next (Eq.mpr (eq_char_Next b0p b0l b0c at1 w J) h)

/-- lectern/char.Fault -/
def VC_char_Fault (b0p : Option Addr) (b0l : Nat) (b0c : Nat) (w : World) (J : Int → Int → World → Prop) : Prop :=
  ∃ I_4 : Int → World → Nat → Prop, (∃ m : Nat, I_4 (0 : Int) w m) ∧ ∀ (at4 : Int) (w1 : World) (m : Nat), I_4 at4 w1 m → (
  condB (decide (at4 < ((b0l : Nat) : Int))) (
  callJ Tryz.prog fn_char_Next #[.slice b0p b0l b0c, .int .i64 at4] w1 [.one (.int .i32), .one (.int .i64), .one (.int .i64)] fun (r15_0 : Int) (r15_1 : Int) (r15_2 : Int) (w2 : World) =>
  condB (r15_2 != (0 : Int)) (
  J at4 r15_2 w2) (
  ∃ m' : Nat, m' < m ∧ I_4 r15_1 w2 m')) (
  J (0 : Int) (0 : Int) w1))
def ann_char_Fault : Ann := .s (.o) (.s (.s (.o) (.b (.l [(4, .int .i64)] (.s (.s (.o) (.c (.o) (.o))) (.b (.s (.o) (.s (.s (.o) (.c (.s (.o) (.o)) (.o))) (.o)))))))) (.s (.o) (.o)))
theorem eq_char_Fault (b0p : Option Addr) (b0l : Nat) (b0c : Nat) (w : World) (J : Int → Int → World → Prop) : vcFun Tryz.prog Tryz.f68 ann_char_Fault [.one (.int .i64), .one (.int .i64)] [.slice b0p b0l b0c] w J = VC_char_Fault b0p b0l b0c w J := by kernel_rfl
theorem c_char_Fault {b0p : Option Addr} {b0l : Nat} {b0c : Nat} {w : World} {J : Int → Int → World → Prop} (h : VC_char_Fault b0p b0l b0c w J) : callJ Tryz.prog fn_char_Fault #[.slice b0p b0l b0c] w [.one (.int .i64), .one (.int .i64)] J := vc_calls Tryz.func68 ann_char_Fault (Eq.mpr (eq_char_Fault b0p b0l b0c w J) h)

/-- lectern/char.Name -/
def VC_char_Name (s0 : ByteArray) (w : World) (J : Bool → World → Prop) : Prop :=
  withJ (fun (x16 : Bool) (w1 : World) =>
  condB x16 (
  J false w1) (
  newB w1 (.stringIter s0 0) fun b18 w2 =>
  ∃ I_0 : World → Nat → Prop, (∃ m : Nat, I_0 w2 m) ∧ ∀ (w3 : World) (m : Nat), I_0 w3 m → (
  nextS w3 b18 (fun pos19 ch19 w4 =>
  withJ (fun (x34 : Bool) (w6 : World) =>
  condB x34 (
  J false w6) (
  ∃ m' : Nat, m' < m ∧ I_0 w6 m')) fun J_34 =>
  condB (((pos19 : Nat) : Int) == (0 : Int)) (
  callJ Tryz.prog fn_char_IsStart #[.int .i32 ch19] w4 [.one .bool] fun (r27 : Bool) (w7 : World) =>
  condB (!r27) (
  J_34 true w7) (
  callJ Tryz.prog fn_char_IsPart #[.int .i32 ch19] w7 [.one .bool] fun (r32 : Bool) (w8 : World) =>
  J_34 (!r32) w8)) (
  callJ Tryz.prog fn_char_IsPart #[.int .i32 ch19] w4 [.one .bool] fun (r32_1 : Bool) (w9 : World) =>
  J_34 (!r32_1) w9)) (fun w5 =>
  J true w5)))) fun J_16 =>
  condB (s0.toList == (⟨#[]⟩ : ByteArray).toList) (
  J_16 true w) (
  condB (decide ((s0.size : Int) > (100 : Int))) (
  J_16 true w) (
  callJ Tryz.prog fn_unicode_utf8_ValidString #[.string s0] w [.one .bool] fun (r14 : Bool) (w10 : World) =>
  J_16 (!r14) w10))
def ann_char_Name : Ann := .s (.o) (.s (.j [(16, .bool)] (.o) (.c (.s (.o) (.o)) (.o))) (.s (.s (.o) (.b (.l [] (.s (.o) (.s (.c (.o) (.o)) (.b (.s (.o) (.j [(34, .bool)] (.o) (.c (.s (.o) (.o)) (.o)))))))))) (.s (.o) (.o))))
theorem eq_char_Name (s0 : ByteArray) (w : World) (J : Bool → World → Prop) : vcFun Tryz.prog Tryz.f56 ann_char_Name [.one .bool] [.string s0] w J = VC_char_Name s0 w J := by kernel_rfl
theorem c_char_Name {s0 : ByteArray} {w : World} {J : Bool → World → Prop} (h : VC_char_Name s0 w J) : callJ Tryz.prog fn_char_Name #[.string s0] w [.one .bool] J := vc_calls Tryz.func56 ann_char_Name (Eq.mpr (eq_char_Name s0 w J) h)

end Go.Proofs.YtmnbgcgealpcbaaGreatDoor

/- none of these here -/

/-
  Package char and chapter 1's answers: the sets, Next, Read, Fault.
-/
namespace Go.Vc
open Go
theorem leafT {J : Bool → World → Prop} {w : World} {p : Prop} [Decidable p] (K : J (decide p) w) (h : p) : J true w := by rw [decide_eq_true h] at K; exact K
theorem leafD {J : Bool → World → Prop} {w : World} {p q : Prop} [Decidable p] [Decidable q] (K : J (decide p) w) (h : q ↔ p) : J (decide q) w := by rw [show decide q = decide p from decide_eq_decide.2 h]; exact K
/-- A Bool that stands for a proposition, at a meeting. -/
theorem meetI {b : Bool} {p : Prop} {A B : Prop} (hb : b = true ↔ p) (h1 : p → A) (h2 : ¬ p → B) : condB b A B :=
  condB_i (fun h => h1 (hb.1 h)) (fun h => h2 fun hp => by rw [hb.2 hp] at h; cases h)
theorem bT {p : Prop} (h : p) : true = true ↔ p := ⟨fun _ => h, fun _ => rfl⟩
theorem bF {p : Prop} (h : ¬ p) : false = true ↔ p := ⟨fun e => (by cases e), fun hp => absurd hp h⟩
theorem bD {p q : Prop} [Decidable q] (h : q ↔ p) : decide q = true ↔ p := by rw [decide_eq_true_eq]; exact h
theorem bQ {p : Prop} {x y : Int} (h : x = y ↔ p) : (x == y) = true ↔ p := by rw [beq_iff_eq]; exact h
end Go.Vc
namespace Go.Proofs.YtmnbgcgealpcbaaGreatDoor
open Go Go.Vc Go.Lib

section
variable {w : World}

/-! ## Spans -/
def spanC (s : Int × Int) : List Value := [.int .i32 s.1, .int .i32 s.2]
theorem spans_even (L : List (Int × Int)) : Even spanC 2 L := fun _ _ => rfl
theorem zeroC_span : zeroC Tryz.prog T_char_span = ⟨[.int .i32 0, .int .i32 0]⟩ := by kernel_rfl
theorem inL_drop {r : Int} {L : List (Int × Int)} {i : Nat} {s : Int × Int} (h : L[i]? = some s) (hr : ¬ r ≤ s.2) : inL r (L.drop i) = inL r (L.drop (i + 1)) := by
  obtain ⟨hi, rfl⟩ := List.getElem?_eq_some_iff.1 h
  rw [List.drop_eq_getElem_cons hi]
  unfold inL
  rw [if_neg hr]; cases L.drop (i + 1) <;> rfl

theorem in_ok {r : Int} {p : Option Addr} {l c : Nat} {L : List (Int × Int)} {J : Bool → World → Prop} (h : Sl w p l 2 (rows spanC L)) (hm : l ≤ 1000) (K : ∀ w', Chg No w w' → J (inL r L) w') :
    callJ Tryz.prog fn_char_in #[.int .i32 r, .slice p l c] w [.one .bool] J := by
  refine c_char_in ?_
  unfold VC_char_in
  have hl := h.row (spans_even L) (by decide)
  refine ⟨fun x w' m => ∃ i : Nat, x = i ∧ i ≤ l ∧ m = l - i ∧ Chg No w w' ∧ inL r (L.drop i) = inL r L, ⟨_, 0, rfl, Nat.zero_le _, rfl, Chg.refl _ _, rfl⟩, ?_⟩
  rintro x w' m ⟨i, rfl, hi, rfl, hc, he⟩
  refine condB_d (fun hlt => ?_) (fun hlt => ?_)
  · refine idx_rows (h.chg hc (off_no _)) (spans_even L) (by decide) (by omega) hlt fun a s _ hs hcells => ?_
    rw [Int.toNat_natCast] at hs ⊢
    refine ldI_i (n := s.1) (by have := hcells 0 _ rfl; rwa [add_zero'] at this) ?_
    refine ldI_i (n := s.2) (hcells 1 _ rfl) ?_
    rw [zeroC_span]
    refine (Hp.start w' No).newB fun b w6 H6 hb hc6 => ?_
    refine H6.stN 0 rfl (off := 0) rfl (by decide) (by simp [one1, Value.oneCell']) fun w7 H7 hc7 => ?_
    have hcc : Chg No w w7 := hc.trans0 (hc6.trans hc7 fun x hx he => by subst he; omega)
    simp only [splice, List.take_zero, List.nil_append, List.set_cons_zero, List.length_cons, List.length_nil, List.drop_succ_cons, List.drop_nil, List.append_nil, Nat.zero_add] at H7
    refine H7.ldI 0 rfl (off := 1) rfl ?_
    refine condB_d (fun hr => ?_) (fun hr => ?_)
    · refine H7.ldI 0 rfl (off := 0) rfl ?_
      have e : inL r L = decide (r ≥ s.1) := by
        rw [← he]
        obtain ⟨hi', rfl⟩ := List.getElem?_eq_some_iff.1 hs
        rw [List.drop_eq_getElem_cons hi']
        unfold inL
        rw [if_pos hr]
      rw [← e]; exact K _ hcc
    · exact ⟨l - (i + 1), by omega, i + 1, by rw [w64_of] <;> omega, by omega, rfl, hcc, by rw [← inL_drop hs hr, he]⟩
  · have : i = l := by omega
    subst this
    rw [List.drop_of_length_le (by omega)] at he
    have e : inL r L = false := by rw [← he]; rfl
    rw [← e]; exact K _ hc

theorem spanRow {L : List (Int × Int)} {cs : List Value} (hcs : cs = rows spanC L) (hm : L.length ≤ 1000) {K : Nat → World → Prop}
    (k : ∀ b w', Sl w' (some ⟨b, 0, none⟩) L.length 2 (rows spanC L) → Chg No w w' → K b w') : newB w (.cells ⟨cs⟩ T_char_span) K := by
  subst hcs
  exact newRow (sz := 2) (n := L.length) (rows_len (spans_even L)) (by simp only [maxLen]; omega) fun b w' hr _ hc => k b w' hr.sl hc

theorem IsChar_ok {r : Int} {J : Bool → World → Prop} (K : ∀ w', Chg No w w' → J (chr r) w') : callJ Tryz.prog fn_char_IsChar #[.int .i32 r] w [.one .bool] J := by
  refine c_char_IsChar ?_
  unfold VC_char_IsChar
  have K0 := K w (Chg.refl _ _)
  unfold chr at K0
  refine withJ_i fun J2 hJ2 => ?_
  subst hJ2
  refine condB_eq (fun h => leafT K0 (by unfold Chr; omega)) (fun h9 => ?_)
  refine condB_eq (fun h => leafT K0 (by unfold Chr; omega)) (fun h10 => ?_)
  refine condB_eq (fun h => leafT K0 (by unfold Chr; omega)) (fun h13 => ?_)
  refine ⟨rfl, rfl, rfl, ?_⟩
  refine spanRow (L := [(32, 55295), (57344, 65533), (65536, 1114111)]) rfl (by decide) fun b w2 hs hc => ?_
  refine in_ok hs (by decide) fun w3 hc3 => ?_
  have e : inL r [(32, 55295), (57344, 65533), (65536, 1114111)] = chr r := by
    exact inL_dec (by unfold Chr; simp only [inP, and_false, or_false]; omega)
  rw [e]; exact K _ (hc.trans0 hc3)

theorem IsStart_ok {r : Int} {J : Bool → World → Prop} (K : ∀ w', Chg No w w' → J (isSt r) w') : callJ Tryz.prog fn_char_IsStart #[.int .i32 r] w [.one .bool] J := by
  refine c_char_IsStart ?_
  unfold VC_char_IsStart
  have K0 := K w (Chg.refl _ _)
  unfold isSt at K0
  refine condB_d (fun h => ?_) (fun h => ?_)
  · refine withJ_i fun J2 hJ2 => ?_
    subst hJ2
    repeat' refine condB_d (fun _ => ?_) (fun _ => ?_)
    all_goals first | exact leafT K0 (by unfold Sta; omega) | exact leafN K0 (by unfold Sta; omega) | exact leafD K0 (by unfold Sta; omega) | exact leafQ K0 (by unfold Sta; omega)
  · refine ⟨rfl, rfl, rfl, rfl, rfl, rfl, rfl, rfl, rfl, rfl, rfl, rfl, ?_⟩
    refine spanRow (L := [(192, 214), (216, 246), (248, 767), (880, 893), (895, 8191), (8204, 8205), (8304, 8591), (11264, 12271), (12289, 55295), (63744, 64975), (65008, 65533), (65536, 983039)]) rfl (by decide) fun b w2 hs hc => ?_
    refine in_ok hs (by decide) fun w3 hc3 => ?_
    have e : inL r [(192, 214), (216, 246), (248, 767), (880, 893), (895, 8191), (8204, 8205), (8304, 8591), (11264, 12271), (12289, 55295), (63744, 64975), (65008, 65533), (65536, 983039)] = isSt r := by
      exact inL_dec (by unfold Sta; simp only [inP, and_false, or_false]; omega)
    rw [e]; exact K _ (hc.trans0 hc3)

theorem IsPart_ok {r : Int} {J : Bool → World → Prop} (K : ∀ w', Chg No w w' → J (isPt r) w') : callJ Tryz.prog fn_char_IsPart #[.int .i32 r] w [.one .bool] J := by
  refine c_char_IsPart ?_
  unfold VC_char_IsPart
  refine withJ_i fun J2 hJ2 => ?_
  subst hJ2
  refine IsStart_ok fun w2 hc2 => ?_
  have K0 := K w2 hc2
  unfold isPt at K0
  refine condB_i (fun h => leafT K0 (.inl (of_decide_eq_true h))) (fun hs => ?_)
  have hs : ¬ Sta r := of_decide_eq_false hs
  rw [prt_pr2 hs] at K0
  refine condB_eq (fun h => leafT K0 (by unfold Pr2; omega)) (fun h1 => ?_)
  refine condB_eq (fun h => leafT K0 (by unfold Pr2; omega)) (fun h2 => ?_)
  have last : ¬ (48 ≤ r ∧ r ≤ 57) → r ≠ 183 → ∀ w3, Chg No w w3 → J (inL r [(768, 879), (8255, 8256)]) w3 := fun h3 h4 w3 hc3 => by
    have e : inL r [(768, 879), (8255, 8256)] = isPt r := by
      unfold isPt
      rw [prt_pr2 hs]
      exact inL_dec (by unfold Pr2; simp only [inP, and_false, or_false]; omega)
    rw [e]; exact K _ hc3
  refine condB_d (fun h3 => ?_) (fun h3 => ?_)
  · refine condB_d (fun h4 => leafT K0 (by unfold Pr2; omega)) (fun h4 => ?_)
    refine condB_eq (fun h => leafT K0 (by unfold Pr2; omega)) (fun h5 => ?_)
    refine ⟨rfl, rfl, ?_⟩
    refine spanRow (L := [(768, 879), (8255, 8256)]) rfl (by decide) fun b w3 hs hc => ?_
    exact in_ok hs (by decide) fun w4 hc4 => last (by omega) h5 w4 ((hc2.trans0 hc).trans0 hc4)
  · refine condB_eq (fun h => leafT K0 (by unfold Pr2; omega)) (fun h5 => ?_)
    refine ⟨rfl, rfl, ?_⟩
    refine spanRow (L := [(768, 879), (8255, 8256)]) rfl (by decide) fun b w3 hs hc => ?_
    exact in_ok hs (by decide) fun w4 hc4 => last (by omega) h5 w4 ((hc2.trans0 hc).trans0 hc4)

end

end Go.Proofs.YtmnbgcgealpcbaaGreatDoor


/-
  unicode/utf8.ValidString by contract.
-/
namespace Go.Proofs.YtmnbgcgealpcbaaGreatDoor
open Go Go.Vc Go.Lib

section
variable {w : World}

/-- A failing test of a lead byte's row. -/
theorem vld_fail {s : ByteArray} (hs : 0 < s.size) (h : dec (bl s) = (65533, 1)) : vld (bl s) = false :=
  vld_bad (by intro e; have := bl_len s; rw [e] at this; simp at this; omega) (rd0_of_dec h)
theorem vld_next {s : ByteArray} (hs : 0 < s.size) {r k : Nat} (hk : 2 ≤ k) (h : dec (bl s) = (r, k)) : vld (bl s) = vld ((bl s).drop k) ∧ k ≤ s.size := by
  have hne : bl s ≠ [] := by intro e; have := bl_len s; rw [e] at this; simp at this; omega
  have e := rd_of_dec h hk
  have hl := rd_le _ hne
  rw [e, bl_len] at hl
  refine ⟨?_, hl⟩
  rw [vld_step hne (by rw [e]; simp only; omega), e]

theorem or_zero {a b c : Nat} (h : (a ||| b) &&& c = 0) : a &&& c = 0 ∧ b &&& c = 0 := by
  rw [Nat.and_or_distrib_right] at h
  exact Nat.or_eq_zero_iff.1 h
theorem asc_more {l : List UInt8} {a b : Nat} (h1 : ∀ x ∈ l.take a, x.toNat < 128) (h2 : ∀ x ∈ (l.drop a).take b, x.toNat < 128) : ∀ x ∈ l.take (a + b), x.toNat < 128 := by
  intro x hx
  rw [List.take_add, List.mem_append] at hx
  rcases hx with h | h
  · exact h1 x h
  · exact h2 x h
theorem bAnd_u64 {A : Nat} (hA : A < 18446744073709551616) : bAnd .u64 (A : Int) 9259542123273814144 = ((A &&& 9259542123273814144 : Nat) : Int) := u64_and_nat A 9259542123273814144 hA (by decide)
theorem bOr_u64 {A B : Nat} (hA : A < 18446744073709551616) (hB : B < 18446744073709551616) : bOr .u64 (A : Int) (B : Int) = ((A ||| B : Nat) : Int) := u64_or_nat A B hA hB

set_option maxRecDepth 100000 in
set_option maxHeartbeats 4000000 in
theorem ValidString_ok {s : ByteArray} {J : Bool → World → Prop} (T : Tabs w) (K : ∀ w', Chg No w w' → J (vld (bl s)) w') :
    callJ Tryz.prog fn_unicode_utf8_ValidString #[.string s] w [.one .bool] J := by
  refine c_unicode_utf8_ValidString ?_
  unfold VC_unicode_utf8_ValidString
  refine ⟨fun t w' m => Chg No w w' ∧ vld (bl t) = vld (bl s) ∧ m = t.size ∧ t.size ≤ s.size, ⟨_, Chg.refl _ _, rfl, rfl, Nat.le_refl _⟩, ?_⟩
  rintro t w1 m ⟨hc, hv, rfl, hle⟩
  rw [← hv] at K
  refine condB_d (fun hpos => ?_) (fun hpos => ?_)
  rotate_left
  · have h0 : t.size = 0 := by omega
    have : bl t = [] := List.eq_nil_of_length_eq_zero (by rw [bl_len]; exact h0)
    rw [this, vld_nil] at K
    exact K w1 hc
  have hp : 0 < t.size := by omega
  have l0 := gB_lt (bl t) 0; have l1 := gB_lt (bl t) 1; have l2 := gB_lt (bl t) 2; have l3 := gB_lt (bl t) 3
  refine idxStr_i (i := 0) hp ?_
  refine condB_d (fun ha => ?_) (fun ha => ?_)
  · -- below 128: the fast road
    refine slStr_drop (i := 1) (by omega) fun s1 hs1 z1 => ?_
    refine withJ_i fun J0 hJ0 => ?_
    have go : ∀ (u : ByteArray) (k : Nat) (w2 : World), 1 ≤ k → k ≤ t.size → bl u = (bl t).drop k → (∀ b ∈ (bl t).take k, b.toNat < 128) → Chg No w w2 → J0 u w2 := by
      intro u k w2 h1 hk he hasc hc2
      subst hJ0
      have hz : u.size = t.size - k := by rw [← bl_len, he, List.length_drop, bl_len]
      exact ⟨u.size, by omega, hc2, by rw [he, ← vld_drop k _ hasc, hv], rfl, by omega⟩
    have a1 : ∀ b ∈ (bl t).take 1, b.toNat < 128 := by
      have hl : 0 < (bl t).length := by rw [bl_len]; exact hp
      intro b hb
      cases hbt : bl t with
      | nil => rw [hbt] at hl; simp at hl
      | cons x r =>
        rw [hbt] at hb ha
        simp only [List.take_succ_cons, List.take_zero, List.mem_singleton] at hb
        subst hb
        simp only [gB, List.getD_cons_zero] at ha
        omega
    clear hJ0
    refine withJ_i fun J24 hJ24 => ?_
    have slow : ∀ w2, Chg No w w2 → J24 false w2 := fun w2 hc2 => by subst hJ24; exact go s1 1 w2 (by omega) (by omega) hs1 a1 hc2
    refine condB_d (fun h8 => ?_) (fun _ => slow _ hc)
    refine word_ok (by omega) fun A1 lA1 mA1 => ?_
    rw [bAnd_u64 lA1]
    have hcd : Chg No w w1.drew := hc.drew
    generalize w1.drew = w2 at hcd ⊢
    by_cases hz1 : A1 &&& 9259542123273814144 = 0
    rotate_left
    · rw [show (((A1 &&& 9259542123273814144 : Nat) : Int) == 0) = false from by simpa using hz1]; exact slow _ hcd
    rw [hz1, show (((0 : Nat) : Int) == 0) = true from rfl]
    clear slow
    subst hJ24
    refine condB_i (fun _ => ?_) (fun h => by cases h)
    have m1 := mA1 hz1
    rw [hs1] at m1
    have a9 := asc_more a1 m1
    refine slStr_drop (i := 8) (by omega) fun s9 hs9 z9 => ?_
    rw [hs1, List.drop_drop] at hs9
    refine withJ_i fun J39 hJ39 => ?_
    have slow : ∀ w3, Chg No w w3 → J39 false w3 := fun w3 hc3 => by subst hJ39; exact go s9 9 w3 (by omega) (by omega) hs9 a9 hc3
    have hcd2 : Chg No w w2.drew := hcd.drew
    refine condB_d (fun h16 => ?_) (fun _ => slow _ hcd2)
    refine slStr_drop (i := 8) (by omega) fun s17 hs17 z17 => ?_
    refine word_ok (by omega) fun A2 lA2 mA2 => ?_
    refine word_ok (by omega) fun A3 lA3 mA3 => ?_
    have hcd3 : Chg No w w2.drew.drew.drew := hcd2.drew.drew
    rw [bOr_u64 lA2 lA3, bAnd_u64 (Nat.or_lt_two_pow (n := 64) lA2 lA3)]
    generalize w2.drew.drew.drew = w3 at hcd3 ⊢
    by_cases hz2 : (A2 ||| A3) &&& 9259542123273814144 = 0
    rotate_left
    · rw [show ((((A2 ||| A3) &&& 9259542123273814144 : Nat) : Int) == 0) = false from by simpa using hz2]; exact slow _ hcd3
    rw [hz2, show (((0 : Nat) : Int) == 0) = true from rfl]
    clear slow
    subst hJ39
    refine condB_i (fun _ => ?_) (fun h => by cases h)
    obtain ⟨q2, q3⟩ := or_zero hz2
    have m2 := mA2 q2
    have m3 := mA3 q3
    rw [hs17] at m3
    rw [hs9] at m2 m3
    have a25 := asc_more a9 (asc_more m2 m3)
    refine slStr_drop (i := 16) (by omega) fun s25 hs25 z25 => ?_
    rw [hs9, List.drop_drop] at hs25
    refine ⟨fun u w' m => ∃ k : Nat, 1 ≤ k ∧ k ≤ t.size ∧ bl u = (bl t).drop k ∧ (∀ b ∈ (bl t).take k, b.toNat < 128) ∧ Chg No w w' ∧ m = u.size, ⟨_, 25, by omega, by omega, hs25, a25, hcd3, rfl⟩, ?_⟩
    rintro u w5 m1 ⟨k, k1, k2, hu, ak, hc5, rfl⟩
    have zu : u.size = t.size - k := by rw [← bl_len, hu, List.length_drop, bl_len]
    refine withJ_i fun J62 hJ62 => ?_
    have slow : ∀ w3, Chg No w w3 → J62 false w3 := fun w3 hc3 => by subst hJ62; exact go u k w3 k1 k2 hu ak hc3
    refine condB_d (fun h32 => ?_) (fun _ => slow _ hc5.drew)
    refine slStr_drop (i := 8) (by omega) fun u8 hu8 zu8 => ?_
    refine slStr_drop (i := 16) (by omega) fun u16 hu16 zu16 => ?_
    refine slStr_drop (i := 24) (by omega) fun u24 hu24 zu24 => ?_
    refine word_ok (by omega) fun B1 lB1 mB1 => ?_
    refine word_ok (by omega) fun B2 lB2 mB2 => ?_
    refine word_ok (by omega) fun B3 lB3 mB3 => ?_
    refine word_ok (by omega) fun B4 lB4 mB4 => ?_
    have hcd5 : Chg No w w5.drew.drew.drew.drew.drew := hc5.drew.drew.drew.drew.drew
    have l12 := Nat.or_lt_two_pow (n := 64) lB1 lB2
    have l34 := Nat.or_lt_two_pow (n := 64) lB3 lB4
    rw [bOr_u64 lB1 lB2, bOr_u64 lB3 lB4, bOr_u64 l12 l34, bAnd_u64 (Nat.or_lt_two_pow (n := 64) l12 l34)]
    generalize w5.drew.drew.drew.drew.drew = w6 at hcd5 ⊢
    by_cases hz3 : ((B1 ||| B2) ||| (B3 ||| B4)) &&& 9259542123273814144 = 0
    rotate_left
    · rw [show (((((B1 ||| B2) ||| (B3 ||| B4)) &&& 9259542123273814144 : Nat) : Int) == 0) = false from by simpa using hz3]; exact slow _ hcd5
    rw [hz3, show (((0 : Nat) : Int) == 0) = true from rfl]
    clear slow
    subst hJ62
    refine condB_i (fun _ => ?_) (fun h => by cases h)
    obtain ⟨q12, q34⟩ := or_zero hz3
    obtain ⟨q1, q2⟩ := or_zero q12
    obtain ⟨q3, q4⟩ := or_zero q34
    have n1 := mB1 q1
    have n2 := mB2 q2
    have n3 := mB3 q3
    have n4 := mB4 q4
    rw [hu8] at n2
    rw [hu16] at n3
    rw [hu24] at n4
    have n16 := asc_more n1 n2
    have n24 := asc_more n16 n3
    have n32 := asc_more n24 n4
    rw [hu] at n32
    refine slStr_drop (i := 32) (by omega) fun u32 hu32 zu32 => ?_
    rw [hu, List.drop_drop] at hu32
    exact ⟨u32.size, by omega, k + 32, by omega, by omega, hu32, asc_more ak n32, hcd5, rfl⟩
  · -- a lead byte
    have hr := hc.cell (T.1 _ l0) (fun f => f)
    refine idxA_i (by omega) (by omega) ?_
    rw [Addr.add_mk, Nat.zero_add, Nat.mul_one, Int.toNat_natCast]
    refine ldI_i hr ?_
    have s256 : firstT (gB (bl t) 0) < 256 := by rcases firstT_cases (gB (bl t) 0) with h | h | h | h | h | h | h | h | h <;> omega
    have s16 : firstT (gB (bl t) 0) / 16 < 16 := by omega
    rw [shr4, and7 s256, w64_of (by omega) (by omega)]
    have hdec : firstT (gB (bl t) 0) < 240 → dec (bl t) = slowN (bl t).length (gB (bl t) 0) (gB (bl t) 1) (gB (bl t) 2) (gB (bl t) 3) (firstT (gB (bl t) 0) % 8) (accLo (firstT (gB (bl t) 0) / 16)) (accHi (firstT (gB (bl t) 0) / 16)) :=
      fun hx => (slow_eq _ _ _ _ _ (by rw [bl_len]; omega) l1 l2 l3 hx).symm
    have hbad : ¬ firstT (gB (bl t) 0) < 240 → dec (bl t) = (65533, 1) ∧ firstT (gB (bl t) 0) % 8 = 1 := fun hx => by
      rcases firstT_ge hx with h | h
      · exfalso; unfold firstT at h; repeat' split at h
        all_goals omega
      · exact ⟨bad_eq _ _ _ _ _ l0 h, by rw [h]⟩
    have hsm : firstT (gB (bl t) 0) < 240 → firstT (gB (bl t) 0) % 8 ≤ 4 ∧ 2 ≤ firstT (gB (bl t) 0) % 8 := fun hx => ⟨(firstT_small hx).1, (firstT_small hx).2.1⟩
    have ht := T.2 _ s16
    rw [Nat.mul_comm] at ht
    generalize firstT (gB (bl t) 0) = f at *
    refine ⟨by decide, idxA_i (by omega) (by omega) ?_⟩
    simp only [Addr.add_mk, Nat.zero_add, Int.toNat_natCast]
    refine ldI_i (hc.cell ht.1 (fun f => f)) (ldI_i (hc.cell ht.2 (fun f => f)) ?_)
    rw [zeroC_acc]
    refine (Hp.start w1 No).newB fun b9 w14 H1 hb9 hc1 => ?_
    refine H1.stN 0 rfl (off := 0) rfl (by decide) (by simp [one1, Value.oneCell']) fun w15 H2 hc2 => ?_
    have hc15 : Chg No w w15 := hc.trans0 (hc1.trans hc2 fun x hx he => by subst he; omega)
    have hcd : Chg No w w15.drew := hc15.drew
    have H3 := H2.drew
    simp only [splice, List.take_zero, List.nil_append, List.set_cons_zero, List.length_cons, List.length_nil, List.drop_succ_cons, List.drop_nil, List.append_nil, Nat.zero_add] at H3
    generalize hwd : w15.drew = w16 at hcd H3 ⊢
    have bad : dec (bl t) = (65533, 1) → ∀ w', Chg No w w' → J false w' := fun h w' hc' => by rw [← vld_fail hp h]; exact K w' hc'
    have good : ∀ (r k : Nat), 2 ≤ k → dec (bl t) = (r, k) → slStr t (some (k : Int)) none fun s' => ∃ m', m' < t.size ∧ Chg No w w16 ∧ vld (bl s') = vld (bl s) ∧ m' = s'.size ∧ s'.size ≤ s.size := fun r k hk hd => by
      obtain ⟨e1, e2⟩ := vld_next hp hk hd
      exact slStr_drop e2 fun s' hs' zs' => ⟨s'.size, by omega, hcd, by rw [hs', ← e1, hv], rfl, by omega⟩
    have e2' : (((f % 8 : Nat) : Int) == 2) = decide (f % 8 = 2) := by by_cases h : f % 8 = 2 <;> simp [h] <;> omega
    have e3' : (((f % 8 : Nat) : Int) == 3) = decide (f % 8 = 3) := by by_cases h : f % 8 = 3 <;> simp [h] <;> omega
    have e4' : (((f % 8 : Nat) : Int) == 4) = decide (f % 8 = 4) := by by_cases h : f % 8 = 4 <;> simp [h] <;> omega
    rw [e2', e3', e4']
    by_cases hx : f < 240
    rotate_left
    · obtain ⟨hb, h1⟩ := hbad hx
      rw [h1]
      exact bad hb _ hc15
    obtain ⟨s4, s2⟩ := hsm hx
    replace hdec := hdec hx
    clear hbad hsm
    generalize f % 8 = sz at *
    generalize f / 16 = q at *
    rw [bl_len] at hdec
    generalize hg0 : gB (bl t) 0 = g0 at *
    generalize hg1 : gB (bl t) 1 = g1 at *
    generalize hg2 : gB (bl t) 2 = g2 at *
    generalize hg3 : gB (bl t) 3 = g3 at *
    have f0 : t.size < sz → dec (bl t) = (65533, 1) := fun h => by rw [hdec]; unfold slowN; rw [if_pos h]
    have f1 : ¬ t.size < sz → (g1 < accLo q ∨ accHi q < g1) → dec (bl t) = (65533, 1) := fun h h1 => by rw [hdec]; unfold slowN; rw [if_neg h, if_pos h1]
    refine condB_d (fun h2 => ?_) (fun h2 => ?_)
    · subst h2
      refine withJ_i fun J94 hJ94 => ?_
      have fl : dec (bl t) = (65533, 1) → J94 true w16 := fun h => by subst hJ94; exact bad h _ hcd
      refine condB_d (fun hn => fl (f0 (by omega))) (fun hn => ?_)
      refine idxStr_i (i := 1) (by omega) ?_
      rw [hg1]
      refine H3.ldI 0 rfl (off := 0) rfl ?_
      refine condB_d (fun hlo => fl (f1 (by omega) (.inl (by omega)))) (fun hlo => ?_)
      refine H3.ldI 0 rfl (off := 1) rfl ?_
      refine idxStr_i (i := 1) (by omega) ?_
      rw [hg1]
      by_cases hhi : accHi q < g1
      · rw [decide_eq_true (by omega)]; exact fl (f1 (by omega) (.inr hhi))
      rw [decide_eq_false (by omega)]
      clear fl; subst hJ94
      exact good (g0 % 32 * 64 + g1 % 64) 2 (by decide) (by rw [hdec]; unfold slowN; rw [if_neg (by omega), if_neg (by omega), if_pos (by decide)])
    refine condB_d (fun h3 => ?_) (fun h3 => ?_)
    · subst h3
      refine withJ_i fun J125 hJ125 => ?_
      have fl : dec (bl t) = (65533, 1) → J125 true w16 := fun h => by subst hJ125; exact bad h _ hcd
      have f2 : ¬ t.size < 3 → ¬ (g1 < accLo q ∨ accHi q < g1) → (g2 < 128 ∨ 191 < g2) → dec (bl t) = (65533, 1) := fun h h1 h2 => by
        rw [hdec]; unfold slowN; rw [if_neg h, if_neg h1, if_neg (by omega), if_pos h2]
      refine condB_d (fun hn => fl (f0 (by omega))) (fun hn => ?_)
      refine idxStr_i (i := 1) (by omega) ?_
      rw [hg1]
      refine H3.ldI 0 rfl (off := 0) rfl ?_
      refine condB_d (fun hlo => fl (f1 (by omega) (.inl (by omega)))) (fun hlo => ?_)
      refine H3.ldI 0 rfl (off := 1) rfl ?_
      refine idxStr_i (i := 1) (by omega) ?_
      rw [hg1]
      refine condB_d (fun hhi => fl (f1 (by omega) (.inr (by omega)))) (fun hhi => ?_)
      refine idxStr_i (i := 2) (by omega) ?_
      rw [hg2]
      refine condB_d (fun hlo => fl (f2 (by omega) (by omega) (.inl (by omega)))) (fun hlo2 => ?_)
      refine idxStr_i (i := 2) (by omega) ?_
      rw [hg2]
      by_cases hhi2 : 191 < g2
      · rw [decide_eq_true (by omega)]; exact fl (f2 (by omega) (by omega) (.inr hhi2))
      rw [decide_eq_false (by omega)]
      clear fl; subst hJ125
      exact good (g0 % 16 * 4096 + g1 % 64 * 64 + g2 % 64) 3 (by decide) (by rw [hdec]; unfold slowN; rw [if_neg (by omega), if_neg (by omega), if_neg (by decide), if_neg (by omega), if_pos (by decide)])
    refine condB_d (fun h4 => ?_) (fun h4 => by omega)
    subst h4
    refine withJ_i fun J166 hJ166 => ?_
    have fl : dec (bl t) = (65533, 1) → J166 true w16 := fun h => by subst hJ166; exact bad h _ hcd
    have f2 : ¬ t.size < 4 → ¬ (g1 < accLo q ∨ accHi q < g1) → (g2 < 128 ∨ 191 < g2) → dec (bl t) = (65533, 1) := fun h h1 h2 => by
      rw [hdec]; unfold slowN; rw [if_neg h, if_neg h1, if_neg (by omega), if_pos h2]
    have f3 : ¬ t.size < 4 → ¬ (g1 < accLo q ∨ accHi q < g1) → ¬ (g2 < 128 ∨ 191 < g2) → (g3 < 128 ∨ 191 < g3) → dec (bl t) = (65533, 1) := fun h h1 h2 h3 => by
      rw [hdec]; unfold slowN; rw [if_neg h, if_neg h1, if_neg (by omega), if_neg h2, if_neg (by omega), if_pos h3]
    refine condB_d (fun hn => fl (f0 (by omega))) (fun hn => ?_)
    refine idxStr_i (i := 1) (by omega) ?_
    rw [hg1]
    refine H3.ldI 0 rfl (off := 0) rfl ?_
    refine condB_d (fun hlo => fl (f1 (by omega) (.inl (by omega)))) (fun hlo => ?_)
    refine H3.ldI 0 rfl (off := 1) rfl ?_
    refine idxStr_i (i := 1) (by omega) ?_
    rw [hg1]
    refine condB_d (fun hhi => fl (f1 (by omega) (.inr (by omega)))) (fun hhi => ?_)
    refine idxStr_i (i := 2) (by omega) ?_
    rw [hg2]
    refine condB_d (fun hlo => fl (f2 (by omega) (by omega) (.inl (by omega)))) (fun hlo2 => ?_)
    refine idxStr_i (i := 2) (by omega) ?_
    rw [hg2]
    refine condB_d (fun hhi => fl (f2 (by omega) (by omega) (.inr (by omega)))) (fun hhi2 => ?_)
    refine idxStr_i (i := 3) (by omega) ?_
    rw [hg3]
    refine condB_d (fun hlo => fl (f3 (by omega) (by omega) (by omega) (.inl (by omega)))) (fun hlo3 => ?_)
    refine idxStr_i (i := 3) (by omega) ?_
    rw [hg3]
    by_cases hhi3 : 191 < g3
    · rw [decide_eq_true (by omega)]; exact fl (f3 (by omega) (by omega) (by omega) (.inr hhi3))
    rw [decide_eq_false (by omega)]
    clear fl; subst hJ166
    exact good (g0 % 8 * 262144 + g1 % 64 * 4096 + g2 % 64 * 64 + g3 % 64) 4 (by decide) (by rw [hdec]; unfold slowN; rw [if_neg (by omega), if_neg (by omega), if_neg (by decide), if_neg (by omega), if_neg (by decide), if_neg (by omega)])
end

end Go.Proofs.YtmnbgcgealpcbaaGreatDoor


/- What the conditions of these functions are, reckoned by the reading; printed by program. -/
set_option maxRecDepth 100000
set_option linter.unusedVariables false
namespace Go.Proofs.YtmnbgcgealpcbaaGreatDoor
open Go Go.Vc

end Go.Proofs.YtmnbgcgealpcbaaGreatDoor

/-
  Chapter 1's helpers of the statements: Same, Spare, Kept.
-/
namespace Go.Proofs.YtmnbgcgealpcbaaGreatDoor
open Go Go.Vc

section
variable {w : World}

end

end Go.Proofs.YtmnbgcgealpcbaaGreatDoor

