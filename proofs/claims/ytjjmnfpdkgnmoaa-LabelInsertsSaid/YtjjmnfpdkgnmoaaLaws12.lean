/-
  Chapter 12's statements.
-/
import Derived.Test.YtjjmnfpdkgnmoaaLabT
import Derived.Test.YtjjmnfpdkgnmoaaRd12
import Derived.Test.YtjjmnfpdkgnmoaaVLaw12
set_option linter.unusedVariables false
set_option linter.unusedSimpArgs false
namespace Go.Vc
open Go
theorem lab_one : lab [1] = ([192], 0) := by decide +kernel
theorem bet_awake : betL [] [1] [3] = ([2, 1], 0) := by decide +kernel
theorem lev_awake : levL [3, 2, 1] = 2 := by decide
end Go.Vc
namespace Go.Proofs.Ytjjmnfpdkgnmoaa
open Go Go.Vc

section
variable {w : World}
theorem IV.ints {b : IV} (h : b.Ok w) : Ints w b.p b.l b.xs := h.is
theorem row_ints {q : Option Addr} {m d : Nat} {xs : List Int} (h : Row w T_int 1 q m d (ints xs)) : Ints w q m xs := h.sl
theorem row_small {q : Option Addr} {m d : Nat} {xs : List Int} {n : Nat} (h : Row w T_int 1 q m d (ints xs)) (hn : xs.length ≤ n) : m ≤ n := by have := h.len; rw [ints_length] at this; omega
theorem upL_len (xs : List Int) : (upL xs).length ≤ xs.length := by
  unfold upL
  obtain ⟨j, hj, e⟩ := cutE_pre (xs := xs.dropLast)
  rw [e, List.length_take, List.length_dropLast]; omega
theorem bet_len (u l r : List Int) : (betL u l r).1.length ≤ 480 := by
  rcases bet_cases u l r with e | e | e
  · have := bet_ok (n := (betL u l r).1) (Prod.ext rfl e)
    exact lab_len this.1
  · rw [e]; simp
  · rw [e]; simp

theorem awake12_ok {J : Bool → World → Prop} (k : ∀ w', Chg No w w' → J true w') : callJ Try.prog fn_law12_awake #[] w [.one .bool] J := by
  refine c_law12_awake ?_
  unfold VC_law12_awake
  refine newRow (sz := 1) (n := 1) rfl (by decide) fun b8 w1 hr1 _ hc1 => ?_
  refine Bytes_ok (xs := [1]) hr1.sl (by decide) fun q2 m2 d2 w2 hr2 hf2 hc2 => ?_
  rw [lab_one] at hr2 ⊢
  refine newRow (sz := 1) (n := 1) rfl (by decide) fun b13 w3 hr3 _ hc3 => ?_
  refine Read_ok (bs := [192]) hr3.sl (Nat.le_refl _) (fun L hL q4 m4 d4 w4 hr4 hf4 hc4 => ?_) (fun hno => absurd lab_one (hno _))
  have eL : L = [1] := lab_uniq hL lab_one
  subst eL
  refine newRow (sz := 1) (n := 1) rfl (by decide) fun b18 w5 hr5 _ hc5 => ?_
  refine newRow (sz := 1) (n := 1) rfl (by decide) fun b19 w6 hr6 _ hc6 => ?_
  refine Between_ok (up := []) (xs := [1]) (ys := [3]) (Sl.nil _ _ _) (hr5.chg hc6 (off_no _)).sl hr6.sl (fun _ => rfl) (by decide) (by decide) (by decide) (Nat.le_refl _) (Nat.le_refl _) (Nat.le_refl _) fun q7 m7 d7 w7 hr7 hf7 hc7 => ?_
  rw [bet_awake] at hr7 ⊢
  have c24 : Chg No w2 w4 := hc3.trans0 hc4
  have c47 : Chg No w4 w7 := (hc5.trans0 hc6).trans0 hc7
  have c07 : Chg No w w7 := ((hc1.trans0 hc2).trans0 c24).trans0 c47
  have hr2' := hr2.chg (c24.trans0 c47) (off_no _)
  have hr4' := hr4.chg c47 (off_no _)
  have e2 : m2 = 1 := (hr2'.bytes.len).symm
  have e4 : m4 = 1 := ((row_ints hr4').len).symm
  subst e2; subst e4
  refine withJ_i fun J0 hJ0 => ?_
  subst hJ0
  refine condB_i (fun _ => ?_) (fun h => absurd h (by decide))
  refine condB_i (fun _ => ?_) (fun h => absurd h (by decide))
  refine condB_i (fun _ => ?_) (fun h => absurd h (by decide))
  refine condB_i (fun _ => ?_) (fun h => absurd h (by decide))
  refine byte_i hr2'.bytes (by decide) (by decide) fun b hb => ?_
  obtain rfl : b = 192 := by simpa using hb.symm
  refine condB_i (fun _ => ?_) (fun h => absurd h (by decide))
  refine condB_i (fun _ => ?_) (fun h => absurd h (by decide))
  refine int_i (row_ints hr4') (by decide) (by decide) fun n hn => ?_
  obtain rfl : n = 1 := by simpa using hn.symm
  refine condB_i (fun _ => ?_) (fun h => absurd h (by decide))
  refine newRow (sz := 1) (n := 2) rfl (by decide) fun b57 w9 hr9 _ hc9 => ?_
  refine SameInts_ok (ys := [2, 1]) ((row_ints hr7).chg hc9 (off_no _)) hr9.sl (by have := (row_ints hr7).len; simp at this; omega) fun w10 hc10 => ?_
  refine condB_i (fun _ => ?_) (fun h => absurd h (by decide))
  refine newRow (sz := 1) (n := 3) rfl (by decide) fun b61 w11 hr11 _ hc11 => ?_
  refine Level_ok (xs := [3, 2, 1]) hr11.sl (by decide) ?_
  rw [lev_awake]
  exact k w11 (((c07.trans0 hc9).trans0 hc10).trans0 hc11)

theorem LabelBytes_ok {a : IV} {b : BV} (ha : a.Ok w) (hb : b.Ok w) : callJ Try.prog fn_law12_LabelBytes #[.slice a.p a.l a.c, .slice b.p b.l b.c] w [.one .bool] fun r w' => r = true ∧ Chg No w w' := by
  refine c_law12_LabelBytes ?_
  unfold VC_law12_LabelBytes
  have fa := ha.fits
  refine awake12_ok fun w1 hc1 => ?_
  refine condB_i (fun h => by simp at h) fun _ => ?_
  refine Bytes_ok (ha.is.chg hc1 (off_no _)) (by omega) fun q2 m2 d2 w2 hr2 hf2 hc2 => ?_
  have c2 := hc1.trans0 hc2
  refine RBytes_ok (ha.is.chg c2 (off_no _)) (by omega) fun q3 m3 d3 w3 hr3 hf3 hc3 => ?_
  have c3 := c2.trans0 hc3
  -- behind both readings
  have tail : ∀ (q4 : Option Addr) (m4 d4 : Nat) (g : Int) (q5 : Option Addr) (m5 d5 : Nat) (o : Bool) (w5 : World), Chg No w3 w5 → (o = true → ∃ L, g = 0 ∧ Ints w5 q4 m4 L ∧ Ints w5 q5 m5 L ∧ m4 ≤ 480) → (o = false → g = 11 ∧ m4 = 0) →
      withJ (fun (x49 : Bool) (w6 : World) =>
        condB x49 ((fun r w' => r = true ∧ Chg No w w') false w6) (condB (!o) (withJ (fun (x4 : Bool) (w7 : World) => (fun r w' => r = true ∧ Chg No w w') x4 w7) fun J_4 => condB (g == (11 : Int)) (J_4 (((m4 : Nat) : Int) == (0 : Int)) w6) (J_4 false w6))
          (withJ (fun (x4_1 : Bool) (w8 : World) => (fun r w' => r = true ∧ Chg No w w') x4_1 w8) fun J_4_1 => condB (g == (0 : Int)) (callJ Try.prog fn_ref05_SameInts #[.slice q4 m4 d4, .slice q5 m5 d5] w6 [.one .bool] fun (r64 : Bool) (w9 : World) => J_4_1 r64 w9) (J_4_1 false w6))))
        fun J_49 => condB ((lab a.xs).2 != (lab a.xs).2) (J_49 true w5) (callJ Try.prog fn_ref01_Same #[.slice q2 m2 d2, .slice q3 m3 d3] w5 [.one .bool] fun (r41 : Bool) (w10 : World) =>
          condB (!r41) (J_49 true w10) (callJ Try.prog fn_label_Check #[.slice a.p a.l a.c] w10 [.one (.int .i64)] fun (r46 : Int) (w11 : World) => J_49 (r46 != (lab a.xs).2) w11)) := by
    intro q4 m4 d4 g q5 m5 d5 o w5 hc5 h1 h0
    refine withJ_i fun J49 hJ49 => ?_
    have k49 : ∀ w6, Chg No w5 w6 → J49 false w6 := by
      intro w6 hc6; subst hJ49
      have c6 : Chg No w w6 := (c3.trans0 hc5).trans0 hc6
      refine condB_i (fun h => by cases h) fun _ => ?_
      refine condB_not (fun ho => ?_) (fun ho => ?_)
      · obtain ⟨rfl, rfl⟩ := h0 ho
        exact ⟨rfl, c6⟩
      · obtain ⟨L, rfl, hL1, hL2, hm4⟩ := h1 ho
        refine withJ_i fun J4 hJ4 => ?_
        subst hJ4
        refine condB_i (fun _ => ?_) (fun h => absurd h (by decide))
        refine SameInts_ok (hL1.chg hc6 (off_no _)) (hL2.chg hc6 (off_no _)) (by omega) fun w9 hc9 => ?_
        exact ⟨decide_eq_true rfl, c6.trans0 hc9⟩
    clear hJ49
    refine condB_ne (fun h => absurd rfl h) fun _ => ?_
    refine SameB_ok (hr2.bytes.chg (hc3.trans0 hc5) (off_no _)) (hr3.bytes.chg hc5 (off_no _)) ?_
    refine condB_i (fun h => by simp at h) fun _ => ?_
    refine Check_ok (ha.is.chg (c3.trans0 hc5) (off_no _)) (by omega) fun w11 hc11 => ?_
    have e : ((lab a.xs).2 != (lab a.xs).2) = false := by simp
    rw [e]
    exact k49 w11 hc11
  have hB3 := hb.is.chg c3 (off_no _)
  have fb := hb.fits
  refine Read_ok hB3 hb.cap (fun L hL q4 m4 d4 w4 hr4 hf4 hc4 => ?_) (fun hno w4 hc4 => ?_)
  · refine RRead_ok (hB3.chg hc4 (off_no _)) (by omega) (fun L2 hL2 q5 m5 d5 w5 hr5 hf5 hc5 => ?_) (fun hno => absurd hL (hno L))
    obtain rfl := lab_uniq hL2 hL
    have hl2 := lab_len (l := L2) (by rw [hL])
    exact tail q4 m4 d4 0 q5 m5 d5 true w5 (hc4.trans0 hc5) (fun _ => ⟨L2, rfl, (row_ints hr4).chg hc5 (off_no _), row_ints hr5, row_small hr4 hl2⟩) (fun h => by cases h)
  · refine RRead_ok (hB3.chg hc4 (off_no _)) (by omega) (fun L2 hL2 => absurd hL2 (hno L2)) (fun _ q5 m5 d5 w5 hc5 => ?_)
    exact tail none 0 0 11 q5 m5 d5 false w5 (hc4.trans0 hc5) (fun h => by cases h) (fun _ => ⟨rfl, rfl⟩)

theorem LabelBack_ok {a : IV} {b : BV} (ha : a.Ok w) (hb : b.Ok w) : callJ Try.prog fn_law12_LabelBack #[.slice a.p a.l a.c, .slice b.p b.l b.c] w [.one .bool] fun r w' => r = true ∧ Chg No w w' := by
  refine c_law12_LabelBack ?_
  unfold VC_law12_LabelBack
  have fa := ha.fits
  refine awake12_ok fun w1 hc1 => ?_
  refine condB_i (fun h => by simp at h) fun _ => ?_
  refine Bytes_ok (ha.is.chg hc1 (off_no _)) (by omega) fun q2 m2 d2 w2 hr2 hf2 hc2 => ?_
  have c2 := hc1.trans0 hc2
  refine withJ_i fun J0 hJ0 => ?_
  have k0 : ∀ w3, Chg No w2 w3 → J0 w3 := by
    intro w3 hc3; subst hJ0
    have c3 := c2.trans0 hc3
    refine Read_ok (hb.is.chg c3 (off_no _)) hb.cap (fun L hL q4 m4 d4 w4 hr4 hf4 hc4 => ?_) (fun hno w4 hc4 => ?_)
    · have c4 := c3.trans0 hc4
      refine condB_i (fun h => absurd h (by decide)) fun _ => ?_
      have hl2 := lab_len (l := L) (by rw [hL])
      refine Bytes_ok (row_ints hr4) (by have := row_small hr4 hl2; omega) fun q5 m5 d5 w5 hr5 hf5 hc5 => ?_
      rw [hL] at hr5 ⊢
      refine withJ_i fun J4 hJ4 => ?_
      subst hJ4
      refine condB_i (fun _ => ?_) (fun h => by simp at h)
      refine SameB_ok hr5.bytes (hb.is.chg (c4.trans0 hc5) (off_no _)) ?_
      exact ⟨decide_eq_true rfl, c4.trans0 hc5⟩
    · refine condB_i (fun _ => ⟨rfl, c3.trans0 hc4⟩) (fun h => absurd h (by decide))
  clear hJ0
  refine condB_eq (fun he => ?_) (fun _ => k0 w2 (Chg.refl _ _))
  have hlab : lab a.xs = ((lab a.xs).1, 0) := Prod.ext rfl he
  have hlen := hr2.bytes.len
  have hcap := hr2.le
  refine Read_ok hr2.bytes hcap.1 (fun L hL q4 m4 d4 w4 hr4 hf4 hc4 => ?_) (fun hno => absurd hlab (hno _))
  obtain rfl := lab_uniq hL hlab
  refine withJ_i fun J37 hJ37 => ?_
  have k37 : ∀ w9, Chg No w2 w9 → J37 false w9 := by
    intro w9 hc9; subst hJ37
    exact condB_i (fun h => by cases h) fun _ => k0 w9 hc9
  clear hJ37
  refine condB_i (fun h => absurd h (by decide)) fun _ => ?_
  refine SameInts_ok (row_ints hr4) (ha.is.chg (c2.trans0 hc4) (off_no _)) (by have := row_small hr4 (lab_len he); omega) fun w10 hc10 => ?_
  refine condB_i (fun h => by simp at h) fun _ => ?_
  have hbits := lab_bits hlab
  have e : decide (((m2 : Nat) : Int) > 120) = false := decide_eq_false (by omega)
  rw [e]
  exact k37 w10 (hc4.trans0 hc10)

theorem order_self (x : List UInt8) : Op.bytesLess x x = false := less_irrefl x
theorem Order_ok {p q : Option Addr} {l c l2 c2 : Nat} {xs ys : List Int} {J : Int → World → Prop} (h : Bytes w p l (lab xs).1) (h2 : Bytes w q l2 (lab ys).1) (e1 : (lab xs).2 = 0) (e2 : (lab ys).2 = 0) (k : J (cmpL xs ys) w) :
    callJ Try.prog fn_law12_order #[.slice p l c, .slice q l2 c2] w [.one (.int .i64)] J := by
  refine c_law12_order ?_
  unfold VC_law12_order
  refine bytesOf_i h (bytesOf_i h2 ?_)
  rw [ByteArray.toList_mk, ByteArray.toList_mk]
  have fin : ∀ (A B : Bool) (n : Int), A = Op.bytesLess (lab xs).1 (lab ys).1 → B = !(Op.bytesLess (lab xs).1 (lab ys).1 || ((lab xs).1 == (lab ys).1)) → n = cmpL xs ys → (n = if A then -1 else if B then 1 else 0) →
      condB (Op.bytesLess (lab xs).1 (lab ys).1) (J (-1) w) (bytesOf w p l fun bs11 => bytesOf w q l2 fun bs13 => condB (!((Op.bytesLess (⟨bs11.toArray⟩ : ByteArray).toList (⟨bs13.toArray⟩ : ByteArray).toList) || ((⟨bs11.toArray⟩ : ByteArray).toList == (⟨bs13.toArray⟩ : ByteArray).toList))) (J 1 w) (J 0 w)) := by
    intro A B n hA hB hn he
    refine condB_i (fun hx => ?_) (fun hx => ?_)
    · rw [hA, hx, if_pos rfl] at he; rw [← hn, he] at k; exact k
    · refine bytesOf_i h (bytesOf_i h2 ?_)
      rw [ByteArray.toList_mk, ByteArray.toList_mk]
      rw [hA, hx, if_neg (by simp)] at he
      refine condB_i (fun hy => ?_) (fun hy => ?_)
      · rw [hB, hy, if_pos rfl] at he; rw [← hn, he] at k; exact k
      · rw [hB, hy, if_neg (by simp)] at he; rw [← hn, he] at k; exact k
  refine fin _ _ _ rfl rfl rfl ?_
  rcases cmpL_cases xs ys with e | e | e
  · rw [e, lab_less e1 e2 e, if_pos rfl]
  · obtain rfl := cmpL_zero e
    rw [e, less_irrefl]; simp
  · have e' : cmpL ys xs = -1 := by rw [cmpL_swap, e]
    have hl := lab_less e2 e1 e'
    have hne : ((lab xs).1 == (lab ys).1) = false := by
      rw [beq_eq_false_iff_ne]
      intro h; rw [h, less_irrefl] at hl; cases hl
    rw [e, less_asymm hl, hne]; simp

theorem LabelOrders_ok {a b c : IV} (ha : a.Ok w) (hb : b.Ok w) (hc : c.Ok w) : callJ Try.prog fn_law12_LabelOrders #[.slice a.p a.l a.c, .slice b.p b.l b.c, .slice c.p c.l c.c] w [.one .bool] fun r w' => r = true ∧ Chg No w w' := by
  refine c_law12_LabelOrders ?_
  unfold VC_law12_LabelOrders
  have fa := ha.fits
  have fb := hb.fits
  have fc := hc.fits
  refine awake12_ok fun w1 hc1 => ?_
  refine condB_i (fun h => by simp at h) fun _ => ?_
  refine Bytes_ok (ha.is.chg hc1 (off_no _)) (by omega) fun q2 m2 d2 w2 hr2 hf2 hc2 => ?_
  have c2 := hc1.trans0 hc2
  refine Bytes_ok (hb.is.chg c2 (off_no _)) (by omega) fun q3 m3 d3 w3 hr3 hf3 hc3 => ?_
  have c3 := c2.trans0 hc3
  refine withJ_i fun J28 hJ28 => ?_
  have k28 : ∀ x, (x = true ↔ ¬ ((lab a.xs).2 = 0 ∧ (lab b.xs).2 = 0)) → J28 x w3 := by
    intro x hx; subst hJ28
    refine condB_i (fun _ => ⟨rfl, c3⟩) (fun hxf => ?_)
    obtain ⟨e1, e2⟩ : (lab a.xs).2 = 0 ∧ (lab b.xs).2 = 0 := by
      apply Classical.byContradiction
      intro h; rw [hx.2 h] at hxf; cases hxf
    refine withJ_i fun J58 hJ58 => ?_
    have k58 : ∀ w5, Chg No w w5 → J58 false w5 := by
      intro w5 hc5; subst hJ58
      refine condB_i (fun h => by cases h) fun _ => ?_
      refine withJ_i fun J6 hJ6 => ?_
      subst hJ6
      refine Above_ok (ha.is.chg hc5 (off_no _)) (hb.is.chg hc5 (off_no _)) hb.cap (by omega) fun w7 hc7 => ?_
      have c7 := hc5.trans0 hc7
      refine condB_i (fun hab => ?_) (fun _ => ⟨rfl, c7⟩)
      refine Compare_ok (ha.is.chg c7 (off_no _)) (hc.is.chg c7 (off_no _)) (by omega) ?_
      refine condB_d (fun hac => ?_) (fun _ => ⟨rfl, c7⟩)
      refine Above_ok (ha.is.chg c7 (off_no _)) (hc.is.chg c7 (off_no _)) hc.cap (by omega) fun w9 hc9 => ?_
      have c9 := c7.trans0 hc9
      refine condB_not (fun hnac => ?_) (fun _ => ⟨rfl, c9⟩)
      refine Compare_ok (hb.is.chg c9 (off_no _)) (hc.is.chg c9 (off_no _)) (by omega) ?_
      refine ⟨?_, c9⟩
      obtain ⟨x, _, e⟩ := above_of hab
      have hac' : cmpL a.xs c.xs = -1 := by rcases cmpL_cases a.xs c.xs with h | h | h <;> rw [h] at hac <;> first | exact h | (exfalso; omega)
      rw [e, above_sub x hac' hnac]; rfl
    clear hJ58
    refine Order_ok (hr2.bytes.chg hc3 (off_no _)) hr3.bytes e1 e2 ?_
    have hA := ha.is.chg c3 (off_no _)
    have hB := hb.is.chg c3 (off_no _)
    refine Compare_ok hA hB (by omega) ?_
    refine condB_ne (fun h => absurd rfl h) fun _ => ?_
    refine Compare_ok hA hB (by omega) ?_
    have above : ∀ w4, Chg No w w4 → callJ Try.prog fn_label_Above #[.slice a.p a.l a.c, .slice b.p b.l b.c] w4 [.one .bool] fun (r51 : Bool) (w15 : World) =>
        condB r51 (callJ Try.prog fn_label_Compare #[.slice a.p a.l a.c, .slice b.p b.l b.c] w15 [.one (.int .i64)] fun (r55 : Int) (w16 : World) => J58 (r55 != (-1 : Int)) w16) (J58 false w15) := by
      intro w4 hc4
      refine Above_ok (ha.is.chg hc4 (off_no _)) (hb.is.chg hc4 (off_no _)) hb.cap (by omega) fun w5 hc5 => ?_
      have c5 := hc4.trans0 hc5
      refine condB_i (fun hab => ?_) (fun _ => k58 w5 c5)
      refine Compare_ok (ha.is.chg c5 (off_no _)) (hb.is.chg c5 (off_no _)) (by omega) ?_
      rw [above_lt hab]
      exact k58 w5 c5
    refine condB_eq (fun h0 => ?_) (fun _ => above w3 c3)
    have hab := cmpL_zero h0
    refine SameInts_ok hA hB (by omega) fun w14 hc14 => ?_
    rw [decide_eq_true hab]
    exact condB_i (fun h => by cases h) fun _ => above w14 (c3.trans0 hc14)
  clear hJ28
  refine condB_ne (fun h => k28 true ⟨fun _ e => h e.1, fun _ => rfl⟩) (fun h => k28 _ ?_)
  rw [bne_iff_ne]
  exact ⟨fun h2 e => h2 e.2, fun h2 e => h2 ⟨h, e⟩⟩

/-- Writing over a row of the call's own. -/
theorem Row.stI {p : Option Addr} {l c : Nat} {xs : List Int} (hr : Row w T_int 1 p l c (ints xs)) {i : Int} (h0 : 0 ≤ i) (h1 : i < l) {v : Int} {K : World → Prop}
    (k : ∀ w', Row w' T_int 1 p l c (ints (xs.set i.toNat v)) → Chg (isB p) w w' → K w') : idxA p l i fun a => stV w (a.add (i.toNat * 1)) (.int .i64 v) K := by
  obtain ⟨b, rest, rfl, hh, hle, hmax, hlen⟩ := hr.some0 (by omega)
  have hl := hr.len
  rw [ints_length, Nat.mul_one] at hl
  refine idxA_i h0 h1 ?_
  rw [Addr.add_mk, Nat.zero_add, Nat.mul_one]
  have H := (Hp.start w (isB (some ⟨b, 0, none⟩))).add hh (by simp) (fun _ => ⟨_, rfl, rfl⟩)
  refine H.stV 0 rfl (off := i.toNat) (by rw [List.length_append, ints_length]; omega) fun w' H' hc => ?_
  have e : (ints xs ++ rest).set i.toNat (Value.int .i64 v) = ints (xs.set i.toNat v) ++ rest := by
    rw [List.set_append_left _ _ (by rw [ints_length]; omega)]
    unfold ints
    rw [← List.map_set]
  simp only [List.set_cons_zero] at H'
  rw [e] at H'
  exact k w' (H'.asRow 0 rfl rfl (by rw [ints_length, List.length_set]; omega) hle hmax (by rw [← hlen]; simp [ints])) H'.chg

/-- All numbers of a row are written over; then two others are compared. -/
theorem smashI {w0 : World} {q : Option Addr} {m d : Nat} {xs : List Int} {v : Int} {K : World → Prop} (hr : Row w T_int 1 q m d (ints xs)) (hm : m ≤ 100000000000000) (hf : fresh w0 q) (hc : Chg No w0 w) (k : ∀ w', Chg No w0 w' → K w') :
    ∃ I : Int → World → Nat → Prop, (∃ m, I 0 w m) ∧ ∀ (x : Int) (w9 : World) (t : Nat), I x w9 t → condB (decide (x < ((m : Nat) : Int))) (idxA q m x fun a65 => stV w9 ((a65.add (x.toNat * 1))) (.int .i64 v) fun w10 => ∃ m' : Nat, m' < t ∧ I (w64 (x + (1 : Int))) w10 m') (K w9) := by
  refine ⟨fun x w' t => ∃ (i : Nat) (ys : List Int), x = i ∧ i ≤ m ∧ t = m - i ∧ Row w' T_int 1 q m d (ints ys) ∧ Chg No w0 w', ⟨_, 0, xs, rfl, Nat.zero_le _, rfl, hr, hc⟩, ?_⟩
  rintro x w9 t ⟨i, ys, rfl, hi, rfl, hr9, hc9⟩
  refine condB_d (fun hlt => ?_) (fun _ => k w9 hc9)
  refine Row.stI hr9 (by omega) hlt fun w10 hr10 hc10 => ?_
  exact ⟨_, by omega, i + 1, _, by rw [w64_of] <;> omega, by omega, rfl, hr10, hc9.trans hc10 (fresh_no hf)⟩

theorem LabelStands_ok {a b : IV} (ha : a.Ok w) (hb : b.Ok w) : callJ Try.prog fn_law12_LabelStands #[.slice a.p a.l a.c, .slice b.p b.l b.c] w [.one .bool] fun r w' => r = true ∧ Chg No w w' := by
  refine c_law12_LabelStands ?_
  unfold VC_law12_LabelStands
  have fa := ha.fits
  have fb := hb.fits
  refine awake12_ok fun w1 hc1 => ?_
  refine condB_i (fun h => by simp at h) fun _ => ?_
  refine twin_row slT_int (ha.is.chg hc1 (off_no _)) (one1_ints _) ha.nil (by omega) (by simp only [maxLen]; omega) fun q3 d3 w3 hr3 hf3 hc3 => ?_
  have c3 := hc1.trans0 hc3
  refine Up_ok (ha.is.chg c3 (off_no _)) (by omega) ha.cap fun q4 m4 d4 w4 hr4 hf4 hc4 => ?_
  have c4 := c3.trans0 hc4
  have hm4 : m4 ≤ a.l := row_small hr4 (by rw [← ha.is.len]; exact upL_len _)
  refine withJ_i fun J44 hJ44 => ?_
  have k44 : ∀ w5, Chg No w4 w5 → J44 false w5 := by
    intro w5 hc5; subst hJ44
    have c5 := c4.trans0 hc5
    refine condB_i (fun h => by cases h) fun _ => ?_
    refine newRow (sz := 1) (n := 2) rfl (by decide) fun b46 w6 hr6 hb6 hc6 => ?_
    have c6 := c5.trans0 hc6
    have hf4' : fresh w q4 := fun x hx => by have := hf4 x hx; have := c3.size; omega
    refine appJ_row slT_int (hr4.chg (hc5.trans0 hc6) (off_no _)) hr6.sl (one1_ints [9, 9]) (by simp) (by omega) (by simp only [maxLen]; omega) fun q7 d7 w7 hr7 hc7 hf7 => ?_
    have e7 : ints (upL a.xs) ++ [Value.int .i64 9, Value.int .i64 9] = ints (upL a.xs ++ [9, 9]) := by simp [ints]
    rw [e7] at hr7
    have c7 : Chg No w w7 := c6.trans hc7 (fresh_no hf4')
    have hf7' : fresh w q7 := by
      rcases hf7 with rfl | hf7
      · exact hf4'
      · intro x hx; have := hf7 x hx; have := c6.size; omega
    -- what stands of the copy
    have c37 : Chg No w3 w7 := by
      refine ((hc4.trans0 hc5).trans0 hc6).trans hc7 ?_
      rintro x hx ⟨z, hz, rfl⟩
      have := hf4 z hz; omega
    have f37 : fresh w3 q7 := by
      rcases hf7 with rfl | hf7
      · exact hf4
      · intro x hx; have := hf7 x hx; have := ((hc4.trans0 hc5).trans0 hc6).size; omega
    refine smashI (w0 := w3) hr7 (by omega) f37 c37 fun w8 hc8 => ?_
    refine SameInts_ok (ha.is.chg (c3.trans0 hc8) (off_no _)) ((row_ints hr3).chg hc8 (off_no _)) (by omega) fun w10 hc10 => ?_
    exact ⟨decide_eq_true rfl, (c3.trans0 hc8).trans0 hc10⟩
  clear hJ44
  have hA := ha.is.chg c4 (off_no _)
  have hB := hb.is.chg c4 (off_no _)
  refine Compare_ok hA hB (by omega) ?_
  refine RCompare_ok hA hB (by omega) fun w12 hc12 => ?_
  refine condB_ne (fun h => absurd rfl h) fun _ => ?_
  have hA12 := hA.chg hc12 (off_no _)
  refine Level_ok hA12 (by omega) (RLevel_ok hA12 (by omega) ?_)
  refine condB_ne (fun h => absurd rfl h) fun _ => ?_
  refine RUp_ok hA12 ha.nil (by omega) fun q15 m15 d15 w15 hI15 hf15 hc15 => ?_
  have c15 := hc12.trans0 hc15
  refine SameInts_ok ((row_ints hr4).chg c15 (off_no _)) hI15 (by omega) fun w16 hc16 => ?_
  refine condB_i (fun h => by simp at h) fun _ => ?_
  have c16 := c15.trans0 hc16
  refine Above_ok (hA.chg c16 (off_no _)) (hB.chg c16 (off_no _)) hb.cap (by omega) fun w17 hc17 => ?_
  have c17 := c16.trans0 hc17
  refine RAbove_ok (hA.chg c17 (off_no _)) (hB.chg c17 (off_no _)) (by omega) fun w18 hc18 => ?_
  rw [beq_self_eq_true]
  exact k44 w18 (c17.trans0 hc18)

theorem LabelAmid_ok {u l r : IV} (hu : u.Ok w) (hl : l.Ok w) (hr : r.Ok w) : callJ Try.prog fn_law12_LabelAmid #[.slice u.p u.l u.c, .slice l.p l.l l.c, .slice r.p r.l r.c] w [.one .bool] fun r w' => r = true ∧ Chg No w w' := by
  refine c_law12_LabelAmid ?_
  unfold VC_law12_LabelAmid
  have fu := hu.fits
  have fl := hl.fits
  have fr := hr.fits
  have ll := hl.is.len
  have rl := hr.is.len
  refine awake12_ok fun w1 hc1 => ?_
  refine condB_i (fun h => by simp at h) fun _ => ?_
  refine Between_ok (hu.is.chg hc1 (off_no _)) (hl.is.chg hc1 (off_no _)) (hr.is.chg hc1 (off_no _)) hu.nil (by omega) (by omega) (by omega) hu.cap hl.cap hr.cap fun q2 m2 d2 w2 hr2 hf2 hc2 => ?_
  have c2 := hc1.trans0 hc2
  have hm2 := row_small hr2 (bet_len _ _ _)
  have hn2 := hr2.len
  rw [ints_length, Nat.mul_one] at hn2
  have hcap2 := hr2.le
  refine condB_ne (fun hne => ?_) (fun he => ?_)
  · refine withJ_i fun J6 hJ6 => ?_
    subst hJ6
    rcases bet_cases u.xs l.xs r.xs with e | e | e
    · exact absurd e hne
    · rw [e] at hn2 ⊢
      simp only [List.length_nil] at hn2
      refine condB_eq (fun _ => ?_) (fun h => absurd (by omega) h)
      exact condB_i (fun _ => ⟨rfl, c2⟩) (fun h => absurd h (by decide))
    · rw [e] at hn2 ⊢
      simp only [List.length_nil] at hn2
      refine condB_eq (fun _ => ?_) (fun h => absurd (by omega) h)
      exact condB_i (fun h => absurd h (by decide)) (fun _ => ⟨rfl, c2⟩)
  generalize hN : (betL u.xs l.xs r.xs).1 = n at hr2 hn2
  have hb : betL u.xs l.xs r.xs = (n, 0) := Prod.ext hN he
  obtain ⟨b1, b2, b3, b4, b5, b6, b7⟩ := bet_ok hb
  have hI2 := row_ints hr2
  refine withJ_i fun J54 hJ54 => ?_
  have k54 : ∀ w4, Chg No w2 w4 → J54 false w4 := by
    intro w4 hc4; subst hJ54
    have c4 := c2.trans0 hc4
    refine condB_i (fun h => by cases h) fun _ => ?_
    refine withJ_i fun J6 hJ6 => ?_
    subst hJ6
    have hN4 := hI2.chg hc4 (off_no _)
    have right : ∀ w5, w5 = w4 → condB (((r.l : Nat) : Int) == (0 : Int)) ((fun r w' => r = true ∧ Chg No w w') true w5) (callJ Try.prog fn_label_Compare #[.slice q2 m2 d2, .slice r.p r.l r.c] w5 [.one (.int .i64)] fun (r71 : Int) (w6 : World) => (fun r w' => r = true ∧ Chg No w w') (decide (r71 < (0 : Int))) w6) := by
      rintro w5 rfl
      refine condB_eq (fun _ => ⟨rfl, c4⟩) (fun h => ?_)
      refine Compare_ok hN4 (hr.is.chg c4 (off_no _)) (by omega) ?_
      rw [b7 (by intro e; rw [e] at rl; simp at rl; omega)]
      exact ⟨rfl, c4⟩
    refine condB_eq (fun _ => right w4 rfl) (fun h => ?_)
    refine Compare_ok (hl.is.chg c4 (off_no _)) hN4 (by omega) ?_
    rw [b6 (by intro e; rw [e] at ll; simp at ll; omega)]
    exact condB_i (fun _ => right w4 rfl) (fun h => absurd h (by decide))
  clear hJ54
  refine Up_ok hI2 (by omega) hcap2.1 fun q9 m9 d9 w9 hr9 hf9 hc9 => ?_
  have c9 := c2.trans0 hc9
  have hm9 : m9 ≤ m2 := row_small hr9 (by rw [← hI2.len]; exact upL_len _)
  rw [b2] at hr9
  refine SameInts_ok (row_ints hr9) (hu.is.chg c9 (off_no _)) (by omega) fun w10 hc10 => ?_
  refine condB_i (fun h => by simp at h) fun _ => ?_
  have c10 := hc9.trans0 hc10
  have d10 := c2.trans0 c10
  have hul := hu.is.len
  have hlev : levL u.xs ≤ u.l := by rw [← hul]; exact List.countP_le_length
  refine Level_ok (hI2.chg c10 (off_no _)) (by omega) (Level_ok (hu.is.chg d10 (off_no _)) (by omega) ?_)
  rw [b3, w64_of (by omega) (by omega)]
  refine condB_ne (fun h => absurd (by omega) h) fun _ => ?_
  refine Check_ok (hI2.chg c10 (off_no _)) (by omega) fun w13 hc13 => ?_
  rw [b1]
  refine condB_ne (fun h => absurd rfl h) fun _ => ?_
  have c13 := c10.trans0 hc13
  refine Above_ok (hu.is.chg (c2.trans0 c13) (off_no _)) (hI2.chg c13 (off_no _)) hcap2.1 (by omega) fun w14 hc14 => ?_
  rw [b4]
  exact k54 w14 (c13.trans0 hc14)

theorem LabelBetween_ok {u l r : IV} (hu : u.Ok w) (hl : l.Ok w) (hr : r.Ok w) : callJ Try.prog fn_law12_LabelBetween #[.slice u.p u.l u.c, .slice l.p l.l l.c, .slice r.p r.l r.c] w [.one .bool] fun r w' => r = true ∧ Chg No w w' := by
  refine c_law12_LabelBetween ?_
  unfold VC_law12_LabelBetween
  have fu := hu.fits
  have fl := hl.fits
  have fr := hr.fits
  have ul := hu.is.len
  refine awake12_ok fun w1 hc1 => ?_
  refine condB_i (fun h => by simp at h) fun _ => ?_
  refine twin_row slT_int (hu.is.chg hc1 (off_no _)) (one1_ints _) hu.nil (by omega) (by simp only [maxLen]; omega) fun q3 d3 w3 hr3 hf3 hc3 => ?_
  have c3 := hc1.trans0 hc3
  refine appI (w0 := w1) hr3 (by omega) hf3 hc3 fun q5 d5 w5 hr5 hf5 hc5 _ => ?_
  have c5 := hc1.trans0 hc5
  have hcap5 := hr5.le
  refine slS_pre (hr5.at0 (by omega)) (by omega) (by omega) ?_
  -- its begin
  have pre : ∀ w', Row w' T_int 1 q5 (u.l + 1) d5 (ints (u.xs ++ [77])) → Ints w' q5 u.l u.xs := by
    intro w' hr'
    refine ⟨by rw [ints_length]; omega, ?_⟩
    obtain ⟨a, ha, hca⟩ := (row_ints hr').at (by omega)
    refine .inr ⟨a, ha, ?_⟩
    have := cellsAt_take u.l hca
    have e : (ints (u.xs ++ [77])).take u.l = ints u.xs := by
      unfold ints; rw [List.map_append]; exact List.take_left' (by simp [ul])
    rwa [e] at this
  have hl5 := hl.is.chg c5 (off_no _)
  have hr5' := hr.is.chg c5 (off_no _)
  refine Between_ok (pre w5 hr5) hl5 hr5' (fun e => by obtain ⟨b, hb⟩ := hr5.at0 (by omega); rw [e] at hb; cases hb) (by omega) (by omega) (by omega) (by omega) hl.cap hr.cap fun q6 m6 d6 w6 hr6 hf6 hc6 => ?_
  have c6 := c5.trans0 hc6
  have hm6 := row_small hr6 (bet_len _ _ _)
  refine RBetween_ok (hu.is.chg c6 (off_no _)) (hl.is.chg c6 (off_no _)) (hr.is.chg c6 (off_no _)) hu.nil hl.nil hr.nil (by omega) (by omega) (by omega) fun q7 m7 d7 w7 hr7 hf7 hc7 => ?_
  have c57 := hc6.trans0 hc7
  refine withJ_i fun J57 hJ57 => ?_
  have k57 : ∀ w8, Chg No w7 w8 → J57 false w8 := by
    intro w8 hc8; subst hJ57
    have c58 := c57.trans0 hc8
    refine condB_i (fun h => by cases h) fun _ => ?_
    refine smashI (w0 := w5) (hr6.chg (hc7.trans0 hc8) (off_no _)) (by omega) hf6 c58 fun w9 hc9 => ?_
    refine SameInts_ok (pre w9 (hr5.chg hc9 (off_no _))) (hu.is.chg (c5.trans0 hc9) (off_no _)) (by omega) fun w10 hc10 => ?_
    exact ⟨decide_eq_true rfl, (c5.trans0 hc9).trans0 hc10⟩
  clear hJ57
  refine condB_ne (fun h => absurd rfl h) fun _ => ?_
  refine SameInts_ok ((row_ints hr6).chg hc7 (off_no _)) (row_ints hr7) (by omega) fun w12 hc12 => ?_
  refine condB_i (fun h => by simp at h) fun _ => ?_
  have e1 : w64 ((u.l : Int) + 1) = ((u.l + 1 : Nat) : Int) := by rw [w64_of] <;> omega
  rw [e1]
  refine slS_pre (hr5.at0 (by omega)) (by omega) (by omega) ?_
  refine int_i (row_ints (hr5.chg (c57.trans0 hc12) (off_no _))) (by omega) (by omega) fun n hn => ?_
  rw [Int.toNat_natCast, List.getElem?_append_right (by omega), ul, Nat.sub_self] at hn
  obtain rfl : n = 77 := by simpa using hn.symm
  exact k57 w12 hc12

theorem LabelRows_ok {u : IV} {n : Int} (hu : u.Ok w) (_ : InI n) : callJ Try.prog fn_law12_LabelRows #[.slice u.p u.l u.c, .int .i64 n] w [.one .bool] fun r w' => r = true ∧ Chg No w w' := by
  refine c_law12_LabelRows ?_
  unfold VC_law12_LabelRows
  have fu := hu.fits
  have ul := hu.is.len
  refine awake12_ok fun w1 hc1 => ?_
  refine condB_i (fun h => by simp at h) fun _ => ?_
  refine Bytes_ok (hu.is.chg hc1 (off_no _)) (by omega) fun q2 m2 d2 w2 hr2 hf2 hc2 => ?_
  have c2 := hc1.trans0 hc2
  have hbl := hr2.bytes.len
  refine withJ_i fun J29 hJ29 => ?_
  have k29 : ∀ x, (x = false → (lab u.xs).2 = 0 ∧ m2 ≤ 116) → J29 x w2 := by
    intro x hx; subst hJ29
    refine condB_i (fun _ => ⟨rfl, c2⟩) (fun hxf => ?_)
    obtain ⟨e0, hm2⟩ := hx hxf
    have hu480 := lab_len e0
    have ent : ∃ N : Nat, w64 (Int.tmod (IntKind.u64.wrap n) 500) = (N : Int) ∧ N < 500 := by
      have h0 : 0 ≤ IntKind.u64.wrap n := by rw [wrap_u64]; omega
      have h1 : Int.tmod (IntKind.u64.wrap n) 500 = IntKind.u64.wrap n % 500 := Int.tmod_eq_emod_of_nonneg h0
      refine ⟨(IntKind.u64.wrap n % 500).toNat, ?_, by omega⟩
      rw [h1, w64_of (by omega) (by omega)]; omega
    obtain ⟨N, eN, hN⟩ := ent
    rw [eN]
    refine ⟨by decide, fun lp ll lc rp rl rc x w' t => ∃ i : Nat, x = i ∧ i ≤ N ∧ t = N - i ∧ Chg No w2 w' ∧ Row w' T_int 1 lp ll lc (ints (if i = 0 then [] else u.xs ++ [2 * (i : Int) - 1])) ∧ Row w' T_int 1 rp rl rc (ints (if i = 0 then [] else u.xs ++ [3 - 2 * (i : Int)])),
      ⟨_, 0, rfl, Nat.zero_le _, rfl, Chg.refl _ _, Row.nil _ _ _, Row.nil _ _ _⟩, ?_⟩
    rintro lp ll lc rp rl rc x w4 t ⟨i, rfl, hi, rfl, hc4, hrl, hrr⟩
    have c4 := c2.trans0 hc4
    refine condB_d (fun hlt => ?_) (fun _ => ⟨rfl, c4⟩)
    have hlenU : (lab u.xs).1.length ≤ 116 := by omega
    have b1 := bet_end e0 hlenU i (by omega)
    have b2 := bet_begin e0 hlenU i (by omega)
    have hll : ll ≤ 481 := row_small hrl (by split <;> simp <;> omega)
    have hrl' : rl ≤ 481 := row_small hrr (by split <;> simp <;> omega)
    have hlcap := hrl.le
    have hrcap := hrr.le
    refine Between_ok (hu.is.chg c4 (off_no _)) (row_ints hrl) (ys := []) (Sl.nil _ _ _) hu.nil (by omega) (by omega) (by decide) hu.cap hlcap.1 (Nat.le_refl _) fun q5 m5 d5 w5 hr5 hf5 hc5 => ?_
    rw [b1] at hr5 ⊢
    have c5 := c4.trans0 hc5
    refine Between_ok (hu.is.chg c5 (off_no _)) (xs := []) (Sl.nil _ _ _) (row_ints (hrr.chg hc5 (off_no _))) hu.nil (by omega) (by decide) (by omega) hu.cap (Nat.le_refl _) hrcap.1 fun q6 m6 d6 w6 hr6 hf6 hc6 => ?_
    rw [b2] at hr6 ⊢
    have hr56 := hr5.chg hc6 (off_no _)
    have l5 : m5 = u.l + 1 := by have := (row_ints hr5).len; simp at this; omega
    have l6 : m6 = u.l + 1 := by have := (row_ints hr6).len; simp at this; omega
    refine withJ_i fun J92 hJ92 => ?_
    have k92 : J92 false w6 := by
      subst hJ92
      refine condB_i (fun h => by cases h) fun _ => ?_
      refine Bytes_ok (row_ints hr56) (by omega) fun q8 m8 d8 w8 hr8 hf8 hc8 => ?_
      have hs := (lab_snoc e0 hlenU (v := 1 + 2 * (i : Int)) (by omega) (by omega) (oddZ_iff.2 (by omega))).2
      have hl8 : (lab (u.xs ++ [1 + 2 * (i : Int)])).1.length = m8 := hr8.bytes.len
      rw [w64_of (by omega) (by omega)]
      refine condB_d (fun h => by omega) fun _ => ?_
      refine ⟨_, by omega, i + 1, by rw [w64_of] <;> omega, by omega, rfl, ((hc4.trans0 hc5).trans0 hc6).trans0 hc8, ?_, ?_⟩
      · rw [if_neg (by omega), show 2 * ((i + 1 : Nat) : Int) - 1 = 1 + 2 * (i : Int) by omega]; exact hr56.chg hc8 (off_no _)
      · rw [if_neg (by omega), show 3 - 2 * ((i + 1 : Nat) : Int) = 1 - 2 * (i : Int) by omega]; exact hr6.chg hc8 (off_no _)
    clear hJ92
    refine condB_ne (fun h => absurd rfl h) fun _ => ?_
    refine condB_ne (fun h => absurd rfl h) fun _ => ?_
    have eu : w64 ((u.l : Int) + 1) = ((u.l + 1 : Nat) : Int) := by rw [w64_of] <;> omega
    rw [eu]
    refine condB_ne (fun h => absurd (by omega) h) fun _ => ?_
    have ev : ∀ v : Int, (u.xs ++ [v])[((u.l : Nat) : Int).toNat]? = some v := fun v => by
      rw [Int.toNat_natCast, List.getElem?_append_right (by omega), ul, Nat.sub_self]; rfl
    refine int_i (row_ints hr56) (by omega) (by omega) fun a ha => ?_
    rw [ev] at ha
    cases ha
    rw [w64_of (n := 2 * (i : Int)) (by omega) (by omega), w64_of (n := 1 + 2 * (i : Int)) (by omega) (by omega), w64_of (n := 1 - 2 * (i : Int)) (by omega) (by omega)]
    refine condB_ne (fun h => absurd rfl h) fun _ => ?_
    refine condB_ne (fun h => absurd (by omega) h) fun _ => ?_
    refine int_i (row_ints hr6) (by omega) (by omega) fun a ha => ?_
    rw [ev] at ha
    cases ha
    rw [show ((1 - 2 * (i : Int)) != (1 - 2 * (i : Int))) = false from by simp]
    exact k92
  clear hJ29
  refine condB_ne (fun h => k29 true (fun h => by cases h)) (fun h => k29 _ (fun hx => ⟨h, ?_⟩))
  have := of_decide_eq_false hx; omega
end
end Go.Proofs.Ytjjmnfpdkgnmoaa

