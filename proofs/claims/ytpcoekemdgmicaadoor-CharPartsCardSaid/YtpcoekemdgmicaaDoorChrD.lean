/-
  Chapter 1: line ends; appends of great rows.
-/
import Derived.Test.YtpcoekemdgmicaaDoorChrC
import Derived.Test.YtpcoekemdgmicaaDoorRef01B
namespace Go.Vc
open Go Go.Lib
/-- Did a 13 stand ahead of a place? -/
def prv (bs : List UInt8) (i : Nat) : Bool := decide (0 < i ∧ bs[i - 1]? = some 13)
def chunk (b : UInt8) (p : Bool) : List UInt8 := if b = 13 then [10] else if b = 10 ∧ p = true then [] else [b]
theorem prv_succ {bs : List UInt8} {i : Nat} {b : UInt8} (h : bs[i]? = some b) : prv bs (i + 1) = decide (b = 13) := by
  unfold prv
  rw [Nat.add_sub_cancel, h]
  simp
theorem lns_cons (b : UInt8) (p : Bool) (r : List UInt8) : lns p (b :: r) = chunk b p ++ lns (decide (b = 13)) r := by
  unfold chunk
  rw [lns]
  by_cases h : b = 13
  · simp [h]
  · by_cases h2 : b = 10 ∧ p = true
    · simp [h, h2]
    · simp only [if_neg h, if_neg h2, decide_eq_false h]; rfl
theorem lns_at {bs : List UInt8} {i : Nat} {b : UInt8} (h : bs[i]? = some b) : lns (prv bs i) (bs.drop i) = chunk b (prv bs i) ++ lns (prv bs (i + 1)) (bs.drop (i + 1)) := by
  obtain ⟨hi, rfl⟩ := List.getElem?_eq_some_iff.1 h
  rw [List.drop_eq_getElem_cons hi, lns_cons, prv_succ h]
theorem lns_len : ∀ (p : Bool) (bs : List UInt8), (lns p bs).length ≤ bs.length
  | _, [] => Nat.le_refl _
  | p, b :: r => by
    rw [lns_cons, List.length_append, List.length_cons]
    have := lns_len (decide (b = 13)) r
    have : (chunk b p).length ≤ 1 := by
      unfold chunk
      repeat' split
      all_goals simp
    omega
end Go.Vc
namespace Go.Proofs.YtpcoekemdgmicaaDoor
open Go Go.Vc Go.Lib

section
variable {w : World}

/-- append of bytes to a row of the call's own. -/
theorem appG {w0 wa : World} {p q : Option Addr} {l c m c2 : Nat} {xs ys : List UInt8} {K : Option Addr → Nat → Nat → World → Prop} (hr : Row wa T_uint8 1 p l c (bcells xs)) (hb : Bytes wa q m ys) (hn : q = none → m = 0) (hlm : l + m ≤ 140737488355328)
    (hf : fresh w0 p) (hc : Chg No w0 wa) (k : ∀ p' c' w', Row w' T_uint8 1 p' (l + m) c' (bcells (xs ++ ys)) → fresh w0 p' → Chg No w0 w' → K p' (l + m) c' w') :
    appJ Tryd.prog T_sl_uint8 T_sl_uint8 (.slice p l c) (.slice q m c2) wa K := by
  refine appJ_row slT_u8 hr hb (one1_bcells _) hn (by omega) (by simp only [maxLen]; omega) fun p' c' w' hr' hc' hf' => ?_
  refine k p' c' w' (by simpa [bcells] using hr') ?_ (hc.trans hc' fun b hb ⟨a, ha, e⟩ => by have := hf a ha; omega)
  rcases hf' with rfl | hf'
  · exact hf
  · intro a ha; have := hf' a ha; have := hc.size; omega

/-- One byte more. -/
theorem app1 {w0 wa : World} {p : Option Addr} {l c : Nat} {xs : List UInt8} {b : UInt8} {v : Int} {K : Option Addr → Nat → Nat → World → Prop} (hr : Row wa T_uint8 1 p l c (bcells xs)) (hv : v = (b.toNat : Int)) (hlm : l + 1 ≤ 140737488355328)
    (hf : fresh w0 p) (hc : Chg No w0 wa) (k : ∀ p' c' w', Row w' T_uint8 1 p' (l + 1) c' (bcells (xs ++ [b])) → fresh w0 p' → Chg No w0 w' → K p' (l + 1) c' w') :
    newB wa (.cells ⟨[.int .u8 v]⟩ T_uint8) fun b36 w5 => appJ Tryd.prog T_sl_uint8 T_sl_uint8 (.slice p l c) (.slice (some ⟨b36, 0, none⟩) 1 1) w5 K := by
  subst hv
  refine newRow (sz := 1) (n := 1) rfl (by decide) fun b2 w2 hr2 _ hc2 => ?_
  exact appG (ys := [b]) (hr.chg hc2 (off_no _)) hr2.sl (by simp) hlm hf (hc.trans0 hc2) k

theorem LinesC_ok {p : Option Addr} {l c : Nat} {bs : List UInt8} {J : Option Addr → Nat → Nat → World → Prop} (h : Bytes w p l bs) (hm : l ≤ 140737488355328)
    (K : ∀ p' l' c' w', Row w' T_uint8 1 p' l' c' (bcells (lns false bs)) → fresh w p' → Chg No w w' → J p' l' c' w') : callJ Tryd.prog fn_char_Lines #[.slice p l c] w [.one .slice] J := by
  refine c_char_Lines ?_
  unfold VC_char_Lines
  have hbl := h.len
  rw [zeroC_u8]
  refine (Hp.start w No).mkS rfl (by omega) (by omega) (by omega) (by omega) fun b8 w1 H1 hb8 hc1 => ?_
  rw [Int.toNat_natCast]
  rw [show (List.replicate (l : Int).toNat (#[.int .u8 0] : Array Value).toList).flatten = [] ++ bcells (List.replicate l 0) from by rw [Int.toNat_natCast]; simp [bcells, List.flatten_replicate_singleton]] at H1
  have hrow : Row w1 T_uint8 1 (some ⟨b8, 0, none⟩) 0 l (bcells []) := H1.asRow 0 rfl (rest := bcells (List.replicate l 0)) rfl (by simp [bcells]) (Nat.zero_le _) (by simp only [maxLen]; omega) (by simp [bcells])
  refine ⟨fun q m d x w' t => ∃ (i : Nat) (out : List UInt8), x = i ∧ i ≤ l ∧ t = l - i ∧ Row w' T_uint8 1 q m d (bcells out) ∧ fresh w q ∧ Chg No w w' ∧ out ++ lns (prv bs i) (bs.drop i) = lns false bs ∧ m ≤ i,
    ⟨_, 0, [], rfl, Nat.zero_le _, rfl, hrow, by rintro a ⟨⟩; exact hb8, hc1, rfl, Nat.le_refl _⟩, ?_⟩
  rintro q m d x w2 t ⟨i, out, rfl, hi, rfl, hr, hf, hc, hout, hmi⟩
  refine condB_d (fun hlt => ?_) (fun hge => ?_)
  · refine withJ_i fun J3 hJ3 => ?_
    have hB := h.chg hc (off_no _)
    refine byte_i hB (by omega) hlt fun b hb => ?_
    rw [Int.toNat_natCast] at hb
    have hstep := lns_at hb
    have k3 : ∀ q' m' d' w3 ch, ch = chunk b (prv bs i) → Row w3 T_uint8 1 q' m' d' (bcells (out ++ ch)) → fresh w q' → Chg No w w3 → m' ≤ i + 1 → J3 q' m' d' w3 := by
      intro q' m' d' w3 ch e hr' hf' hc' hm'; subst hJ3
      exact ⟨l - (i + 1), by omega, i + 1, out ++ ch, by rw [w64_of] <;> omega, by omega, rfl, hr', hf', hc', by rw [e, List.append_assoc, ← hstep]; exact hout, hm'⟩
    clear hJ3
    refine withJ_i fun J5 hJ5 => ?_
    have k5 : ∀ (c5 : UInt8), chunk b (prv bs i) = [c5] → J5 (c5.toNat : Int) w2 := by
      intro c5 e; subst hJ5
      exact app1 hr rfl (by omega) hf hc fun q' d' w3 hr' hf' hc' => k3 _ _ _ _ [c5] e.symm hr' hf' hc' (by omega)
    clear hJ5
    refine withJ_i fun J16 hJ16 => ?_
    have k16 : ∀ x, (x = true ↔ (b = 10 ∧ prv bs i = true)) → J16 x w2 := by
      intro x hx; subst hJ16
      refine meetI hx (fun hh => k3 _ _ _ _ [] ?_ (by rw [List.append_nil]; exact hr) hf hc (by omega)) (fun hn => ?_)
      · unfold chunk; rw [if_neg (by rw [hh.1]; decide), if_pos hh]
      · refine condB_eq (fun h13 => ?_) (fun h13 => ?_)
        · have : b = 13 := UInt8.toNat_inj.1 (Int.ofNat_inj.1 h13)
          exact k5 10 (by unfold chunk; rw [if_pos this])
        · have : b ≠ 13 := fun e => h13 (by rw [e]; rfl)
          exact k5 b (by unfold chunk; rw [if_neg this, if_neg hn])
    clear hJ16
    refine condB_eq (fun h10 => ?_) (fun h10 => ?_)
    · have h10 : b = 10 := UInt8.toNat_inj.1 (Int.ofNat_inj.1 h10)
      refine condB_d (fun hp => ?_) (fun hp => k16 _ (bF fun hh => ?_))
      · rw [w64_of (by omega) (by omega)]
        refine byte_i hB (by omega) (by omega) fun b' hb' => ?_
        rw [show ((i : Int) - 1).toNat = i - 1 by omega] at hb'
        refine k16 _ (bQ ?_)
        unfold prv
        rw [hb', decide_eq_true_eq]
        exact ⟨fun e => ⟨h10, by omega, by rw [show b' = 13 from UInt8.toNat_inj.1 (Int.ofNat_inj.1 e)]⟩, fun e => by cases e.2.2; rfl⟩
      · have := of_decide_eq_true hh.2
        omega
    · refine k16 _ (bF fun hh => h10 (by rw [hh.1]; rfl))
  · have : i = bs.length := by omega
    rw [this, List.drop_of_length_le (Nat.le_refl _)] at hout
    have e : lns (prv bs bs.length) [] = [] := rfl
    rw [e, List.append_nil] at hout
    subst hout
    exact K _ _ _ _ hr hf hc

theorem LinesR_ok {p : Option Addr} {l c : Nat} {bs : List UInt8} {J : Option Addr → Nat → Nat → World → Prop} (h : Bytes w p l bs) (hm : l ≤ 140737488355328)
    (K : ∀ p' l' c' w', Row w' T_uint8 1 p' l' c' (bcells (lns false bs)) → fresh w p' → Chg No w w' → J p' l' c' w') : callJ Tryd.prog fn_ref01_Lines #[.slice p l c] w [.one .slice] J := by
  refine c_ref01_Lines ?_
  unfold VC_ref01_Lines
  have hbl := h.len
  refine (Hp.start w No).newB fun b5 w1 H1 hb5 hc1 => ?_
  have hrow : Row w1 T_uint8 1 (some ⟨b5, 0, none⟩) 0 0 (bcells []) := H1.asRow 0 rfl (rest := []) rfl (by simp [bcells]) (Nat.zero_le _) (by decide) (by simp)
  refine ⟨fun q m d x w' t => ∃ (i : Nat) (out : List UInt8), x = i ∧ i ≤ l ∧ t = l - i ∧ Row w' T_uint8 1 q m d (bcells out) ∧ fresh w q ∧ Chg No w w' ∧ out ++ lns (prv bs i) (bs.drop i) = lns false bs ∧ m ≤ i,
    ⟨_, 0, [], rfl, Nat.zero_le _, rfl, hrow, by rintro a ⟨⟩; exact hb5, hc1, rfl, Nat.le_refl _⟩, ?_⟩
  rintro q m d x w2 t ⟨i, out, rfl, hi, rfl, hr, hf, hc, hout, hmi⟩
  refine condB_d (fun hlt => ?_) (fun hge => ?_)
  · refine withJ_i fun J3 hJ3 => ?_
    have hB := h.chg hc (off_no _)
    refine byte_i hB (by omega) hlt fun b hb => ?_
    rw [Int.toNat_natCast] at hb
    have hstep := lns_at hb
    have k3 : ∀ q' m' d' w3 ch, ch = chunk b (prv bs i) → Row w3 T_uint8 1 q' m' d' (bcells (out ++ ch)) → fresh w q' → Chg No w w3 → m' ≤ i + 1 → J3 q' m' d' w3 := by
      intro q' m' d' w3 ch e hr' hf' hc' hm'; subst hJ3
      exact ⟨l - (i + 1), by omega, i + 1, out ++ ch, by rw [w64_of] <;> omega, by omega, rfl, hr', hf', hc', by rw [e, List.append_assoc, ← hstep]; exact hout, hm'⟩
    clear hJ3
    refine condB_eq (fun h13 => ?_) (fun h13 => ?_)
    · have h13 : b = 13 := UInt8.toNat_inj.1 (Int.ofNat_inj.1 h13)
      exact app1 (b := 10) hr rfl (by omega) hf hc fun q' d' w3 hr' hf' hc' => k3 _ _ _ _ [10] (by unfold chunk; rw [if_pos h13]) hr' hf' hc' (by omega)
    have h13 : b ≠ 13 := fun e => h13 (by rw [e]; rfl)
    refine withJ_i fun J36 hJ36 => ?_
    have k36 : ∀ x, (x = true ↔ ¬ (b = 10 ∧ prv bs i = true)) → J36 x w2 := by
      intro x hx; subst hJ36
      refine meetI hx (fun hn => ?_) (fun hh => ?_)
      · refine byte_i hB (by omega) hlt fun b' hb' => ?_
        rw [Int.toNat_natCast, hb] at hb'
        cases hb'
        exact app1 hr rfl (by omega) hf hc fun q' d' w3 hr' hf' hc' => k3 _ _ _ _ [b] (by unfold chunk; rw [if_neg h13, if_neg hn]) hr' hf' hc' (by omega)
      · have hh := Decidable.not_not.1 hh
        exact k3 _ _ _ _ [] (by unfold chunk; rw [if_neg h13, if_pos hh]) (by rw [List.append_nil]; exact hr) hf hc (by omega)
    clear hJ36
    refine byte_i hB (by omega) hlt fun b' hb' => ?_
    rw [Int.toNat_natCast, hb] at hb'
    cases hb'
    refine condB_ne (fun h10 => k36 _ (bT fun hh => h10 (by rw [hh.1]; rfl))) (fun h10 => ?_)
    have h10 : b = 10 := UInt8.toNat_inj.1 (Int.ofNat_inj.1 h10)
    refine condB_eq (fun h0 => k36 _ (bT fun hh => ?_)) (fun h0 => ?_)
    · have := of_decide_eq_true hh.2
      omega
    · rw [w64_of (by omega) (by omega)]
      refine byte_i hB (by omega) (by omega) fun b' hb' => ?_
      rw [show ((i : Int) - 1).toNat = i - 1 by omega] at hb'
      refine k36 _ ?_
      unfold prv
      rw [hb', decide_eq_true_eq, bne_iff_ne]
      exact ⟨fun e hh => e (by cases hh.2.2; rfl), fun e h' => e ⟨h10, by omega, by rw [show b' = 13 from UInt8.toNat_inj.1 (Int.ofNat_inj.1 h')]⟩⟩
  · have : i = bs.length := by omega
    rw [this, List.drop_of_length_le (Nat.le_refl _)] at hout
    have e : lns (prv bs bs.length) [] = [] := rfl
    rw [e, List.append_nil] at hout
    subst hout
    exact K _ _ _ _ hr hf hc
end

end Go.Proofs.YtpcoekemdgmicaaDoor

