/-
  Chapter 1, plain: what Go lays for a char, faults and line ends of two texts, names with a part behind.
-/
import Derived.Test.YtmmfookfpdcohaaDoorU8F
import Derived.Test.YtmmfookfpdcohaaDoorChrD
set_option linter.unusedVariables false
set_option linter.unusedSimpArgs false
namespace Go.Vc
open Go Go.Lib

/-! ## What Go lays for a char -/
def encL (c : Nat) : List UInt8 :=
  if c < 128 then [UInt8.ofNat c]
  else if c < 2048 then [UInt8.ofNat (192 + c / 64), UInt8.ofNat (128 + c % 64)]
  else if c < 65536 then [UInt8.ofNat (224 + c / 4096), UInt8.ofNat (128 + c / 64 % 64), UInt8.ofNat (128 + c % 64)]
  else [UInt8.ofNat (240 + c / 262144), UInt8.ofNat (128 + c / 4096 % 64), UInt8.ofNat (128 + c / 64 % 64), UInt8.ofNat (128 + c % 64)]
theorem bl_encode (r : Int) : bl (Utf8.encode r) = encL (if Utf8.valid r then r.toNat else 65533) := by
  unfold Utf8.encode encL Utf8.runeError
  simp only
  repeat' split
  all_goals first | rfl | (exfalso; omega)
theorem encL_len (c : Nat) : 1 ≤ (encL c).length ∧ (encL c).length ≤ 4 := by
  unfold encL
  repeat' split
  all_goals simp
theorem toNat_of {n : Nat} (h : n < 256) : (UInt8.ofNat n).toNat = n := by simp [UInt8.toNat_ofNat']; omega
theorem gB_cons0 (b : UInt8) (r : List UInt8) : gB (b :: r) 0 = b.toNat := rfl
theorem gB_cons1 (a b : UInt8) (r : List UInt8) : gB (a :: b :: r) 1 = b.toNat := rfl
theorem gB_cons2 (a b c : UInt8) (r : List UInt8) : gB (a :: b :: c :: r) 2 = c.toNat := rfl
theorem gB_cons3 (a b c d : UInt8) (r : List UInt8) : gB (a :: b :: c :: d :: r) 3 = d.toNat := rfl
theorem rd_enc (c : Nat) (hv : c < 55296 ∨ (57344 ≤ c ∧ c ≤ 1114111)) (rest : List UInt8) : rd (encL c ++ rest) = (c, (encL c).length) := by
  unfold encL
  by_cases h1 : c < 128
  · rw [if_pos h1]
    have e := rd_ascii_cons (UInt8.ofNat c) rest (by rw [toNat_of (by omega)]; exact h1)
    rw [toNat_of (by omega)] at e
    exact e
  rw [if_neg h1]
  by_cases h2 : c < 2048
  · rw [if_pos h2]
    unfold rd
    simp only [List.cons_append, List.nil_append, gB_cons0, gB_cons1, List.length_cons, List.length_nil]
    rw [toNat_of (by omega), toNat_of (by omega)]
    unfold rdN
    rw [if_neg (by omega), if_neg (by omega), if_pos (by omega), if_pos (by refine ⟨?_, ?_, ?_⟩ <;> omega)]
    exact Prod.ext (by show (_ : Nat) = _; omega) rfl
  rw [if_neg h2]
  by_cases h3 : c < 65536
  · rw [if_pos h3]
    unfold rd
    simp only [List.cons_append, List.nil_append, gB_cons0, gB_cons1, gB_cons2, List.length_cons, List.length_nil]
    rw [toNat_of (by omega), toNat_of (by omega), toNat_of (by omega)]
    unfold rdN
    rw [if_neg (by omega), if_neg (by omega), if_neg (by omega), if_pos (by omega), if_pos (by refine ⟨?_, ?_, ?_, ?_, ?_⟩ <;> omega)]
    exact Prod.ext (by show (_ : Nat) = _; omega) rfl
  rw [if_neg h3]
  unfold rd
  simp only [List.cons_append, List.nil_append, gB_cons0, gB_cons1, gB_cons2, gB_cons3, List.length_cons, List.length_nil]
  rw [toNat_of (by omega), toNat_of (by omega), toNat_of (by omega), toNat_of (by omega)]
  unfold rdN
  rw [if_neg (by omega), if_neg (by omega), if_neg (by omega), if_neg (by omega), if_pos (by omega), if_pos (by refine ⟨?_, ?_, ?_, ?_, ?_, ?_⟩ <;> omega)]
  exact Prod.ext (by show (_ : Nat) = _; omega) rfl
theorem valid_iff (r : Int) : Utf8.valid r = true ↔ (0 ≤ r ∧ r < 55296) ∨ (57344 ≤ r ∧ r ≤ 1114111) := by
  unfold Utf8.valid
  simp only [Bool.or_eq_true, Bool.and_eq_true, decide_eq_true_eq]

/-! ## Faults of two texts -/
theorem flt_shift : ∀ (bs : List UInt8) (s : Nat), ((flt s bs).2 = 0 ∧ flt s bs = (0, 0) ∧ flt 0 bs = (0, 0)) ∨ ((flt s bs).2 ≠ 0 ∧ flt s bs = (s + (flt 0 bs).1, (flt 0 bs).2)) := by
  refine rd_ind ?_ ?_ ?_
  · intro s; left; simp [flt_nil]
  · intro bs h hk s; right; simp [flt_utf h hk]
  · intro bs h hk ih s
    cases hc : chr (rd bs).1 with
    | false => right; simp [flt_chr h hk hc]
    | true =>
      rw [flt_step h hk hc, flt_step (i := 0) h hk hc]
      have h1 := ih (s + (rd bs).2)
      have h2 := ih (0 + (rd bs).2)
      rcases h1 with ⟨a1, a2, a3⟩ | ⟨a1, a2⟩
      · rcases h2 with ⟨b1, b2, b3⟩ | ⟨b1, b2⟩
        · left; exact ⟨a1, a2, b2⟩
        · rw [b2, a3] at b1; simp at b1
      · rcases h2 with ⟨b1, b2, b3⟩ | ⟨b1, b2⟩
        · rw [a2, b3] at a1; simp at a1
        · right
          rw [a2, b2]
          refine ⟨by rw [a2] at a1; exact a1, ?_⟩
          simp only [Prod.mk.injEq, and_true]; omega
theorem flt_ge (bs : List UInt8) (s : Nat) (h : (flt s bs).2 ≠ 0) : s ≤ (flt s bs).1 := by
  rcases flt_shift bs s with ⟨a, _⟩ | ⟨_, e⟩
  · exact absurd a h
  · rw [e]; simp
theorem flt_len : ∀ (bs : List UInt8) (s : Nat), (flt s bs).1 ≤ s + bs.length := by
  refine rd_ind ?_ ?_ ?_
  · intro s; rw [flt_nil]; simp
  · intro bs h hk s; rw [flt_utf h hk]; simp
  · intro bs h hk ih s
    cases hc : chr (rd bs).1 with
    | false => rw [flt_chr h hk hc]; simp
    | true =>
      rw [flt_step h hk hc]
      have h1 := ih (s + (rd bs).2)
      have h2 := rd_le bs h
      rw [List.length_drop] at h1
      omega
theorem drop_append_rd (xs bs : List UInt8) (h : (rd xs).2 ≤ xs.length) : (xs ++ bs).drop (rd xs).2 = xs.drop (rd xs).2 ++ bs := List.drop_append_of_le_length h
theorem flt_join (bs : List UInt8) : ∀ (xs : List UInt8) (s : Nat), ((flt s xs).2 = 21 ∧ flt s (xs ++ bs) = flt s xs) ∨ ((flt s xs).2 = 20 ∧ ((flt s (xs ++ bs)).2 = 0 ∨ (flt s xs).1 ≤ (flt s (xs ++ bs)).1)) ∨ (flt s xs = (0, 0) ∧ flt s (xs ++ bs) = flt (s + xs.length) bs) := by
  refine rd_ind ?_ ?_ ?_
  · intro s; right; right; simp [flt_nil]
  · intro xs h hk s
    right; left
    rw [flt_utf h hk]
    refine ⟨rfl, ?_⟩
    by_cases h0 : (flt s (xs ++ bs)).2 = 0
    · exact .inl h0
    · exact .inr (flt_ge _ _ h0)
  · intro xs h hk ih s
    have hle := rd_le xs h
    have e := rd_append xs bs hk h
    have hne : xs ++ bs ≠ [] := by simp [h]
    cases hc : chr (rd xs).1 with
    | false =>
      left
      rw [flt_chr h hk hc, flt_chr hne (by rw [e]; exact hk) (by rw [e]; exact hc)]
      exact ⟨rfl, rfl⟩
    | true =>
      rw [flt_step h hk hc, flt_step hne (by rw [e]; exact hk) (by rw [e]; exact hc), e, drop_append_rd _ _ hle]
      have := ih (s + (rd xs).2)
      rw [List.length_drop, show s + (rd xs).2 + (xs.length - (rd xs).2) = s + xs.length by omega] at this
      exact this

/-! ## Line ends of two texts -/
theorem lns_no13 : ∀ (p : Bool) (bs : List UInt8), (13 : UInt8) ∉ lns p bs
  | _, [] => by simp [lns]
  | p, b :: r => by
    rw [lns_cons, List.mem_append, not_or]
    refine ⟨?_, lns_no13 _ r⟩
    unfold chunk
    split
    · decide
    · next h =>
      split
      · simp
      · simp [Ne.symm h]
theorem lns_same : ∀ (bs : List UInt8), (13 : UInt8) ∉ bs → lns false bs = bs
  | [], _ => rfl
  | b :: r, h => by
    simp only [List.mem_cons, not_or] at h
    rw [lns_cons, show decide (b = 13) = false from decide_eq_false (Ne.symm h.1), lns_same r h.2]
    unfold chunk
    rw [if_neg (Ne.symm h.1), if_neg (by simp)]; rfl
theorem lns_half : ∀ (p : Bool) (bs : List UInt8), bs.length ≤ 2 * (lns p bs).length + (if p then 1 else 0)
  | _, [] => by simp
  | p, b :: r => by
    rw [lns_cons, List.length_append, List.length_cons]
    have ih := lns_half (decide (b = 13)) r
    unfold chunk
    by_cases h : b = 13
    · rw [if_pos h]
      simp only [h, decide_true, if_true] at ih ⊢
      simp only [List.length_cons, List.length_nil]
      omega
    · rw [if_neg h]
      simp only [h, decide_false] at ih ⊢
      by_cases h2 : b = 10 ∧ p = true
      · rw [if_pos h2, h2.2]
        simp at ih ⊢; omega
      · rw [if_neg h2]
        simp at ih ⊢; omega
theorem lns_append (bs : List UInt8) : ∀ (p : Bool) (xs : List UInt8), lns p (xs ++ bs) = lns p xs ++ lns (match xs.getLast? with | some b => decide (b = 13) | none => p) bs
  | p, [] => by simp [lns]
  | p, b :: r => by
    rw [List.cons_append, lns_cons, lns_cons, lns_append bs (decide (b = 13)) r, List.append_assoc]
    congr 3
    cases hr : r with
    | nil => simp
    | cons c r' =>
      have : (b :: c :: r').getLast? = (c :: r').getLast? := List.getLast?_cons_cons
      rw [this]
      cases hl : (c :: r').getLast? with
      | none => simp at hl
      | some x => rfl
theorem lns_head {bs : List UInt8} (h : bs[0]? ≠ some 10) : lns true bs = lns false bs := by
  cases bs with
  | nil => rfl
  | cons b r =>
    have hb : b ≠ 10 := fun e => h (by rw [e]; rfl)
    rw [lns_cons, lns_cons]
    unfold chunk
    simp [hb]
theorem lns_joins {xs bs : List UInt8} (h : ¬ (xs[xs.length - 1]? = some 13 ∧ bs[0]? = some 10)) : lns false (xs ++ bs) = lns false xs ++ lns false bs := by
  rw [lns_append]
  congr 1
  rw [List.getLast?_eq_getElem?]
  cases hl : xs[xs.length - 1]? with
  | none => rfl
  | some x =>
    simp only
    by_cases hx : x = 13
    · subst hx
      rw [decide_eq_true rfl]
      exact lns_head fun e => h ⟨hl, e⟩
    · rw [decide_eq_false hx]

/-! ## Names with something behind -/
theorem prt_append (bs : List UInt8) : ∀ (xs : List UInt8), prt xs = true → prt (xs ++ bs) = prt bs := by
  refine rd_ind ?_ ?_ ?_
  · intro _; rfl
  · intro xs h hk hp; rw [prt_bad h hk] at hp; cases hp
  · intro xs h hk ih hp
    have e := rd_append xs bs hk h
    rw [prt_step h hk, Bool.and_eq_true] at hp
    rw [prt_step (by simp [h]) (by rw [e]; exact hk), e, hp.1, Bool.true_and, drop_append_rd _ _ (rd_le xs h)]
    exact ih hp.2
theorem nm_append {xs : List UInt8} {r : Int} (h : nm xs = true) (hp : isPt r = true) : nm (xs ++ bl (Utf8.encode r)) = decide ((xs ++ bl (Utf8.encode r)).length ≤ 100) := by
  simp only [nm, Bool.and_eq_true, decide_eq_true_eq] at h
  obtain ⟨⟨⟨h1, h2⟩, h3⟩, h4⟩ := h
  have hk : (rd xs).2 ≠ 0 := fun hk => by rw [prt_bad h1 hk] at h4; cases h4
  have hv : Utf8.valid r = true := by
    rw [valid_iff]
    have := of_decide_eq_true hp
    unfold Prt Sta Pr2 at this
    omega
  have hvi := (valid_iff r).1 hv
  rw [bl_encode, hv, if_pos rfl]
  have e1 : rd (encL r.toNat ++ []) = (r.toNat, (encL r.toNat).length) := rd_enc _ (by omega) []
  rw [List.append_nil] at e1
  have hl := encL_len r.toNat
  have e2 : prt (encL r.toNat) = true := by
    rw [prt_step (by intro e; rw [e] at hl; simp at hl) (by rw [e1]; simp only; omega), e1]
    simp only
    rw [show ((r.toNat : Nat) : Int) = r by omega, hp, List.drop_of_length_le (Nat.le_refl _), prt_nil]; rfl
  unfold nm
  rw [rd_append xs _ hk h1, prt_append _ xs h4, e2, h3, decide_eq_true (show xs ++ encL r.toNat ≠ [] by simp [h1])]
  simp
theorem spl_colon (p l : List UInt8) : spl (p ++ [58] ++ l) = if nm p && nm l then (p, l, true) else ([], [], false) := by
  unfold spl
  rw [List.append_assoc]
  cases hc : colon (p ++ ([58] ++ l)) with
  | none =>
    have := colon_none.1 hc
    simp at this
  | some i =>
    simp only
    obtain ⟨h1, h2⟩ := colon_some.1 hc
    have hi := (List.getElem?_eq_some_iff.1 h1).1
    by_cases hp : (58 : UInt8) ∈ p
    · have hil : i < p.length := by
        rcases Nat.lt_or_ge i p.length with h | h
        · exact h
        · exfalso; apply h2
          rw [List.take_append]
          exact List.mem_append_left _ (by rw [List.take_of_length_le h]; exact hp)
      have e1 : nm p = false := by cases h : nm p with | false => rfl | true => exact absurd hp (nm_colon h)
      have e2 : nm ((p ++ ([58] ++ l)).drop (i + 1)) = false := by
        cases h : nm ((p ++ ([58] ++ l)).drop (i + 1)) with
        | false => rfl
        | true =>
          refine absurd ?_ (nm_colon h)
          rw [List.drop_append_of_le_length (by omega)]
          simp
      rw [e1, e2]; simp
    · have hil : i = p.length := by
        rcases Nat.lt_trichotomy i p.length with h | h | h
        · rw [List.getElem?_append_left h] at h1
          exact absurd (List.mem_of_getElem? h1) hp
        · exact h
        · exfalso; apply h2
          rw [List.take_append]
          refine List.mem_append_right _ ?_
          obtain ⟨k, hk⟩ : ∃ k, i - p.length = k + 1 := ⟨i - p.length - 1, by omega⟩
          rw [hk]; simp
      subst hil
      rw [List.take_left, List.drop_append, List.drop_of_length_le (by omega), show p.length + 1 - p.length = 1 by omega]
      simp
end Go.Vc

