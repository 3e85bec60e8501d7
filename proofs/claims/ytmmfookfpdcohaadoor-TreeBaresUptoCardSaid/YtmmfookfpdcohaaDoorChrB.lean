/-
  Chapter 1: Read, Next, Fault.
-/
import Derived.Test.YtmmfookfpdcohaaDoorChr
import Derived.Test.YtmmfookfpdcohaaDoorByt
namespace Go.Vc
open Go
/-- The value after so many bytes more. -/
def runV (g : Nat → Nat) (base : Nat) : Nat → Nat
  | 0 => g 0 - base
  | k + 1 => 64 * runV g base k + (g (k + 1) - 128)
theorem runV_succ (g : Nat → Nat) (base k : Nat) : runV g base (k + 1) = 64 * runV g base k + (g (k + 1) - 128) := rfl
theorem runV_zero (g : Nat → Nat) (base : Nat) : runV g base 0 = g 0 - base := rfl
theorem rv1 (g : Nat → Nat) (base : Nat) : runV g base 1 = 64 * (g 0 - base) + (g 1 - 128) := by rw [runV_succ, runV_zero]
theorem rv2 (g : Nat → Nat) (base : Nat) : runV g base 2 = 64 * (64 * (g 0 - base) + (g 1 - 128)) + (g 2 - 128) := by rw [runV_succ, rv1]
theorem rv3 (g : Nat → Nat) (base : Nat) : runV g base 3 = 64 * (64 * (64 * (g 0 - base) + (g 1 - 128)) + (g 2 - 128)) + (g 3 - 128) := by rw [runV_succ, rv2]
theorem runV_le (g : Nat → Nat) (base : Nat) (h : ∀ j, g j < 256) (k : Nat) : runV g base k + 3 ≤ 300 * 64 ^ k := by
  induction k with
  | zero =>
    have h0 := h 0
    have e : runV g base 0 = g 0 - base := rfl
    rw [e]
    generalize g 0 = x at *
    have : 300 * 64 ^ 0 = 300 := rfl
    omega
  | succ k ih =>
    have h1 := h (k + 1)
    have e : 64 ^ (k + 1) = 64 ^ k * 64 := Nat.pow_succ _ _
    rw [e, runV_succ]
    generalize 64 ^ k = q at *
    omega
/-- What 'Next' answers. -/
def nxt (bs : List UInt8) (at_ : Int) : Int × Int × Int :=
  if at_ < 0 ∨ (bs.length : Int) ≤ at_ then (0, 0, 1) else if (rd (bs.drop at_.toNat)).2 = 0 then (0, 0, 20)
  else if chr (rd (bs.drop at_.toNat)).1 = false then (0, 0, 21) else ((rd (bs.drop at_.toNat)).1, at_ + (rd (bs.drop at_.toNat)).2, 0)
set_option maxRecDepth 100000 in
theorem rd_form {D : List UInt8} {n base least : Nat}
    (h : (n = 2 ∧ base = 192 ∧ least = 128 ∧ 192 ≤ gB D 0 ∧ gB D 0 < 224) ∨ (n = 3 ∧ base = 224 ∧ least = 2048 ∧ 224 ≤ gB D 0 ∧ gB D 0 < 240) ∨ (n = 4 ∧ base = 240 ∧ least = 65536 ∧ 240 ≤ gB D 0 ∧ gB D 0 < 248)) :
    (n ≤ D.length ∧ (∀ j, 1 ≤ j → j < n → 128 ≤ gB D j ∧ gB D j ≤ 191) ∧ least ≤ runV (gB D) base (n - 1) ∧ runV (gB D) base (n - 1) ≤ 1114111 ∧ ¬ (55296 ≤ runV (gB D) base (n - 1) ∧ runV (gB D) base (n - 1) ≤ 57343) ∧ rd D = (runV (gB D) base (n - 1), n))
    ∨ (¬ (n ≤ D.length ∧ (∀ j, 1 ≤ j → j < n → 128 ≤ gB D j ∧ gB D j ≤ 191) ∧ least ≤ runV (gB D) base (n - 1) ∧ runV (gB D) base (n - 1) ≤ 1114111 ∧ ¬ (55296 ≤ runV (gB D) base (n - 1) ∧ runV (gB D) base (n - 1) ≤ 57343)) ∧ rd D = (0, 0)) := by
  have l1 := gB_lt D 1; have l2 := gB_lt D 2; have l3 := gB_lt D 3
  have key : ∀ (n' b' l' : Nat), n = n' → base = b' → least = l' → (n' ≤ D.length ∧ (∀ j, 1 ≤ j → j < n' → 128 ≤ gB D j ∧ gB D j ≤ 191) ∧ l' ≤ runV (gB D) b' (n' - 1) ∧ runV (gB D) b' (n' - 1) ≤ 1114111 ∧ ¬ (55296 ≤ runV (gB D) b' (n' - 1) ∧ runV (gB D) b' (n' - 1) ≤ 57343) ∧ rd D = (runV (gB D) b' (n' - 1), n'))
    ∨ (¬ (n' ≤ D.length ∧ (∀ j, 1 ≤ j → j < n' → 128 ≤ gB D j ∧ gB D j ≤ 191) ∧ l' ≤ runV (gB D) b' (n' - 1) ∧ runV (gB D) b' (n' - 1) ≤ 1114111 ∧ ¬ (55296 ≤ runV (gB D) b' (n' - 1) ∧ runV (gB D) b' (n' - 1) ≤ 57343)) ∧ rd D = (0, 0)) →
    (n ≤ D.length ∧ (∀ j, 1 ≤ j → j < n → 128 ≤ gB D j ∧ gB D j ≤ 191) ∧ least ≤ runV (gB D) base (n - 1) ∧ runV (gB D) base (n - 1) ≤ 1114111 ∧ ¬ (55296 ≤ runV (gB D) base (n - 1) ∧ runV (gB D) base (n - 1) ≤ 57343) ∧ rd D = (runV (gB D) base (n - 1), n))
    ∨ (¬ (n ≤ D.length ∧ (∀ j, 1 ≤ j → j < n → 128 ≤ gB D j ∧ gB D j ≤ 191) ∧ least ≤ runV (gB D) base (n - 1) ∧ runV (gB D) base (n - 1) ≤ 1114111 ∧ ¬ (55296 ≤ runV (gB D) base (n - 1) ∧ runV (gB D) base (n - 1) ≤ 57343)) ∧ rd D = (0, 0)) := by
    intro n' b' l' e1 e2 e3 hh; subst e1 e2 e3; exact hh
  refine h.elim (fun h => key _ _ _ h.1 h.2.1 h.2.2.1 ?_) (fun h => h.elim (fun h => key _ _ _ h.1 h.2.1 h.2.2.1 ?_) (fun h => key _ _ _ h.1 h.2.1 h.2.2.1 ?_)) <;> clear key <;> have h1 := h.2.2.2.1 <;> have h2 := h.2.2.2.2 <;> clear h
  · have e : (∀ j, 1 ≤ j → j < 2 → 128 ≤ gB D j ∧ gB D j ≤ 191) ↔ (128 ≤ gB D 1 ∧ gB D 1 ≤ 191) := ⟨fun h => h 1 (by omega) (by omega), fun h j a b => by rw [show j = 1 by omega]; exact h⟩
    rw [e, show 2 - 1 = 1 from rfl, rv1]
    unfold rd rdN
    rw [if_neg (by omega), if_neg (by omega), if_pos h2]
    obtain ⟨v, hv⟩ : ∃ v, 64 * (gB D 0 - 192) + (gB D 1 - 128) = v := ⟨_, rfl⟩
    rw [hv]
    split
    · left; refine ⟨?_, ?_, ?_, ?_, ?_, rfl⟩ <;> omega
    · right; refine ⟨?_, rfl⟩; omega
  · have e : (∀ j, 1 ≤ j → j < 3 → 128 ≤ gB D j ∧ gB D j ≤ 191) ↔ ((128 ≤ gB D 1 ∧ gB D 1 ≤ 191) ∧ (128 ≤ gB D 2 ∧ gB D 2 ≤ 191)) :=
      ⟨fun h => ⟨h 1 (by omega) (by omega), h 2 (by omega) (by omega)⟩, fun h j a b => by
        have : j = 1 ∨ j = 2 := by omega
        rcases this with rfl | rfl
        · exact h.1
        · exact h.2⟩
    rw [e, show 3 - 1 = 2 from rfl, rv2]
    unfold rd rdN
    rw [if_neg (by omega), if_neg (by omega), if_neg (by omega), if_pos h2]
    obtain ⟨v, hv⟩ : ∃ v, 64 * (64 * (gB D 0 - 224) + (gB D 1 - 128)) + (gB D 2 - 128) = v := ⟨_, rfl⟩
    rw [hv]
    split
    · left; refine ⟨?_, ?_, ?_, ?_, ?_, rfl⟩ <;> omega
    · right; refine ⟨?_, rfl⟩; omega
  · have e : (∀ j, 1 ≤ j → j < 4 → 128 ≤ gB D j ∧ gB D j ≤ 191) ↔ ((128 ≤ gB D 1 ∧ gB D 1 ≤ 191) ∧ (128 ≤ gB D 2 ∧ gB D 2 ≤ 191) ∧ (128 ≤ gB D 3 ∧ gB D 3 ≤ 191)) :=
      ⟨fun h => ⟨h 1 (by omega) (by omega), h 2 (by omega) (by omega), h 3 (by omega) (by omega)⟩, fun h j a b => by
        have : j = 1 ∨ j = 2 ∨ j = 3 := by omega
        rcases this with rfl | rfl | rfl
        · exact h.1
        · exact h.2.1
        · exact h.2.2⟩
    rw [e, show 4 - 1 = 3 from rfl, rv3]
    unfold rd rdN
    rw [if_neg (by omega), if_neg (by omega), if_neg (by omega), if_neg (by omega), if_pos h2]
    obtain ⟨v, hv⟩ : ∃ v, 64 * (64 * (64 * (gB D 0 - 240) + (gB D 1 - 128)) + (gB D 2 - 128)) + (gB D 3 - 128) = v := ⟨_, rfl⟩
    rw [hv]
    split
    · left; refine ⟨?_, ?_, ?_, ?_, ?_, rfl⟩ <;> omega
    · right; refine ⟨?_, rfl⟩; omega
end Go.Vc
namespace Go.Proofs.YtmmfookfpdcohaaDoor
open Go Go.Vc Go.Lib

section
variable {w : World}

theorem Next_ok {p : Option Addr} {l c : Nat} {at_ : Int} {bs : List UInt8} {J : Int → Int → Int → World → Prop} (h : Bytes w p l bs) (hlc : l ≤ c) (hm : l ≤ 140737488355328) (T : Tabs w)
    (K : ∀ w', Chg No w w' → J (nxt bs at_).1 (nxt bs at_).2.1 (nxt bs at_).2.2 w') : callJ Tryd.prog fn_char_Next #[.slice p l c, .int .i64 at_] w [.one (.int .i32), .one (.int .i64), .one (.int .i64)] J := by
  refine c_char_Next ?_
  unfold VC_char_Next
  have hbl := h.len
  refine withJ_i fun J16 hJ16 => ?_
  have k16 : ∀ b, (b = true ↔ (at_ < 0 ∨ (bs.length : Int) ≤ at_)) → J16 b w := by
    intro b hb; subst hJ16
    refine meetI hb (fun hh => ?_) (fun hin => ?_)
    · have := K w (Chg.refl _ _); unfold nxt at this; simp only [if_pos hh] at this; exact this
    unfold nxt at K
    simp only [if_neg hin] at K
    obtain ⟨i, rfl⟩ : ∃ i : Nat, at_ = i := ⟨at_.toNat, by omega⟩
    simp only [Int.toNat_natCast] at K
    refine cutB h (i := i) (j := l) (by omega) (Nat.le_refl _) hlc rfl rfl fun q' hq hq0 => ?_
    rw [List.take_of_length_le (by rw [List.length_drop]; omega)] at hq
    refine DecodeRune_ok hq (by omega) T fun w2 hc2 => ?_
    have hne : bs.drop i ≠ [] := by intro e; have := congrArg List.length e; rw [List.length_drop] at this; simp at this; omega
    have h4 := rd_four (bs.drop i)
    generalize bs.drop i = D at *
    by_cases hk : (rd D).2 = 0
    · have hd : dec D = (65533, 1) := by rw [dec_rd, if_pos hk]
      have K' := K w2 hc2
      rw [if_pos hk] at K'
      rw [hd]
      refine withJ_i fun J24 hJ24 => ?_
      have go : J24 true w2 := by subst hJ24; exact K'
      exact go
    · rw [dec_of_rd hk]
      refine withJ_i fun J24 hJ24 => ?_
      have hnf : J24 false w2 := by
        subst hJ24
        refine IsChar_ok fun w4 hc4 => ?_
        have K' := K w4 (hc2.trans0 hc4)
        rw [if_neg hk] at K'
        refine condB_not (fun he => ?_) (fun he => ?_)
        · rw [if_pos he] at K'; exact K'
        · rw [if_neg (by rw [he]; simp)] at K'
          simp only at K'
          rw [w64_of (by omega) (by omega)]
          exact K'
      clear hJ24
      refine condB_eq (fun he => ?_) (fun _ => hnf)
      have := rd_fffd D (by omega)
      rw [decide_eq_false (by omega)]; exact hnf
  clear hJ16
  exact condB_d (fun hh => k16 _ (bT (by omega))) (fun hh => k16 _ (bD (by omega)))

theorem FaultC_ok {p : Option Addr} {l c : Nat} {bs : List UInt8} {J : Int → Int → World → Prop} (h : Bytes w p l bs) (hlc : l ≤ c) (hm : l ≤ 140737488355328) (T : Tabs w)
    (K : ∀ w', Chg No w w' → J ((flt 0 bs).1 : Int) ((flt 0 bs).2 : Int) w') : callJ Tryd.prog fn_char_Fault #[.slice p l c] w [.one (.int .i64), .one (.int .i64)] J := by
  refine c_char_Fault ?_
  unfold VC_char_Fault
  have hbl := h.len
  refine ⟨fun x w' m => ∃ i : Nat, x = i ∧ i ≤ l ∧ m = l - i ∧ Chg No w w' ∧ flt i (bs.drop i) = flt 0 bs, ⟨_, 0, rfl, Nat.zero_le _, rfl, Chg.refl _ _, rfl⟩, ?_⟩
  rintro x w' m ⟨i, rfl, hi, rfl, hc, he⟩
  refine condB_d (fun hlt => ?_) (fun hlt => ?_)
  · refine Next_ok (h.chg hc (off_no _)) hlc hm (T.chg hc) fun w2 hc2 => ?_
    have hcc := hc.trans0 hc2
    have hne : bs.drop i ≠ [] := by intro e; have := congrArg List.length e; rw [List.length_drop] at this; simp at this; omega
    have hle := rd_le _ hne
    rw [List.length_drop, hbl] at hle
    have en : ¬ ((i : Int) < 0 ∨ (bs.length : Int) ≤ (i : Int)) := by omega
    unfold nxt
    simp only [if_neg en, Int.toNat_natCast]
    by_cases hk : (rd (bs.drop i)).2 = 0
    · rw [if_pos hk]
      have e := flt_utf (i := i) hne hk
      rw [← he, e] at K
      exact K _ hcc
    rw [if_neg hk]
    cases hch : chr (rd (bs.drop i)).1 with
    | false =>
      rw [if_pos rfl]
      have e := flt_chr (i := i) hne hk hch
      rw [← he, e] at K
      exact K _ hcc
    | true =>
      rw [if_neg (by simp)]
      refine ⟨l - (i + (rd (bs.drop i)).2), by omega, i + (rd (bs.drop i)).2, by simp, by omega, rfl, hcc, ?_⟩
      rw [← he, flt_step hne hk hch, List.drop_drop]
  · have : i = l := by omega
    subst this
    rw [List.drop_of_length_le (by omega), flt_nil] at he
    rw [← he] at K
    exact K _ hc

end

end Go.Proofs.YtmmfookfpdcohaaDoor

