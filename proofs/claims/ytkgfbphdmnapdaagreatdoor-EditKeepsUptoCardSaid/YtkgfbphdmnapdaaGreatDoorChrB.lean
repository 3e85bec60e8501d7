/-
  Chapter 1: Read, Next, Fault.
-/
import Derived.Test.YtkgfbphdmnapdaaGreatDoorChr
import Derived.Test.YtkgfbphdmnapdaaGreatDoorByt
import Derived.Test.YtkgfbphdmnapdaaGreatDoorU8V
import Derived.Test.YtkgfbphdmnapdaaGreatDoorVStr
import Derived.Lib.ConvBytes
import Derived.Lib.Bytealg
import Derived.Laws.Externs
import Derived.Test.YtkgfbphdmnapdaaGreatDoorRef01B
import Derived.Test.YtkgfbphdmnapdaaGreatDoorU8F
namespace Go.Vc
open Go
/-- The value after so many bytes more. -/
def runV (g : Nat → Nat) (base : Nat) : Nat → Nat
  | 0 => g 0 - base
  | k + 1 => 64 * runV g base k + (g (k + 1) - 128)
theorem runV_succ (g : Nat → Nat) (base k : Nat) : runV g base (k + 1) = 64 * runV g base k + (g (k + 1) - 128) := rfl
theorem runV_zero (g : Nat → Nat) (base : Nat) : runV g base 0 = g 0 - base := rfl
theorem rv1 (g : Nat → Nat) (base : Nat) : runV g base 1 = 64 * (g 0 - base) + (g 1 - 128) := by rw [runV_succ, runV_zero]
theorem rv2 (g : Nat → Nat) (base : Nat) : runV g base 2 = 64 * (64 * (g 0 - base) + (g 1 - 128)) + (g 2 - 128) := by rw [runV_succ, rv1]
theorem rv3 (g : Nat → Nat) (base : Nat) : runV g base 3 = 64 * (64 * (64 * (g 0 - base) + (g 1 - 128)) + (g 2 - 128)) + (g 3 - 128) := by rw [runV_succ, rv2]
theorem runV_le (g : Nat → Nat) (base : Nat) (h : ∀ j, g j < 256) (k : Nat) : runV g base k + 3 ≤ 300 * 64 ^ k := by
  induction k with
  | zero =>
    have h0 := h 0
    have e : runV g base 0 = g 0 - base := rfl
    rw [e]
    generalize g 0 = x at *
    have : 300 * 64 ^ 0 = 300 := rfl
    omega
  | succ k ih =>
    have h1 := h (k + 1)
    have e : 64 ^ (k + 1) = 64 ^ k * 64 := Nat.pow_succ _ _
    rw [e, runV_succ]
    generalize 64 ^ k = q at *
    omega
/-- What 'Next' answers. -/
def nxt (bs : List UInt8) (at_ : Int) : Int × Int × Int :=
  if at_ < 0 ∨ (bs.length : Int) ≤ at_ then (0, 0, 1) else if (rd (bs.drop at_.toNat)).2 = 0 then (0, 0, 20)
  else if chr (rd (bs.drop at_.toNat)).1 = false then (0, 0, 21) else ((rd (bs.drop at_.toNat)).1, at_ + (rd (bs.drop at_.toNat)).2, 0)
set_option maxRecDepth 100000 in
theorem rd_form {D : List UInt8} {n base least : Nat}
    (h : (n = 2 ∧ base = 192 ∧ least = 128 ∧ 192 ≤ gB D 0 ∧ gB D 0 < 224) ∨ (n = 3 ∧ base = 224 ∧ least = 2048 ∧ 224 ≤ gB D 0 ∧ gB D 0 < 240) ∨ (n = 4 ∧ base = 240 ∧ least = 65536 ∧ 240 ≤ gB D 0 ∧ gB D 0 < 248)) :
    (n ≤ D.length ∧ (∀ j, 1 ≤ j → j < n → 128 ≤ gB D j ∧ gB D j ≤ 191) ∧ least ≤ runV (gB D) base (n - 1) ∧ runV (gB D) base (n - 1) ≤ 1114111 ∧ ¬ (55296 ≤ runV (gB D) base (n - 1) ∧ runV (gB D) base (n - 1) ≤ 57343) ∧ rd D = (runV (gB D) base (n - 1), n))
    ∨ (¬ (n ≤ D.length ∧ (∀ j, 1 ≤ j → j < n → 128 ≤ gB D j ∧ gB D j ≤ 191) ∧ least ≤ runV (gB D) base (n - 1) ∧ runV (gB D) base (n - 1) ≤ 1114111 ∧ ¬ (55296 ≤ runV (gB D) base (n - 1) ∧ runV (gB D) base (n - 1) ≤ 57343)) ∧ rd D = (0, 0)) := by
  have l1 := gB_lt D 1; have l2 := gB_lt D 2; have l3 := gB_lt D 3
  have key : ∀ (n' b' l' : Nat), n = n' → base = b' → least = l' → (n' ≤ D.length ∧ (∀ j, 1 ≤ j → j < n' → 128 ≤ gB D j ∧ gB D j ≤ 191) ∧ l' ≤ runV (gB D) b' (n' - 1) ∧ runV (gB D) b' (n' - 1) ≤ 1114111 ∧ ¬ (55296 ≤ runV (gB D) b' (n' - 1) ∧ runV (gB D) b' (n' - 1) ≤ 57343) ∧ rd D = (runV (gB D) b' (n' - 1), n'))
    ∨ (¬ (n' ≤ D.length ∧ (∀ j, 1 ≤ j → j < n' → 128 ≤ gB D j ∧ gB D j ≤ 191) ∧ l' ≤ runV (gB D) b' (n' - 1) ∧ runV (gB D) b' (n' - 1) ≤ 1114111 ∧ ¬ (55296 ≤ runV (gB D) b' (n' - 1) ∧ runV (gB D) b' (n' - 1) ≤ 57343)) ∧ rd D = (0, 0)) →
    (n ≤ D.length ∧ (∀ j, 1 ≤ j → j < n → 128 ≤ gB D j ∧ gB D j ≤ 191) ∧ least ≤ runV (gB D) base (n - 1) ∧ runV (gB D) base (n - 1) ≤ 1114111 ∧ ¬ (55296 ≤ runV (gB D) base (n - 1) ∧ runV (gB D) base (n - 1) ≤ 57343) ∧ rd D = (runV (gB D) base (n - 1), n))
    ∨ (¬ (n ≤ D.length ∧ (∀ j, 1 ≤ j → j < n → 128 ≤ gB D j ∧ gB D j ≤ 191) ∧ least ≤ runV (gB D) base (n - 1) ∧ runV (gB D) base (n - 1) ≤ 1114111 ∧ ¬ (55296 ≤ runV (gB D) base (n - 1) ∧ runV (gB D) base (n - 1) ≤ 57343)) ∧ rd D = (0, 0)) := by
    intro n' b' l' e1 e2 e3 hh; subst e1 e2 e3; exact hh
  refine h.elim (fun h => key _ _ _ h.1 h.2.1 h.2.2.1 ?_) (fun h => h.elim (fun h => key _ _ _ h.1 h.2.1 h.2.2.1 ?_) (fun h => key _ _ _ h.1 h.2.1 h.2.2.1 ?_)) <;> clear key <;> have h1 := h.2.2.2.1 <;> have h2 := h.2.2.2.2 <;> clear h
  · have e : (∀ j, 1 ≤ j → j < 2 → 128 ≤ gB D j ∧ gB D j ≤ 191) ↔ (128 ≤ gB D 1 ∧ gB D 1 ≤ 191) := ⟨fun h => h 1 (by omega) (by omega), fun h j a b => by rw [show j = 1 by omega]; exact h⟩
    rw [e, show 2 - 1 = 1 from rfl, rv1]
    unfold rd rdN
    rw [if_neg (by omega), if_neg (by omega), if_pos h2]
    obtain ⟨v, hv⟩ : ∃ v, 64 * (gB D 0 - 192) + (gB D 1 - 128) = v := ⟨_, rfl⟩
    rw [hv]
    split
    · left; refine ⟨?_, ?_, ?_, ?_, ?_, rfl⟩ <;> omega
    · right; refine ⟨?_, rfl⟩; omega
  · have e : (∀ j, 1 ≤ j → j < 3 → 128 ≤ gB D j ∧ gB D j ≤ 191) ↔ ((128 ≤ gB D 1 ∧ gB D 1 ≤ 191) ∧ (128 ≤ gB D 2 ∧ gB D 2 ≤ 191)) :=
      ⟨fun h => ⟨h 1 (by omega) (by omega), h 2 (by omega) (by omega)⟩, fun h j a b => by
        have : j = 1 ∨ j = 2 := by omega
        rcases this with rfl | rfl
        · exact h.1
        · exact h.2⟩
    rw [e, show 3 - 1 = 2 from rfl, rv2]
    unfold rd rdN
    rw [if_neg (by omega), if_neg (by omega), if_neg (by omega), if_pos h2]
    obtain ⟨v, hv⟩ : ∃ v, 64 * (64 * (gB D 0 - 224) + (gB D 1 - 128)) + (gB D 2 - 128) = v := ⟨_, rfl⟩
    rw [hv]
    split
    · left; refine ⟨?_, ?_, ?_, ?_, ?_, rfl⟩ <;> omega
    · right; refine ⟨?_, rfl⟩; omega
  · have e : (∀ j, 1 ≤ j → j < 4 → 128 ≤ gB D j ∧ gB D j ≤ 191) ↔ ((128 ≤ gB D 1 ∧ gB D 1 ≤ 191) ∧ (128 ≤ gB D 2 ∧ gB D 2 ≤ 191) ∧ (128 ≤ gB D 3 ∧ gB D 3 ≤ 191)) :=
      ⟨fun h => ⟨h 1 (by omega) (by omega), h 2 (by omega) (by omega), h 3 (by omega) (by omega)⟩, fun h j a b => by
        have : j = 1 ∨ j = 2 ∨ j = 3 := by omega
        rcases this with rfl | rfl | rfl
        · exact h.1
        · exact h.2.1
        · exact h.2.2⟩
    rw [e, show 4 - 1 = 3 from rfl, rv3]
    unfold rd rdN
    rw [if_neg (by omega), if_neg (by omega), if_neg (by omega), if_neg (by omega), if_pos h2]
    obtain ⟨v, hv⟩ : ∃ v, 64 * (64 * (64 * (gB D 0 - 240) + (gB D 1 - 128)) + (gB D 2 - 128)) + (gB D 3 - 128) = v := ⟨_, rfl⟩
    rw [hv]
    split
    · left; refine ⟨?_, ?_, ?_, ?_, ?_, rfl⟩ <;> omega
    · right; refine ⟨?_, rfl⟩; omega
end Go.Vc
namespace Go.Proofs.YtkgfbphdmnapdaaGreatDoor
open Go Go.Vc Go.Lib

section
variable {w : World}

set_option maxRecDepth 100000 in
theorem Read_ok {p : Option Addr} {l c i0 : Nat} {bs : List UInt8} {J : Int → Int → World → Prop} (h : Bytes w p l bs) (hi0 : i0 < l) (hm : l ≤ 140737488355328)
    (K : J ((rd (bs.drop i0)).1 : Int) ((rd (bs.drop i0)).2 : Int) w) : callJ Tryz.prog fn_ref01_Read #[.slice p l c, .int .i64 (i0 : Int)] w [.one (.int .i64), .one (.int .i64)] J := by
  refine c_ref01_Read ?_
  unfold VC_ref01_Read
  have hbl := h.len
  have hD : (bs.drop i0).length = l - i0 := by rw [List.length_drop, hbl]
  have gat : ∀ (j : Nat) (b : UInt8), bs[i0 + j]? = some b → gB (bs.drop i0) j = b.toNat := fun j b hb => by rw [gB_drop]; exact gB_of hb
  generalize hDg : bs.drop i0 = D at *
  have lt := fun j => gB_lt D j
  refine byte_i h (by omega) (by omega) fun b0 hb0 => ?_
  rw [Int.toNat_natCast] at hb0
  rw [← gat 0 b0 hb0]
  have l0 := lt 0
  rw [w64_of (by omega) (by omega)]
  have K0 : rd D = (0, 0) → J 0 0 w := fun e => by rw [e] at K; exact K
  refine withJ_i fun J7 hJ7 => ?_
  have k7 : ∀ (n base least : Nat), ((n = 2 ∧ base = 192 ∧ least = 128 ∧ 192 ≤ gB D 0 ∧ gB D 0 < 224) ∨ (n = 3 ∧ base = 224 ∧ least = 2048 ∧ 224 ≤ gB D 0 ∧ gB D 0 < 240) ∨ (n = 4 ∧ base = 240 ∧ least = 65536 ∧ 240 ≤ gB D 0 ∧ gB D 0 < 248)) →
      J7 (n : Int) (w64 ((gB D 0 : Int) - base)) (least : Int) w := by
    intro n base least hcase
    have hf := rd_form hcase
    have hn : 2 ≤ n ∧ n ≤ 4 := by omega
    have hb : base ≤ gB D 0 := by omega
    have hbig : least ≤ 65536 := by omega
    clear hcase
    subst hJ7
    dsimp only
    rw [w64_of (n := (i0 : Int) + n) (by omega) (by omega), w64_of (n := (gB D 0 : Int) - base) (by omega) (by omega)]
    refine condB_d (fun hlong => K0 ?_) (fun hlong => ?_)
    · rcases hf with hf | hf
      · omega
      · exact hf.2
    have hr0 : (gB D 0 : Int) - base = ((runV (gB D) base 0 : Nat) : Int) := by rw [runV_zero]; omega
    refine ⟨fun r i w' m => w' = w ∧ ∃ k : Nat, i = (k + 1 : Nat) ∧ k + 1 ≤ n ∧ m = n - k ∧ (∀ j, 1 ≤ j → j ≤ k → 128 ≤ gB D j ∧ gB D j ≤ 191) ∧ r = ((runV (gB D) base k : Nat) : Int),
      ⟨_, rfl, 0, rfl, by omega, rfl, fun j a b => absurd (Nat.le_trans a b) (by decide), hr0⟩, ?_⟩
    rintro r i w' m ⟨rfl, k, rfl, hk, rfl, hC, rfl⟩
    have hV := runV_le (gB D) base lt k
    have hV3 : 64 ^ k ≤ 64 ^ 3 := Nat.pow_le_pow_right (by decide) (by omega)
    refine condB_d (fun hlt => ?_) (fun hlt => ?_)
    · rw [w64_of (n := (i0 : Int) + ((k + 1 : Nat) : Int)) (by omega) (by omega)]
      refine byte_i h (by omega) (by omega) fun b hb' => ?_
      rw [show ((i0 : Int) + ((k + 1 : Nat) : Int)).toNat = i0 + (k + 1) by omega] at hb'
      rw [← gat (k + 1) b hb']
      have lk := lt (k + 1)
      rw [w64_of (n := ((gB D (k + 1) : Nat) : Int)) (by omega) (by omega)]
      refine withJ_i fun J72 hJ72 => ?_
      have bad : ¬ (128 ≤ gB D (k + 1) ∧ gB D (k + 1) ≤ 191) → J72 true w' := fun hbad => by
        subst hJ72
        refine K0 ?_
        rcases hf with hf | hf
        · exact absurd (hf.2.1 (k + 1) (by omega) (by omega)) hbad
        · exact hf.2
      refine condB_d (fun hlo => bad (by omega)) (fun hlo => ?_)
      by_cases hhi : gB D (k + 1) > 191
      · rw [decide_eq_true (by omega)]; exact bad (by omega)
      rw [decide_eq_false (by omega)]
      clear bad
      subst hJ72
      refine ⟨n - (k + 1), by omega, rfl, k + 1, ?_, by omega, rfl, fun j a b => ?_, ?_⟩
      · rw [w64_of] <;> omega
      · by_cases hj : j = k + 1
        · subst hj; omega
        · exact hC j a (by omega)
      · rw [runV_succ]
        rw [w64_of (n := 64 * ((runV (gB D) base k : Nat) : Int)) (by omega) (by omega), w64_of (n := 64 * ((runV (gB D) base k : Nat) : Int) + ((gB D (k + 1) : Nat) : Int)) (by omega) (by omega), w64_of (by omega) (by omega)]
        omega
    · have hkn : k + 1 = n := by omega
      subst hkn
      have hC' : ∀ j, 1 ≤ j → j < k + 1 → 128 ≤ gB D j ∧ gB D j ≤ 191 := fun j a b => hC j a (by omega)
      have hlen : k + 1 ≤ D.length := by omega
      simp only [Nat.add_sub_cancel] at hf
      refine withJ_i fun J92 hJ92 => ?_
      have bad : ¬ (least ≤ runV (gB D) base k ∧ runV (gB D) base k ≤ 1114111 ∧ ¬ (55296 ≤ runV (gB D) base k ∧ runV (gB D) base k ≤ 57343)) → J92 true w' := fun hbad => by
        subst hJ92
        refine K0 ?_
        rcases hf with hf | hf
        · exact absurd ⟨hf.2.2.1, hf.2.2.2.1, hf.2.2.2.2.1⟩ hbad
        · exact hf.2
      have good : least ≤ runV (gB D) base k → runV (gB D) base k ≤ 1114111 → ¬ (55296 ≤ runV (gB D) base k ∧ runV (gB D) base k ≤ 57343) → J92 false w' := fun a1 a2 a3 => by
        subst hJ92
        rcases hf with hf | hf
        · rw [hf.2.2.2.2.2] at K; exact K
        · exact absurd ⟨hlen, hC', a1, a2, a3⟩ hf.1
      refine condB_d (fun h1 => bad (by omega)) (fun h1 => ?_)
      refine condB_d (fun h2 => bad (by omega)) (fun h2 => ?_)
      refine condB_d (fun h3 => ?_) (fun h3 => good (by omega) (by omega) (by omega))
      by_cases h4 : runV (gB D) base k ≤ 57343
      · rw [decide_eq_true (by omega)]; exact bad (by omega)
      · rw [decide_eq_false (by omega)]; exact good (by omega) (by omega) (by omega)
  clear hJ7
  refine condB_d (fun ha => ?_) (fun ha => ?_)
  · have e : rd D = (gB D 0, 1) := rd_ascii D (by omega)
    rw [e] at K; exact K
  refine withJ_i fun J22 hJ22 => ?_
  have k22 : ∀ b, (b = true ↔ (192 ≤ gB D 0 ∧ gB D 0 < 224)) → J22 b w := by
    intro b hb; subst hJ22
    refine meetI hb (fun hh => k7 2 192 128 (by omega)) (fun n22 => ?_)
    refine withJ_i fun J31 hJ31 => ?_
    have k31 : ∀ b, (b = true ↔ (224 ≤ gB D 0 ∧ gB D 0 < 240)) → J31 b w := by
      intro b hb; subst hJ31
      refine meetI hb (fun hh => k7 3 224 2048 (by omega)) (fun n31 => ?_)
      refine withJ_i fun J40 hJ40 => ?_
      have k40 : ∀ b, (b = true ↔ (240 ≤ gB D 0 ∧ gB D 0 < 248)) → J40 b w := by
        intro b hb; subst hJ40
        refine meetI hb (fun hh => k7 4 240 65536 (by omega)) (fun n40 => K0 ?_)
        unfold rd rdN
        repeat' split
        all_goals first | rfl | (exfalso; omega)
      exact condB_d (fun hh => k40 _ (bD (by omega))) (fun hh => k40 _ (bF (by omega)))
    exact condB_d (fun hh => k31 _ (bD (by omega))) (fun hh => k31 _ (bF (by omega)))
  exact condB_d (fun hh => k22 _ (bD (by omega))) (fun hh => k22 _ (bF (by omega)))

theorem Next_ok {p : Option Addr} {l c : Nat} {at_ : Int} {bs : List UInt8} {J : Int → Int → Int → World → Prop} (h : Bytes w p l bs) (hlc : l ≤ c) (hm : l ≤ 140737488355328) (T : Tabs w)
    (K : ∀ w', Chg No w w' → J (nxt bs at_).1 (nxt bs at_).2.1 (nxt bs at_).2.2 w') : callJ Tryz.prog fn_char_Next #[.slice p l c, .int .i64 at_] w [.one (.int .i32), .one (.int .i64), .one (.int .i64)] J := by
  refine c_char_Next ?_
  unfold VC_char_Next
  have hbl := h.len
  refine withJ_i fun J16 hJ16 => ?_
  have k16 : ∀ b, (b = true ↔ (at_ < 0 ∨ (bs.length : Int) ≤ at_)) → J16 b w := by
    intro b hb; subst hJ16
    refine meetI hb (fun hh => ?_) (fun hin => ?_)
    · have := K w (Chg.refl _ _); unfold nxt at this; simp only [if_pos hh] at this; exact this
    unfold nxt at K
    simp only [if_neg hin] at K
    obtain ⟨i, rfl⟩ : ∃ i : Nat, at_ = i := ⟨at_.toNat, by omega⟩
    simp only [Int.toNat_natCast] at K
    refine cutB h (i := i) (j := l) (by omega) (Nat.le_refl _) hlc rfl rfl fun q' hq hq0 => ?_
    rw [List.take_of_length_le (by rw [List.length_drop]; omega)] at hq
    refine DecodeRune_ok hq (by omega) T fun w2 hc2 => ?_
    have hne : bs.drop i ≠ [] := by intro e; have := congrArg List.length e; rw [List.length_drop] at this; simp at this; omega
    have h4 := rd_four (bs.drop i)
    generalize bs.drop i = D at *
    by_cases hk : (rd D).2 = 0
    · have hd : dec D = (65533, 1) := by rw [dec_rd, if_pos hk]
      have K' := K w2 hc2
      rw [if_pos hk] at K'
      rw [hd]
      refine withJ_i fun J24 hJ24 => ?_
      have go : J24 true w2 := by subst hJ24; exact K'
      exact go
    · rw [dec_of_rd hk]
      refine withJ_i fun J24 hJ24 => ?_
      have hnf : J24 false w2 := by
        subst hJ24
        refine IsChar_ok fun w4 hc4 => ?_
        have K' := K w4 (hc2.trans0 hc4)
        rw [if_neg hk] at K'
        refine condB_not (fun he => ?_) (fun he => ?_)
        · rw [if_pos he] at K'; exact K'
        · rw [if_neg (by rw [he]; simp)] at K'
          simp only at K'
          rw [w64_of (by omega) (by omega)]
          exact K'
      clear hJ24
      refine condB_eq (fun he => ?_) (fun _ => hnf)
      have := rd_fffd D (by omega)
      rw [decide_eq_false (by omega)]; exact hnf
  clear hJ16
  exact condB_d (fun hh => k16 _ (bT (by omega))) (fun hh => k16 _ (bD (by omega)))

theorem FaultC_ok {p : Option Addr} {l c : Nat} {bs : List UInt8} {J : Int → Int → World → Prop} (h : Bytes w p l bs) (hlc : l ≤ c) (hm : l ≤ 140737488355328) (T : Tabs w)
    (K : ∀ w', Chg No w w' → J ((flt 0 bs).1 : Int) ((flt 0 bs).2 : Int) w') : callJ Tryz.prog fn_char_Fault #[.slice p l c] w [.one (.int .i64), .one (.int .i64)] J := by
  refine c_char_Fault ?_
  unfold VC_char_Fault
  have hbl := h.len
  refine ⟨fun x w' m => ∃ i : Nat, x = i ∧ i ≤ l ∧ m = l - i ∧ Chg No w w' ∧ flt i (bs.drop i) = flt 0 bs, ⟨_, 0, rfl, Nat.zero_le _, rfl, Chg.refl _ _, rfl⟩, ?_⟩
  rintro x w' m ⟨i, rfl, hi, rfl, hc, he⟩
  refine condB_d (fun hlt => ?_) (fun hlt => ?_)
  · refine Next_ok (h.chg hc (off_no _)) hlc hm (T.chg hc) fun w2 hc2 => ?_
    have hcc := hc.trans0 hc2
    have hne : bs.drop i ≠ [] := by intro e; have := congrArg List.length e; rw [List.length_drop] at this; simp at this; omega
    have hle := rd_le _ hne
    rw [List.length_drop, hbl] at hle
    have en : ¬ ((i : Int) < 0 ∨ (bs.length : Int) ≤ (i : Int)) := by omega
    unfold nxt
    simp only [if_neg en, Int.toNat_natCast]
    by_cases hk : (rd (bs.drop i)).2 = 0
    · rw [if_pos hk]
      have e := flt_utf (i := i) hne hk
      rw [← he, e] at K
      exact K _ hcc
    rw [if_neg hk]
    cases hch : chr (rd (bs.drop i)).1 with
    | false =>
      rw [if_pos rfl]
      have e := flt_chr (i := i) hne hk hch
      rw [← he, e] at K
      exact K _ hcc
    | true =>
      rw [if_neg (by simp)]
      refine ⟨l - (i + (rd (bs.drop i)).2), by omega, i + (rd (bs.drop i)).2, by simp, by omega, rfl, hcc, ?_⟩
      rw [← he, flt_step hne hk hch, List.drop_drop]
  · have : i = l := by omega
    subst this
    rw [List.drop_of_length_le (by omega), flt_nil] at he
    rw [← he] at K
    exact K _ hc

theorem FaultR_ok {p : Option Addr} {l c : Nat} {bs : List UInt8} {J : Int → Int → World → Prop} (h : Bytes w p l bs) (hm : l ≤ 140737488355328)
    (K : J ((flt 0 bs).1 : Int) ((flt 0 bs).2 : Int) w) : callJ Tryz.prog fn_ref01_Fault #[.slice p l c] w [.one (.int .i64), .one (.int .i64)] J := by
  refine c_ref01_Fault ?_
  unfold VC_ref01_Fault
  have hbl := h.len
  refine ⟨fun x w' m => ∃ i : Nat, x = i ∧ i ≤ l ∧ m = l - i ∧ w' = w ∧ flt i (bs.drop i) = flt 0 bs, ⟨_, 0, rfl, Nat.zero_le _, rfl, rfl, rfl⟩, ?_⟩
  rintro x w' m ⟨i, rfl, hi, rfl, rfl, he⟩
  refine condB_d (fun hlt => ?_) (fun hlt => ?_)
  · refine Read_ok h (by omega) hm ?_
    have hne : bs.drop i ≠ [] := by intro e; have := congrArg List.length e; rw [List.length_drop] at this; simp at this; omega
    have hle := rd_le _ hne
    rw [List.length_drop, hbl] at hle
    refine condB_eq (fun hk => ?_) (fun hk => ?_)
    · have e := flt_utf (i := i) hne (by omega)
      rw [← he, e] at K
      exact K
    · have hk' : (rd (bs.drop i)).2 ≠ 0 := by omega
      refine Char_ok ?_
      refine condB_not (fun hch => ?_) (fun hch => ?_)
      · have e := flt_chr (i := i) hne hk' hch
        rw [← he, e] at K
        exact K
      · refine ⟨l - (i + (rd (bs.drop i)).2), by omega, i + (rd (bs.drop i)).2, by rw [w64_of (by omega) (by omega)]; simp, by omega, rfl, rfl, ?_⟩
        rw [← he, flt_step hne hk' hch, List.drop_drop]
  · have : i = l := by omega
    subst this
    rw [List.drop_of_length_le (by omega), flt_nil] at he
    rw [← he] at K
    exact K
end

end Go.Proofs.YtkgfbphdmnapdaaGreatDoor

/-
  Chapter 1: names, qualified names.
-/

namespace Go.Vc
open Go Go.Lib
theorem setBlk_at {w : World} {b : Nat} {o : Obj} (h : b < w.heap.size) : (setBlk w b o).heap[b]? = some o := by
  unfold setBlk; simp [h]
theorem drop_ne {bs : List UInt8} {i : Nat} (h : i < bs.length) : bs.drop i ≠ [] := by
  intro e; have := congrArg List.length e; rw [List.length_drop] at this; simp at this; omega
/-- The state of the loop over a name's chars. -/
def nmAt (bs : List UInt8) (i : Nat) : Bool := if i = 0 then isSt (rd bs).1 && prt bs else prt (bs.drop i)
theorem nmAt_end {bs : List UInt8} (h : bs ≠ []) : nmAt bs bs.length = true := by
  unfold nmAt
  rw [if_neg (by have := List.length_pos_iff.2 h; omega), List.drop_of_length_le (Nat.le_refl _), prt_nil]
theorem nmAt_step {bs : List UInt8} {i : Nat} (h : i < bs.length) (hk : (rd (bs.drop i)).2 ≠ 0) (hp : isPt (rd (bs.drop i)).1 = true) (hs : i = 0 → isSt (rd (bs.drop i)).1 = true) : nmAt bs i = nmAt bs (i + (rd (bs.drop i)).2) := by
  have e : prt (bs.drop i) = prt (bs.drop (i + (rd (bs.drop i)).2)) := by rw [prt_step (drop_ne h) hk, hp, Bool.true_and, List.drop_drop]
  unfold nmAt
  rw [if_neg (show ¬ i + (rd (bs.drop i)).2 = 0 by omega), ← e]
  split
  · next h0 => subst h0; have := hs rfl; rw [List.drop_zero] at this ⊢; rw [this, Bool.true_and]
  · rfl
theorem nmAt_bad {bs : List UInt8} {i : Nat} (h : i < bs.length) (hk : (rd (bs.drop i)).2 = 0) : nmAt bs i = false := by
  unfold nmAt
  split
  · next h0 => subst h0; rw [List.drop_zero] at hk; rw [prt_bad (by intro e; rw [e] at h; simp at h) hk, Bool.and_false]
  · exact prt_bad (drop_ne h) hk
theorem nmAt_part {bs : List UInt8} {i : Nat} (h : i < bs.length) (hp : isPt (rd (bs.drop i)).1 = false) : nmAt bs i = false := by
  by_cases hk : (rd (bs.drop i)).2 = 0
  · exact nmAt_bad h hk
  have e : prt (bs.drop i) = false := by rw [prt_step (drop_ne h) hk, hp, Bool.false_and]
  unfold nmAt
  split
  · next h0 => subst h0; rw [List.drop_zero] at e; rw [e, Bool.and_false]
  · exact e
theorem nmAt_start {bs : List UInt8} (hs : isSt (rd (bs.drop 0)).1 = false) : nmAt bs 0 = false := by
  unfold nmAt
  rw [List.drop_zero] at hs
  rw [if_pos rfl, hs, Bool.false_and]
theorem nm_at (bs : List UInt8) : nm bs = (decide (bs ≠ []) && decide (bs.length ≤ 100) && nmAt bs 0) := by
  unfold nm nmAt
  rw [if_pos rfl, Bool.and_assoc (decide _ && decide _)]
end Go.Vc
namespace Go.Proofs.YtkgfbphdmnapdaaGreatDoor
open Go Go.Vc Go.Lib

section
variable {w : World}

theorem cvB {s : ByteArray} {K : Option Addr → Nat → Nat → World → Prop} (k : ∀ b c w', Bytes w' (some ⟨b, 0, none⟩) s.size (bl s) → w.heap.size ≤ b → Chg No w w' → K (some ⟨b, 0, none⟩) s.size c w') :
    cvJ Tryz.prog T_string T_sl_uint8 (.string s) w K := by
  refine ⟨_, _, _, _, Lib.run_convert_string_bytes (P := Tryz.prog) w T_string T_sl_uint8 T_uint8 s (u := .string) (by kernel_rfl) (by kernel_rfl) (by kernel_rfl), k _ _ _ ⟨by rw [bcells_length, bl_len, Nat.mul_one], .inr ⟨_, rfl, ?_⟩⟩ (Nat.le_refl _) ?_⟩
  · intro j v hv
    unfold bcells at hv
    rw [List.getElem?_map, Option.map_eq_some_iff] at hv
    obtain ⟨b, hb, rfl⟩ := hv
    have hj : j < s.size := by rw [← bl_len]; exact (List.getElem?_eq_some_iff.1 hb).1
    have := Lib.bytesWorld_cell w T_uint8 s j hj
    rw [Addr.add_mk, Nat.zero_add, this, List.getD_eq_getElem?_getD, hb]; rfl
  · exact ⟨rfl, rfl, rfl, by rw [Lib.bytesWorld_size]; omega, fun b hb _ => Lib.bytesWorld_at_old w T_uint8 s b hb⟩

set_option maxRecDepth 100000 in
theorem NameC_ok {s : ByteArray} {J : Bool → World → Prop} (T : Tabs w) (K : ∀ w', Chg No w w' → J (nm (bl s)) w') : callJ Tryz.prog fn_char_Name #[.string s] w [.one .bool] J := by
  refine c_char_Name ?_
  unfold VC_char_Name
  refine withJ_i fun J16 hJ16 => ?_
  have k16 : ∀ b w1, Chg No w w1 → (b = true ↔ (bl s = [] ∨ 100 < s.size ∨ vld (bl s) = false)) → J16 b w1 := by
    intro b w1 hc1 hb; subst hJ16
    refine meetI hb (fun hh => ?_) (fun hn => ?_)
    · have e : nm (bl s) = false := by
        unfold nm
        rcases hh with h | h | h
        · simp [h]
        · rw [show decide ((bl s).length ≤ 100) = false from decide_eq_false (by rw [bl_len]; omega)]; simp
        · cases hp : prt (bl s) with
          | false => simp
          | true => rw [prt_vld _ hp] at h; cases h
      rw [← e]; exact K w1 hc1
    · have hne : bl s ≠ [] := fun e => hn (.inl e)
      have hlen := bl_len s
      have hv : vld (bl s) = true := by cases h : vld (bl s) with | true => rfl | false => exact absurd (.inr (.inr h)) hn
      have hnm : nm (bl s) = nmAt (bl s) 0 := by
        rw [nm_at, decide_eq_true hne, decide_eq_true (show (bl s).length ≤ 100 by omega)]; rfl
      rw [hnm] at K
      refine newB_i fun b18 w2 hb18 hw2 => ?_
      have hc2 : Chg No w w2 := by rw [hw2]; exact hc1.alloc _
      have hh2 : w2.heap[b18]? = some (.stringIter s 0) := by rw [hb18, hw2]; exact heap_alloc_new w1 _
      have hfr : w.heap.size ≤ b18 := by rw [hb18]; exact hc1.size
      refine ⟨fun w' m => ∃ i : Nat, Chg No w w' ∧ w'.heap[b18]? = some (.stringIter s i) ∧ i ≤ s.size ∧ m = s.size - i ∧ vld ((bl s).drop i) = true ∧ nmAt (bl s) i = nmAt (bl s) 0, ⟨_, 0, hc2, hh2, Nat.zero_le _, rfl, by rw [List.drop_zero]; exact hv, rfl⟩, ?_⟩
      rintro w3 m ⟨i, hc3, hh3, hi, rfl, hvi, hat⟩
      refine ⟨s, i, hh3, fun hlt => ?_, fun hge => ?_⟩
      · have hlt' : i < (bl s).length := by omega
        have hk : (rd ((bl s).drop i)).2 ≠ 0 := fun h => by rw [vld_bad (drop_ne hlt') h] at hvi; cases hvi
        rw [decode_dec, dec_of_rd hk]
        have hle := rd_le _ (drop_ne hlt')
        rw [List.length_drop] at hle
        generalize hw4 : setBlk w3 b18 (.stringIter s (i + (rd ((bl s).drop i)).2)) = w4
        have hc4 : Chg No w w4 := by rw [← hw4]; exact hc3.setBlk _ _ (fun h => by omega)
        have hh4 : w4.heap[b18]? = some (.stringIter s (i + (rd ((bl s).drop i)).2)) := by rw [← hw4]; exact setBlk_at (lt_of_heap hh3)
        refine withJ_i fun J34 hJ34 => ?_
        have k34 : ∀ b w6, Chg No w4 w6 → (b = true ↔ ((i = 0 ∧ isSt (rd ((bl s).drop i)).1 = false) ∨ isPt (rd ((bl s).drop i)).1 = false)) → J34 b w6 := by
          intro b w6 hc6 hb; subst hJ34
          have hc := hc4.trans0 hc6
          refine meetI hb (fun hh => ?_) (fun hn2 => ?_)
          · have e : nmAt (bl s) 0 = false := by
              rw [← hat]
              rcases hh with ⟨h0, h⟩ | h
              · subst h0; exact nmAt_start h
              · exact nmAt_part hlt' h
            rw [← e]; exact K _ hc
          · have hp : isPt (rd ((bl s).drop i)).1 = true := by cases h : isPt (rd ((bl s).drop i)).1 with | true => rfl | false => exact absurd (.inr h) hn2
            have hs : i = 0 → isSt (rd ((bl s).drop i)).1 = true := fun h0 => by cases h : isSt (rd ((bl s).drop i)).1 with | true => rfl | false => exact absurd (.inl ⟨h0, h⟩) hn2
            exact ⟨_, by omega, i + (rd ((bl s).drop i)).2, hc, hc6.heap hh4 (fun f => f), by omega, rfl, by rw [← List.drop_drop, ← vld_step (drop_ne hlt') hk]; exact hvi, by rw [← nmAt_step hlt' hk hp hs]; exact hat⟩
        clear hJ34
        refine condB_eq (fun h0 => ?_) (fun h0 => ?_)
        · have h0 : i = 0 := by omega
          refine IsStart_ok fun w7 hc7 => ?_
          refine condB_not (fun hs => k34 _ _ hc7 (bT (.inl ⟨h0, hs⟩))) (fun hs => ?_)
          refine IsPart_ok fun w8 hc8 => k34 _ _ (hc7.trans0 hc8) ?_
          rw [Bool.not_eq_true']
          exact ⟨fun h => .inr h, fun h => h.elim (fun h => by rw [hs] at h; cases h.2) id⟩
        · refine IsPart_ok fun w8 hc8 => k34 _ _ hc8 ?_
          rw [Bool.not_eq_true']
          exact ⟨fun h => .inr h, fun h => h.elim (fun h => absurd h.1 (by omega)) id⟩
      · have : i = (bl s).length := by omega
        rw [this, nmAt_end hne] at hat
        rw [← hat] at K
        exact K _ hc3
  clear hJ16
  rw [toList_bl, toList_bl, show bl ⟨#[]⟩ = [] from rfl]
  refine condB_i (fun h => k16 _ _ (Chg.refl _ _) (bT (.inl (by simpa using h)))) (fun h1 => ?_)
  have h1 : bl s ≠ [] := by simpa using h1
  refine condB_d (fun h => k16 _ _ (Chg.refl _ _) (bT (.inr (.inl (by omega))))) (fun h2 => ?_)
  refine ValidString_ok T fun w10 hc10 => k16 _ _ hc10 ?_
  rw [Bool.not_eq_true']
  exact ⟨fun h => .inr (.inr h), fun h => h.elim (fun h => absurd h h1) fun h => h.elim (fun h => absurd h (by omega)) id⟩

set_option maxRecDepth 100000 in
theorem NameR_ok {s : ByteArray} {J : Bool → World → Prop} (hm : s.size ≤ 140737488355328) (K : ∀ w', Chg No w w' → J (nm (bl s)) w') : callJ Tryz.prog fn_ref01_Name #[.string s] w [.one .bool] J := by
  refine c_ref01_Name ?_
  unfold VC_ref01_Name
  refine cvB fun bq c w1 hB _ hc1 => ?_
  have hlen := bl_len s
  refine withJ_i fun J16 hJ16 => ?_
  have k16 : ∀ b, (b = true ↔ (bl s = [] ∨ 100 < s.size)) → J16 b w1 := by
    intro b hb; subst hJ16
    refine meetI hb (fun hh => ?_) (fun hn => ?_)
    · have e : nm (bl s) = false := by
        rw [nm_at]
        rcases hh with h | h
        · simp [h]
        · rw [show decide ((bl s).length ≤ 100) = false from decide_eq_false (by omega)]; simp
      rw [← e]; exact K w1 hc1
    · have hne : bl s ≠ [] := fun e => hn (.inl e)
      have hnm : nm (bl s) = nmAt (bl s) 0 := by
        rw [nm_at, decide_eq_true hne, decide_eq_true (show (bl s).length ≤ 100 by omega)]; rfl
      rw [hnm] at K
      refine ⟨fun x w' m => ∃ i : Nat, x = i ∧ w' = w1 ∧ i ≤ s.size ∧ m = s.size - i ∧ nmAt (bl s) i = nmAt (bl s) 0, ⟨_, 0, rfl, rfl, Nat.zero_le _, rfl, rfl⟩, ?_⟩
      rintro x w3 m ⟨i, rfl, rfl, hi, rfl, hat⟩
      refine condB_d (fun hlt => ?_) (fun hge => ?_)
      · have hlt' : i < (bl s).length := by omega
        refine Read_ok hB (by omega) hm ?_
        have hle := rd_le _ (drop_ne hlt')
        rw [List.length_drop] at hle
        refine withJ_i fun J42 hJ42 => ?_
        have bad : nmAt (bl s) 0 = false → J42 true w3 := fun e => by subst hJ42; rw [← e]; exact K _ hc1
        have good : (rd ((bl s).drop i)).2 ≠ 0 → isPt (rd ((bl s).drop i)).1 = true → (i = 0 → isSt (rd ((bl s).drop i)).1 = true) → J42 false w3 := fun hk hp hs => by
          subst hJ42
          exact ⟨_, by omega, i + (rd ((bl s).drop i)).2, by rw [w64_of (by omega) (by omega)]; simp, rfl, by omega, rfl, by rw [← nmAt_step hlt' hk hp hs]; exact hat⟩
        clear hJ42
        refine condB_eq (fun hk => bad (by rw [← hat]; exact nmAt_bad hlt' (by omega))) (fun hk => ?_)
        refine Part_ok ?_
        refine condB_not (fun hp => bad (by rw [← hat]; exact nmAt_part hlt' hp)) (fun hp => ?_)
        refine condB_eq (fun h0 => ?_) (fun h0 => good (by omega) hp (fun h => by omega))
        have h0 : i = 0 := by omega
        refine Start_ok ?_
        cases hs : isSt (rd ((bl s).drop i)).1 with
        | true => exact good (by omega) hp (fun _ => hs)
        | false =>
          refine bad ?_
          rw [← hat]; subst h0; exact nmAt_start hs
      · have : i = (bl s).length := by omega
        rw [this, nmAt_end hne] at hat
        rw [← hat] at K
        exact K _ hc1
  clear hJ16
  have hz : bl s = [] ↔ s.size = 0 := by rw [← hlen]; exact List.length_eq_zero_iff.symm
  refine condB_eq (fun h => k16 _ (bT (.inl (hz.2 (by omega))))) (fun h => k16 _ (bD ?_))
  rw [hz]; omega

/-! ## strings.Cut at a colon -/
end

end Go.Proofs.YtkgfbphdmnapdaaGreatDoor

/-
  Chapter 1: line ends; appends of great rows.
-/

namespace Go.Vc
open Go Go.Lib
end Go.Vc
namespace Go.Proofs.YtkgfbphdmnapdaaGreatDoor
open Go Go.Vc Go.Lib

section
variable {w : World}

end

end Go.Proofs.YtkgfbphdmnapdaaGreatDoor

/-
  Chapter 1, plain: what Go lays for a char, faults and line ends of two texts, names with a part behind.
-/

set_option linter.unusedVariables false
set_option linter.unusedSimpArgs false
namespace Go.Vc
open Go Go.Lib

/-! ## What Go lays for a char -/
/-! ## Faults of two texts -/
/-! ## Line ends of two texts -/
/-! ## Names with something behind -/
end Go.Vc

