/-
  UTF-8, plain: the char that begins a row of bytes ('rd'), which numbers are chars, names and line ends.
-/
import Derived.Lib.DecodeNEq
import Derived.Lib.Strings
set_option linter.unusedVariables false
namespace Go.Vc
open Go Go.Lib

/-- The char at the head of n bytes that begin b0 b1 b2 b3, and its width; width 0: none. -/
def rdN (n b0 b1 b2 b3 : Nat) : Nat × Nat :=
  if b0 < 128 then (b0, 1)
  else if b0 < 192 then (0, 0)
  else if b0 < 224 then
    (if 2 ≤ n ∧ (128 ≤ b1 ∧ b1 ≤ 191) ∧ 128 ≤ 64 * (b0 - 192) + (b1 - 128) then (64 * (b0 - 192) + (b1 - 128), 2) else (0, 0))
  else if b0 < 240 then
    (if 3 ≤ n ∧ (128 ≤ b1 ∧ b1 ≤ 191) ∧ (128 ≤ b2 ∧ b2 ≤ 191) ∧ 2048 ≤ 64 * (64 * (b0 - 224) + (b1 - 128)) + (b2 - 128) ∧ (64 * (64 * (b0 - 224) + (b1 - 128)) + (b2 - 128) < 55296 ∨ 57344 ≤ 64 * (64 * (b0 - 224) + (b1 - 128)) + (b2 - 128))
      then (64 * (64 * (b0 - 224) + (b1 - 128)) + (b2 - 128), 3) else (0, 0))
  else if b0 < 248 then
    (if 4 ≤ n ∧ (128 ≤ b1 ∧ b1 ≤ 191) ∧ (128 ≤ b2 ∧ b2 ≤ 191) ∧ (128 ≤ b3 ∧ b3 ≤ 191) ∧ 65536 ≤ 64 * (64 * (64 * (b0 - 240) + (b1 - 128)) + (b2 - 128)) + (b3 - 128) ∧ 64 * (64 * (64 * (b0 - 240) + (b1 - 128)) + (b2 - 128)) + (b3 - 128) ≤ 1114111
      then (64 * (64 * (64 * (b0 - 240) + (b1 - 128)) + (b2 - 128)) + (b3 - 128), 4) else (0, 0))
  else (0, 0)

set_option maxHeartbeats 1000000 in
theorem decodeN_rd (n b0 b1 b2 b3 : Nat) (h0 : b0 < 256) (h1 : b1 < 256) (h2 : b2 < 256) (h3 : b3 < 256) : decodeN n b0 b1 b2 b3 = if (rdN n b0 b1 b2 b3).2 = 0 then (65533, 1) else rdN n b0 b1 b2 b3 := by
  by_cases c0 : b0 < 128
  · simp [decodeN, rdN, c0]
  by_cases c1 : b0 < 192
  · have e1 : ¬ b0 / 32 = 6 := by omega
    have e2 : ¬ b0 / 16 = 14 := by omega
    have e3 : ¬ b0 / 8 = 30 := by omega
    simp [decodeN, rdN, c0, c1, e1, e2, e3]
  by_cases c2 : b0 < 224
  · have e1 : b0 / 32 = 6 := by omega
    have e2 : ¬ b0 / 16 = 14 := by omega
    have e3 : ¬ b0 / 8 = 30 := by omega
    simp only [decodeN, rdN, c0, c1, c2, e1, e2, e3, if_false, if_true, true_and, false_and]
    repeat' split
    all_goals first | with_reducible rfl | (exfalso; omega) | (refine Prod.ext ?_ rfl; show (_ : Nat) = _; omega) | (rename_i h; exact absurd h (by simp)) | (rename_i h _; exact absurd h (by simp)) | (exfalso; simp only [Nat.succ_ne_zero, OfNat.ofNat_ne_zero] at *)
  by_cases c3 : b0 < 240
  · have e1 : ¬ b0 / 32 = 6 := by omega
    have e2 : b0 / 16 = 14 := by omega
    have e3 : ¬ b0 / 8 = 30 := by omega
    simp only [decodeN, rdN, c0, c1, c2, c3, e1, e2, e3, if_false, if_true, true_and, false_and]
    repeat' split
    all_goals first | with_reducible rfl | (exfalso; omega) | (refine Prod.ext ?_ rfl; show (_ : Nat) = _; omega) | (rename_i h; exact absurd h (by simp)) | (rename_i h _; exact absurd h (by simp)) | (exfalso; simp only [Nat.succ_ne_zero, OfNat.ofNat_ne_zero] at *)
  by_cases c4 : b0 < 248
  · have e1 : ¬ b0 / 32 = 6 := by omega
    have e2 : ¬ b0 / 16 = 14 := by omega
    have e3 : b0 / 8 = 30 := by omega
    simp only [decodeN, rdN, c0, c1, c2, c3, c4, e1, e2, e3, if_false, if_true, true_and, false_and]
    repeat' split
    all_goals first | with_reducible rfl | (exfalso; omega) | (refine Prod.ext ?_ rfl; show (_ : Nat) = _; omega) | (rename_i h; exact absurd h (by simp)) | (rename_i h _; exact absurd h (by simp)) | (exfalso; simp only [Nat.succ_ne_zero, OfNat.ofNat_ne_zero] at *)
  have e1 : ¬ b0 / 32 = 6 := by omega
  have e2 : ¬ b0 / 16 = 14 := by omega
  have e3 : ¬ b0 / 8 = 30 := by omega
  simp [decodeN, rdN, c0, c1, c2, c3, c4, e1, e2, e3]

/-- What is known of a char that is read: its width, its bytes. -/
theorem rdN_facts (n b0 b1 b2 b3 : Nat) (h0 : b0 < 256) (h1 : b1 < 256) (h2 : b2 < 256) (h3 : b3 < 256) :
    ((rdN n b0 b1 b2 b3).2 = 0 ∧ rdN n b0 b1 b2 b3 = (0, 0)) ∨ (rdN n b0 b1 b2 b3 = (b0, 1) ∧ b0 < 128)
    ∨ ((rdN n b0 b1 b2 b3).2 = 2 ∧ 2 ≤ n ∧ 192 ≤ b0 ∧ 128 ≤ b1 ∧ (rdN n b0 b1 b2 b3).1 = 64 * (b0 - 192) + (b1 - 128) ∧ 128 ≤ (rdN n b0 b1 b2 b3).1 ∧ (rdN n b0 b1 b2 b3).1 < 2048)
    ∨ ((rdN n b0 b1 b2 b3).2 = 3 ∧ 3 ≤ n ∧ 192 ≤ b0 ∧ 128 ≤ b1 ∧ 128 ≤ b2 ∧ 2048 ≤ (rdN n b0 b1 b2 b3).1 ∧ (rdN n b0 b1 b2 b3).1 < 65536)
    ∨ ((rdN n b0 b1 b2 b3).2 = 4 ∧ 4 ≤ n ∧ 192 ≤ b0 ∧ 128 ≤ b1 ∧ 128 ≤ b2 ∧ 128 ≤ b3 ∧ 65536 ≤ (rdN n b0 b1 b2 b3).1 ∧ (rdN n b0 b1 b2 b3).1 ≤ 1114111) := by
  unfold rdN
  repeat' split
  all_goals simp
  all_goals omega

/-- The k-th byte, as a number. -/
def gB (bs : List UInt8) (k : Nat) : Nat := (bs.getD k 0).toNat
theorem gB_lt (bs : List UInt8) (k : Nat) : gB bs k < 256 := UInt8.toNat_lt _
theorem gB_of {bs : List UInt8} {k : Nat} {b : UInt8} (h : bs[k]? = some b) : gB bs k = b.toNat := by simp [gB, List.getD_eq_getElem?_getD, h]
theorem gB_drop (bs : List UInt8) (i k : Nat) : gB (bs.drop i) k = gB bs (i + k) := by simp [gB, List.getD_eq_getElem?_getD, List.getElem?_drop]
/-- The char that begins some bytes, and its width; width 0: none does. -/
def rd (bs : List UInt8) : Nat × Nat := rdN bs.length (gB bs 0) (gB bs 1) (gB bs 2) (gB bs 3)
/-- What Go's decoder gives. -/
def dec (bs : List UInt8) : Nat × Nat := decodeN bs.length (gB bs 0) (gB bs 1) (gB bs 2) (gB bs 3)
theorem dec_rd (bs : List UInt8) : dec bs = if (rd bs).2 = 0 then (65533, 1) else rd bs := decodeN_rd _ _ _ _ _ (gB_lt _ _) (gB_lt _ _) (gB_lt _ _) (gB_lt _ _)

theorem rd_facts (bs : List UInt8) : ((rd bs).2 = 0 ∧ rd bs = (0, 0)) ∨ (rd bs = (gB bs 0, 1) ∧ gB bs 0 < 128)
    ∨ ((rd bs).2 = 2 ∧ 2 ≤ bs.length ∧ 192 ≤ gB bs 0 ∧ 128 ≤ gB bs 1 ∧ (rd bs).1 = 64 * (gB bs 0 - 192) + (gB bs 1 - 128) ∧ 128 ≤ (rd bs).1 ∧ (rd bs).1 < 2048)
    ∨ ((rd bs).2 = 3 ∧ 3 ≤ bs.length ∧ 192 ≤ gB bs 0 ∧ 128 ≤ gB bs 1 ∧ 128 ≤ gB bs 2 ∧ 2048 ≤ (rd bs).1 ∧ (rd bs).1 < 65536)
    ∨ ((rd bs).2 = 4 ∧ 4 ≤ bs.length ∧ 192 ≤ gB bs 0 ∧ 128 ≤ gB bs 1 ∧ 128 ≤ gB bs 2 ∧ 128 ≤ gB bs 3 ∧ 65536 ≤ (rd bs).1 ∧ (rd bs).1 ≤ 1114111) :=
  rdN_facts _ _ _ _ _ (gB_lt _ _) (gB_lt _ _) (gB_lt _ _) (gB_lt _ _)

theorem rd_le (bs : List UInt8) (h : bs ≠ []) : (rd bs).2 ≤ bs.length := by
  have hl : 0 < bs.length := List.length_pos_iff.2 h
  rcases rd_facts bs with ⟨_, e⟩ | ⟨e, _⟩ | h | h | h
  · rw [e]; exact Nat.zero_le _
  · rw [e]; exact hl
  all_goals omega
theorem rd_four (bs : List UInt8) : (rd bs).2 ≤ 4 := by
  rcases rd_facts bs with ⟨_, e⟩ | ⟨e, _⟩ | h | h | h
  · rw [e]; simp
  · rw [e]; simp
  all_goals omega
/-- The replacement char has three bytes. -/
theorem rd_fffd (bs : List UInt8) (h : (rd bs).1 = 65533) : 3 ≤ (rd bs).2 := by
  rcases rd_facts bs with ⟨_, e⟩ | ⟨e, _⟩ | h | h | h
  · rw [e] at h; simp at h
  · rw [e] at h; simp only at h; omega
  all_goals omega
/-- A byte below 128 is a char. -/
theorem rd_ascii (bs : List UInt8) (h : gB bs 0 < 128) : rd bs = (gB bs 0, 1) := by simp [rd, rdN, h]
theorem rd_ascii_cons (b : UInt8) (bs : List UInt8) (h : b.toNat < 128) : rd (b :: bs) = (b.toNat, 1) := rd_ascii (b :: bs) (by simpa [gB] using h)
theorem drop_rd_lt (bs : List UInt8) (h : bs ≠ []) (hk : (rd bs).2 ≠ 0) : (bs.drop (rd bs).2).length < bs.length := by
  have hl : 0 < bs.length := List.length_pos_iff.2 h
  rw [List.length_drop]; omega

/-- The same, char by char. -/
theorem rd_ind {P : List UInt8 → Prop} (h0 : P []) (h1 : ∀ bs, bs ≠ [] → (rd bs).2 = 0 → P bs) (h2 : ∀ bs, bs ≠ [] → (rd bs).2 ≠ 0 → P (bs.drop (rd bs).2) → P bs) : ∀ bs, P bs := by
  suffices h : ∀ n, ∀ bs : List UInt8, bs.length ≤ n → P bs from fun bs => h bs.length bs (Nat.le_refl _)
  intro n
  induction n with
  | zero => intro bs hl; rw [show bs = [] from List.eq_nil_of_length_eq_zero (by omega)]; exact h0
  | succ n ih =>
    intro bs hl
    by_cases hb : bs = []
    · subst hb; exact h0
    by_cases hk : (rd bs).2 = 0
    · exact h1 bs hb hk
    · exact h2 bs hb hk (ih _ (by have := drop_rd_lt bs hb hk; omega))

/-! ## Which numbers -/

def Chr (r : Int) : Prop := r = 9 ∨ r = 10 ∨ r = 13 ∨ (32 ≤ r ∧ r ≤ 55295) ∨ (57344 ≤ r ∧ r ≤ 65533) ∨ (65536 ≤ r ∧ r ≤ 1114111)
def Sta (r : Int) : Prop :=
  (65 ≤ r ∧ r ≤ 90) ∨ r = 95 ∨ (97 ≤ r ∧ r ≤ 122) ∨ (192 ≤ r ∧ r ≤ 767 ∧ r ≠ 215 ∧ r ≠ 247) ∨ (880 ≤ r ∧ r ≤ 8191 ∧ r ≠ 894)
  ∨ r = 8204 ∨ r = 8205 ∨ (8304 ≤ r ∧ r ≤ 8591) ∨ (11264 ≤ r ∧ r ≤ 12271) ∨ (12289 ≤ r ∧ r ≤ 55295)
  ∨ (63744 ≤ r ∧ r ≤ 65533 ∧ (r < 64976 ∨ 65008 ≤ r)) ∨ (65536 ≤ r ∧ r ≤ 983039)
def Pr2 (r : Int) : Prop := r = 45 ∨ r = 46 ∨ (48 ≤ r ∧ r ≤ 57) ∨ r = 183 ∨ (768 ≤ r ∧ r ≤ 879) ∨ r = 8255 ∨ r = 8256
instance (r : Int) : Decidable (Chr r) := by unfold Chr; exact inferInstance
instance (r : Int) : Decidable (Sta r) := by unfold Sta; exact inferInstance
def Prt (r : Int) : Prop := Sta r ∨ Pr2 r
instance (r : Int) : Decidable (Pr2 r) := by unfold Pr2; exact inferInstance
instance (r : Int) : Decidable (Prt r) := by unfold Prt; exact inferInstance
theorem prt_pr2 {r : Int} (h : ¬ Sta r) : decide (Prt r) = decide (Pr2 r) := decide_eq_decide.2 ⟨fun hp => hp.resolve_left h, fun hp => .inr hp⟩
def chr (r : Int) : Bool := decide (Chr r)
def isSt (r : Int) : Bool := decide (Sta r)
def isPt (r : Int) : Bool := decide (Prt r)

/-- Spans that rise. -/
def inL (r : Int) : List (Int × Int) → Bool
  | [] => false
  | s :: l => if r ≤ s.2 then decide (s.1 ≤ r) else inL r l

def inP (r : Int) : List (Int × Int) → Prop
  | [] => False
  | s :: l => (r ≤ s.2 ∧ s.1 ≤ r) ∨ (¬ r ≤ s.2 ∧ inP r l)
theorem inL_iff (r : Int) : ∀ L, inL r L = true ↔ inP r L
  | [] => by simp [inL, inP]
  | s :: l => by
    unfold inL inP
    split
    · next h => simp [h]
    · next h => rw [inL_iff r l]; simp [h]
theorem inL_dec {r : Int} {L : List (Int × Int)} {p : Prop} [Decidable p] (h : inP r L ↔ p) : inL r L = decide p := by
  rw [Bool.eq_iff_iff, inL_iff, decide_eq_true_eq]; exact h

/-! ## Texts -/

/-- Is it UTF-8? -/
def vld (bs : List UInt8) : Bool := if h : bs = [] then true else if hk : (rd bs).2 = 0 then false else vld (bs.drop (rd bs).2)
termination_by bs.length
decreasing_by exact drop_rd_lt bs h hk
theorem vld_nil : vld [] = true := by unfold vld; simp
theorem vld_bad {bs : List UInt8} (h : bs ≠ []) (hk : (rd bs).2 = 0) : vld bs = false := by unfold vld; simp [h, hk]
theorem vld_step {bs : List UInt8} (h : bs ≠ []) (hk : (rd bs).2 ≠ 0) : vld bs = vld (bs.drop (rd bs).2) := by rw [vld]; simp [h, hk]

/-- All chars may stand in names. -/
def prt (bs : List UInt8) : Bool := if h : bs = [] then true else if hk : (rd bs).2 = 0 then false else isPt (rd bs).1 && prt (bs.drop (rd bs).2)
termination_by bs.length
decreasing_by exact drop_rd_lt bs h hk
theorem prt_nil : prt [] = true := by unfold prt; simp
theorem prt_bad {bs : List UInt8} (h : bs ≠ []) (hk : (rd bs).2 = 0) : prt bs = false := by unfold prt; simp [h, hk]
theorem prt_step {bs : List UInt8} (h : bs ≠ []) (hk : (rd bs).2 ≠ 0) : prt bs = (isPt (rd bs).1 && prt (bs.drop (rd bs).2)) := by rw [prt]; simp [h, hk]

/-- The first fault, from a place on: the place and why; 0, 0: none. -/
def flt (at_ : Nat) (bs : List UInt8) : Nat × Nat := if h : bs = [] then (0, 0) else if hk : (rd bs).2 = 0 then (at_, 20) else if chr (rd bs).1 = false then (at_, 21) else flt (at_ + (rd bs).2) (bs.drop (rd bs).2)
termination_by bs.length
decreasing_by exact drop_rd_lt bs h hk
theorem flt_nil (i : Nat) : flt i [] = (0, 0) := by unfold flt; simp
theorem flt_utf {i : Nat} {bs : List UInt8} (h : bs ≠ []) (hk : (rd bs).2 = 0) : flt i bs = (i, 20) := by unfold flt; simp [h, hk]
theorem flt_chr {i : Nat} {bs : List UInt8} (h : bs ≠ []) (hk : (rd bs).2 ≠ 0) (hc : chr (rd bs).1 = false) : flt i bs = (i, 21) := by unfold flt; simp [h, hk, hc]
theorem flt_step {i : Nat} {bs : List UInt8} (h : bs ≠ []) (hk : (rd bs).2 ≠ 0) (hc : chr (rd bs).1 = true) : flt i bs = flt (i + (rd bs).2) (bs.drop (rd bs).2) := by rw [flt]; simp [h, hk, hc]

/-- Is it a name? -/
def nm (bs : List UInt8) : Bool := decide (bs ≠ []) && decide (bs.length ≤ 100) && isSt (rd bs).1 && prt bs

theorem prt_vld : ∀ bs, prt bs = true → vld bs = true := by
  refine rd_ind ?_ ?_ ?_
  · intro _; exact vld_nil
  · intro bs h hk hp; rw [prt_bad h hk] at hp; cases hp
  · intro bs h hk ih hp
    rw [prt_step h hk, Bool.and_eq_true] at hp
    rw [vld_step h hk]; exact ih hp.2

/-! ## Line ends -/

end Go.Vc

