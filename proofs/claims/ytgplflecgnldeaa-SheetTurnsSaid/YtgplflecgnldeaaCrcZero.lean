/-
  Plain facts: bytes behind their sum, of which one is turned, are never all noughts (of 508 bytes).
-/
import Derived.Test.YtgplflecgnldeaaCrc
import Derived.KernelRfl
namespace Go.Vc
open Go

def tN : Nat → Nat → Nat
  | 0, c => c
  | k + 1, c => tN k (crcN 8 c)
def invStep (c : Nat) : Nat := if 2147483648 ≤ c then 2 * (c ^^^ 0xedb88320) + 1 else 2 * c
def invN : Nat → Nat → Nat
  | 0, c => c
  | k + 1, c => invN k (invStep c)
def iN : Nat → Nat → Nat
  | 0, c => c
  | k + 1, c => iN k (invN 8 c)

theorem invStep_step {c : Nat} (h : c < 2 ^ 32) : invStep (crcStep c) = c := by
  unfold crcStep invStep
  split
  · next ho =>
    have hx : (c / 2) < 2 ^ 31 := by omega
    have htop : 2147483648 ≤ (c / 2) ^^^ 0xedb88320 := by
      have h1 : ((c / 2) ^^^ 0xedb88320).testBit 31 = true := by
        rw [Nat.testBit_xor, Nat.testBit_lt_two_pow hx]; rfl
      have := Nat.ge_two_pow_of_testBit h1
      omega
    rw [if_pos htop, Nat.xor_assoc, Nat.xor_self, Nat.xor_zero]
    omega
  · rw [if_neg (by omega)]; omega
theorem invN_crcN : ∀ (k : Nat) {c : Nat}, c < 2 ^ 32 → invN k (crcN k c) = c
  | 0, _, _ => rfl
  | k + 1, c, h => by
    rw [crcN_succ, invN, invStep_step (crcN_lt h k)]
    exact invN_crcN k h
theorem iN_tN : ∀ (m : Nat) {x : Nat}, x < 2 ^ 32 → iN (m + 1) (tN m (crcN 8 x)) = x
  | 0, x, h => invN_crcN 8 h
  | m + 1, x, h => by
    have ih := iN_tN m (crcN_lt h 8)
    rw [tN]
    -- iN (m+2) y = invN 8 (iN (m+1) y), the other way about
    have comm : ∀ (k y : Nat), iN (k + 1) y = invN 8 (iN k y) := by
      intro k
      induction k with
      | zero => intro y; rfl
      | succ k ihk => intro y; rw [iN, ihk]; rfl
    rw [comm, ih, invN_crcN 8 h]

theorem fold_zeros : ∀ (k c : Nat), (List.replicate k (0 : UInt8)).foldl crcByte c = tN k c
  | 0, _ => rfl
  | k + 1, c => by
    rw [List.replicate_succ, List.foldl_cons, fold_zeros k, tN]
    congr 1
    show crcN 8 (c ^^^ (0 : UInt8).toNat) = crcN 8 c
    simp
theorem tN_lt {c : Nat} (h : c < 2 ^ 32) : ∀ k, tN k c < 2 ^ 32 := fun k => by rw [← fold_zeros]; exact crcFold_lt' _ h

def look : Nat → List Nat → Bool
  | _, [] => true
  | s, u :: us => Nat.ble 256 (s ^^^ u) && look (crcN 8 s) us
def downs : Nat → Nat → List Nat → List Nat
  | 0, _, acc => acc
  | k + 1, u, acc => downs k (invN 8 u) (invN 8 u :: acc)
theorem look_spec : ∀ (us : List Nat) (s : Nat), look s us = true → ∀ k u, us[k]? = some u → 256 ≤ tN k s ^^^ u
  | [], _, _, k, u, h => by simp at h
  | v :: us, s, hl, 0, u, h => by
    simp only [look, Bool.and_eq_true] at hl
    simp at h; subst h
    exact Nat.le_of_ble_eq_true hl.1
  | v :: us, s, hl, k + 1, u, h => by
    simp only [look, Bool.and_eq_true] at hl
    exact look_spec us _ hl.2 k u (by simpa using h)
theorem downs_get : ∀ (n u : Nat) (acc : List Nat) (k : Nat), k < n → (downs n u acc)[k]? = some (iN (n - k) u)
  | 0, _, _, _, h => by omega
  | n + 1, u, acc, k, h => by
    rw [downs]
    by_cases hk : k < n
    · rw [downs_get n _ _ k hk, show n + 1 - k = (n - k) + 1 by omega, iN]
    · have hkn : k = n := by omega
      subst hkn
      have drop : ∀ (n u : Nat) (acc : List Nat), (downs n u acc)[n]? = acc[0]? := by
        intro n
        induction n with
        | zero => intro u acc; rfl
        | succ n ih =>
          intro u acc
          rw [downs]
          have len : ∀ (n u : Nat) (a b : List Nat), ∃ l, l.length = n ∧ ∀ acc, downs n u acc = l ++ acc := by
            intro n
            induction n with
            | zero => intro u a b; exact ⟨[], rfl, fun _ => rfl⟩
            | succ n ih2 =>
              intro u a b
              obtain ⟨l, hl, h⟩ := ih2 (invN 8 u) a b
              exact ⟨l ++ [invN 8 u], by simp [hl], fun acc => by rw [downs, h]; simp⟩
          obtain ⟨l, hl, h⟩ := len n (invN 8 u) [] []
          rw [h, List.getElem?_append_right (by omega), show n + 1 - l.length = 1 by omega]; rfl
      rw [drop, show k + 1 - k = 1 by omega]; rfl

set_option maxRecDepth 100000 in
theorem zeros_ok : look 0xffffffff (downs 508 0xffffffff []) = true := by kernel_rfl
set_option maxRecDepth 100000 in
theorem zeros_sum : be 4 (crc (List.replicate 508 0)) = [0x0f, 0xbb, 0x6d, 0x54] := by kernel_rfl

theorem one_zero {n : Nat} (hn : n = 508) {body : List UInt8} {k : Nat} {v : UInt8} (hk : k < n) (hb : body = (List.replicate n 0).set k v) : crc body ≠ 0 := by
  intro h0
  have hf : crcFold body = 0xffffffff := by
    unfold crc at h0
    have := crcFold_lt body
    omega
  have e : body = List.replicate k 0 ++ v :: List.replicate (n - 1 - k) 0 := by
    rw [hb, List.set_eq_take_append_cons_drop, if_pos (by rw [List.length_replicate]; exact hk), List.take_replicate, List.drop_replicate, Nat.min_eq_left (by omega), show n - (k + 1) = n - 1 - k by omega]
  rw [e] at hf
  unfold crcFold at hf
  rw [List.foldl_append, List.foldl_cons, fold_zeros, fold_zeros] at hf
  have hs := tN_lt (c := 0xffffffff) (by decide) k
  have hv : v.toNat < 2 ^ 32 := by have := v.toNat_lt; omega
  have hx : tN k 0xffffffff ^^^ v.toNat < 2 ^ 32 := Nat.xor_lt_two_pow hs hv
  have h1 := iN_tN (n - 1 - k) hx
  unfold crcByte at hf
  rw [hf] at h1
  have h2 := look_spec _ _ zeros_ok k _ (downs_get 508 0xffffffff [] k (by omega))
  rw [show 508 - k = n - 1 - k + 1 by omega, h1, ← Nat.xor_assoc, Nat.xor_self, Nat.zero_xor] at h2
  have := v.toNat_lt
  omega

/-- THE FACT. -/
theorem turned_zero' {n : Nat} (hn : n = 508) {body : List UInt8} (hl : body.length = n) {i : Nat} {y : UInt8} (hi : i < n + 4) : (be 4 (crc body) ++ body).set i y ≠ List.replicate (n + 4) 0 := by
  intro h
  have get : ∀ j, j < n + 4 → j ≠ i → (be 4 (crc body) ++ body)[j]? = some 0 := by
    intro j hj hne
    have := congrArg (fun l => l[j]?) h
    rw [List.getElem?_set_ne (Ne.symm hne), List.getElem?_replicate, if_pos hj] at this
    exact this
  have hbl := be_len 4 (crc body)
  have bodyAt : ∀ j, j < n → j + 4 ≠ i → body[j]? = some 0 := by
    intro j hj hne
    have := get (j + 4) (by omega) hne
    rw [List.getElem?_append_right (by omega), hbl] at this
    rw [← this]; congr 1
  have rlen : (List.replicate n (0 : UInt8)).length = n := List.length_replicate
  by_cases h4 : i < 4
  · have hz : body = List.replicate n 0 := by
      apply List.ext_getElem?
      intro j
      by_cases hj : j < n
      · rw [bodyAt j hj (by omega), List.getElem?_replicate, if_pos hj]
      · rw [List.getElem?_eq_none (by omega), List.getElem?_eq_none (by omega)]
    have h0 : ∀ j, j < 4 → j ≠ i → (be 4 (crc body))[j]? = some 0 := by
      intro j hj hne
      have := get j (by omega) hne
      rwa [List.getElem?_append_left (by omega)] at this
    rw [hz, hn, zeros_sum] at h0
    by_cases hi0 : i = 0
    · exact absurd (h0 1 (by decide) (by omega)) (by decide)
    · exact absurd (h0 0 (by decide) (by omega)) (by decide)
  · have hz : body = (List.replicate n 0).set (i - 4) (body[i - 4]'(by omega)) := by
      apply List.ext_getElem?
      intro j
      by_cases hj : j < n
      · by_cases hji : j = i - 4
        · subst hji
          rw [List.getElem?_set, if_pos rfl, if_pos (by omega)]
          exact List.getElem?_eq_getElem _
        · rw [List.getElem?_set_ne (Ne.symm hji), bodyAt j hj (by omega), List.getElem?_replicate, if_pos hj]
      · rw [List.getElem?_eq_none (by omega), List.getElem?_eq_none (by rw [List.length_set]; omega)]
    refine one_zero hn (by omega) hz ?_
    have h0 : be 4 (crc body) = be 4 0 := by
      apply List.ext_getElem?
      intro j
      by_cases hj : j < 4
      · have := get j (by omega) (by omega)
        rw [List.getElem?_append_left (by omega)] at this
        rw [this]
        rcases (by omega : j = 0 ∨ j = 1 ∨ j = 2 ∨ j = 3) with rfl | rfl | rfl | rfl <;> rfl
      · rw [List.getElem?_eq_none (by omega), List.getElem?_eq_none (by rw [be_len]; omega)]
    exact be_inj h0 (by have := crc_lt body; omega) (by decide)
theorem turned_zero {body : List UInt8} (hl : body.length = 508) {i : Nat} {y : UInt8} (hi : i < 512) : (be 4 (crc body) ++ body).set i y ≠ List.replicate 512 0 := turned_zero' rfl hl hi

end Go.Vc
