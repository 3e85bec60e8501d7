/-
  Labels, plain: the bits of a number, rows of bits as bytes, a label's bytes, how they stand.
-/
import Derived.Test.YtjjmnfpdkgnmoaaHeap
import GoSem.Op.String
set_option linter.unusedVariables false
set_option linter.unusedSimpArgs false
namespace Go.Vc
open Go

/-! ## How many bits -/
def blen (n : Nat) : Nat := if n = 0 then 0 else n.log2 + 1
theorem blen_of {n j : Nat} (h1 : 2 ^ j ≤ n) (h2 : n < 2 ^ (j + 1)) : blen n = j + 1 := by
  have hn : n ≠ 0 := by have := Nat.two_pow_pos j; omega
  have a := (Nat.le_log2 hn).2 h1
  have b := (Nat.log2_lt hn).2 h2
  unfold blen
  rw [if_neg hn]; omega
theorem blen_spec {n : Nat} (h : n ≠ 0) : ∃ j, blen n = j + 1 ∧ 2 ^ j ≤ n ∧ n < 2 ^ (j + 1) :=
  ⟨n.log2, by unfold blen; rw [if_neg h], (Nat.le_log2 h).1 (Nat.le_refl _), (Nat.log2_lt h).1 (Nat.lt_succ_self _)⟩
theorem blen_shift {n s : Nat} (h : 2 ^ s ≤ n) : blen n = blen (n / 2 ^ s) + s := by
  have hp := Nat.two_pow_pos s
  have hq : n / 2 ^ s ≠ 0 := by
    have := Nat.div_pos h hp; omega
  obtain ⟨j, e, h1, h2⟩ := blen_spec hq
  rw [e]
  have g1 : 2 ^ (j + s) ≤ n := by rw [Nat.pow_add]; exact (Nat.le_div_iff_mul_le hp).1 h1
  have g2 : n < 2 ^ (j + s + 1) := by
    have := (Nat.div_lt_iff_lt_mul hp).1 h2
    rw [show j + s + 1 = (j + 1) + s by omega, Nat.pow_add]; exact this
  rw [blen_of g1 g2]; omega
theorem blen_le {n k : Nat} (h : n < 2 ^ k) : blen n ≤ k := by
  unfold blen
  split
  · omega
  · next hn => have := (Nat.log2_lt hn).2 h; omega

/-! ## The bits of a number -/
def lowB (n : Nat) : Nat → List Bool
  | 0 => []
  | j + 1 => n.testBit j :: lowB n j
theorem lowB_len (n : Nat) : ∀ j, (lowB n j).length = j
  | 0 => rfl
  | j + 1 => by simp [lowB, lowB_len n j]
theorem lowB_get (n : Nat) : ∀ (j t : Nat), t < j → (lowB n j)[t]? = some (n.testBit (j - 1 - t))
  | 0, t, h => absurd h (by omega)
  | j + 1, 0, _ => by simp [lowB]
  | j + 1, t + 1, h => by
    simp only [lowB, List.getElem?_cons_succ]
    rw [lowB_get n j t (by omega)]
    congr 2; omega
/-- 's' as often as the number has bits, its opposite once, and the bits behind the first one. -/
def encN (s : Bool) (n : Nat) : List Bool := List.replicate (blen n) s ++ (!s) :: (lowB n (blen n - 1)).map (· == s)
theorem encN_len (s : Bool) {n : Nat} (h : n ≠ 0) : (encN s n).length = 2 * blen n := by
  obtain ⟨j, e, _⟩ := blen_spec h
  simp only [encN, List.length_append, List.length_replicate, List.length_cons, List.length_map, lowB_len]
  omega
theorem encN_run (s : Bool) (n i : Nat) (h : i < blen n) : (encN s n)[i]? = some s := by
  unfold encN
  rw [List.getElem?_append_left (by simpa using h)]
  simp [h]
theorem encN_stop (s : Bool) (n : Nat) : (encN s n)[blen n]? = some (!s) := by
  unfold encN
  rw [List.getElem?_append_right (by simp)]
  simp
theorem encN_low (s : Bool) (n t : Nat) (h : t < blen n - 1) : (encN s n)[blen n + 1 + t]? = some (n.testBit (blen n - 2 - t) == s) := by
  unfold encN
  rw [List.getElem?_append_right (by simp; omega)]
  rw [List.length_replicate, show blen n + 1 + t - blen n = t + 1 by omega, List.getElem?_cons_succ, List.getElem?_map, lowB_get n _ t h]
  simp only [Option.map_some]
  congr 3 <;> omega

def bitsV (v : Int) : List Bool := if v < 0 then encN false (-v).toNat else encN true (v + 1).toNat
def flatB (l : List Int) : List Bool := l.flatMap bitsV
theorem flatB_nil : flatB [] = [] := rfl
theorem flatB_cons (v : Int) (l : List Int) : flatB (v :: l) = bitsV v ++ flatB l := by simp [flatB]
theorem flatB_append (a b : List Int) : flatB (a ++ b) = flatB a ++ flatB b := by simp [flatB]
theorem bitsV_len_pos (v : Int) : 2 ≤ (bitsV v).length := by
  unfold bitsV
  split
  · next h =>
    have hn : (-v).toNat ≠ 0 := by omega
    obtain ⟨j, e, _⟩ := blen_spec hn
    rw [encN_len _ hn, e]; omega
  · next h =>
    have hn : (v + 1).toNat ≠ 0 := by omega
    obtain ⟨j, e, _⟩ := blen_spec hn
    rw [encN_len _ hn, e]; omega

/-! ## Which stands first -/
theorem low_first {n m : Nat} (hlt : n < m) : ∀ j, n / 2 ^ j = m / 2 ^ j → ∃ t, t < j ∧ (∀ u, t < u → u < j → n.testBit u = m.testBit u) ∧ n.testBit t = false ∧ m.testBit t = true
  | 0, h => by simp at h; omega
  | j + 1, h => by
    have e1 : n / 2 ^ (j + 1) = n / 2 ^ j / 2 := by rw [Nat.pow_succ, Nat.div_div_eq_div_mul]
    have e2 : m / 2 ^ (j + 1) = m / 2 ^ j / 2 := by rw [Nat.pow_succ, Nat.div_div_eq_div_mul]
    have hd : n / 2 ^ j ≤ m / 2 ^ j := Nat.div_le_div_right (Nat.le_of_lt hlt)
    have b1 : n.testBit j = decide (n / 2 ^ j % 2 = 1) := Nat.testBit_eq_decide_div_mod_eq
    have b2 : m.testBit j = decide (m / 2 ^ j % 2 = 1) := Nat.testBit_eq_decide_div_mod_eq
    rw [e1, e2] at h
    by_cases hq : n / 2 ^ j = m / 2 ^ j
    · obtain ⟨t, h1, h2, h3, h4⟩ := low_first hlt j hq
      refine ⟨t, by omega, fun u hu1 hu2 => ?_, h3, h4⟩
      by_cases huj : u = j
      · subst huj; rw [b1, b2, hq]
      · exact h2 u hu1 (by omega)
    · refine ⟨j, by omega, fun u hu1 hu2 => by omega, ?_, ?_⟩
      · rw [b1]; exact decide_eq_false (by omega)
      · rw [b2]; exact decide_eq_true (by omega)

/-- The first place at which two rows of bits part. -/
def First (x y : List Bool) : Prop := ∃ p : Nat, (∀ i : Nat, i < p → x[i]? = y[i]?) ∧ x[p]? = some false ∧ y[p]? = some true

theorem enc_first {n m : Nat} (hn : n ≠ 0) (hlt : n < m) : First (encN true n) (encN true m) ∧ First (encN false m) (encN false n) := by
  have hm : m ≠ 0 := by omega
  obtain ⟨j, e, h1, h2⟩ := blen_spec hn
  obtain ⟨j', e', h1', h2'⟩ := blen_spec hm
  have hjj : j ≤ j' := by
    rcases Nat.lt_or_ge j' j with h | h
    · have : 2 ^ (j' + 1) ≤ 2 ^ j := Nat.pow_le_pow_right (by decide) h
      omega
    · exact h
  rcases Nat.lt_or_ge j j' with hl | hl
  · constructor
    · refine ⟨blen n, fun i hi => ?_, encN_stop true n, encN_run true m _ (by omega)⟩
      rw [encN_run true n i hi, encN_run true m i (by omega)]
    · refine ⟨blen n, fun i hi => ?_, encN_run false m _ (by omega), encN_stop false n⟩
      rw [encN_run false n i hi, encN_run false m i (by omega)]
  · have hje : j' = j := by omega
    subst hje
    have hd : n / 2 ^ j' = m / 2 ^ j' := by
      have a : n / 2 ^ j' = 1 := by
        have hp := Nat.two_pow_pos j'
        have := (Nat.le_div_iff_mul_le hp).2 (show 1 * 2 ^ j' ≤ n by omega)
        have := (Nat.div_lt_iff_lt_mul hp).2 (show n < 2 * 2 ^ j' by rw [Nat.pow_succ] at h2; omega)
        omega
      have b : m / 2 ^ j' = 1 := by
        have hp := Nat.two_pow_pos j'
        have := (Nat.le_div_iff_mul_le hp).2 (show 1 * 2 ^ j' ≤ m by omega)
        have := (Nat.div_lt_iff_lt_mul hp).2 (show m < 2 * 2 ^ j' by rw [Nat.pow_succ] at h2'; omega)
        omega
      rw [a, b]
    obtain ⟨t, ht, hs, hf, hg⟩ := low_first hlt j' hd
    have hb : blen n = blen m := by omega
    have agree : ∀ s : Bool, ∀ i, i < blen n + 1 + (blen n - 2 - t) → (encN s n)[i]? = (encN s m)[i]? := by
      intro s i hi
      rcases Nat.lt_trichotomy i (blen n) with h | h | h
      · rw [encN_run s n i h, encN_run s m i (by omega)]
      · subst h; rw [encN_stop, hb, encN_stop]
      · obtain ⟨u, rfl⟩ : ∃ u, i = blen n + 1 + u := ⟨i - blen n - 1, by omega⟩
        rw [encN_low s n u (by omega), hb, encN_low s m u (by omega)]
        rw [← hb, hs (blen n - 2 - u) (by omega) (by omega)]
    have at_ : ∀ s : Bool, (encN s n)[blen n + 1 + (blen n - 2 - t)]? = some (n.testBit t == s) ∧ (encN s m)[blen n + 1 + (blen n - 2 - t)]? = some (m.testBit t == s) := by
      intro s
      have q : blen n - 2 - (blen n - 2 - t) = t := by omega
      have r1 := encN_low s n (blen n - 2 - t) (by omega)
      have r2 := encN_low s m (blen m - 2 - t) (by omega)
      rw [q] at r1
      rw [← hb, q] at r2
      exact ⟨r1, r2⟩
    constructor
    · exact ⟨_, agree true, by rw [(at_ true).1, hf]; rfl, by rw [(at_ true).2, hg]; rfl⟩
    · exact ⟨_, fun i hi => (agree false i hi).symm, by rw [(at_ false).2, hg]; rfl, by rw [(at_ false).1, hf]; rfl⟩
theorem bitsV_first {v u : Int} (h : v < u) : First (bitsV v) (bitsV u) := by
  unfold bitsV
  by_cases hv : v < 0
  · rw [if_pos hv]
    by_cases hu : u < 0
    · rw [if_pos hu]
      exact (enc_first (n := (-u).toNat) (m := (-v).toNat) (by omega) (by omega)).2
    · rw [if_neg hu]
      obtain ⟨j, e, _⟩ := blen_spec (n := (-v).toNat) (by omega)
      obtain ⟨j', e', _⟩ := blen_spec (n := (u + 1).toNat) (by omega)
      exact ⟨0, fun i hi => by omega, encN_run false _ 0 (by omega), encN_run true _ 0 (by omega)⟩
  · rw [if_neg hv, if_neg (by omega)]
    exact (enc_first (n := (v + 1).toNat) (m := (u + 1).toNat) (by omega) (by omega)).1
/-- In each number's bits there is a 1, and just noughts ahead of the first. -/
theorem bitsV_one (v : Int) : ∃ p, p < (bitsV v).length ∧ (∀ i, i < p → (bitsV v)[i]? = some false) ∧ (bitsV v)[p]? = some true := by
  unfold bitsV
  split
  · next h =>
    have hn : (-v).toNat ≠ 0 := by omega
    obtain ⟨j, e, _⟩ := blen_spec hn
    exact ⟨blen (-v).toNat, by rw [encN_len _ hn]; omega, fun i hi => encN_run false _ i hi, encN_stop false _⟩
  · next h =>
    have hn : (v + 1).toNat ≠ 0 := by omega
    obtain ⟨j, e, _⟩ := blen_spec hn
    exact ⟨0, by rw [encN_len _ hn]; omega, fun i hi => by omega, encN_run true _ 0 (by omega)⟩

/-! ## Bytes -/
def bitAt (bs : List UInt8) (i : Nat) : Bool := (bs.getD (i / 8) 0).toNat.testBit (7 - i % 8)
def Rp (bs : List UInt8) (bits : List Bool) : Prop := bs.length = (bits.length + 7) / 8 ∧ ∀ i, bitAt bs i = bits.getD i false
def setB (x : UInt8) (t : Nat) : UInt8 := UInt8.ofNat (x.toNat ||| 2 ^ (7 - t))
def putB (bs : List UInt8) (n : Nat) (on : Bool) : List UInt8 :=
  let r := if n % 8 = 0 then bs ++ [0] else bs
  if on then r.set (n / 8) (setB (r.getD (n / 8) 0) (n % 8)) else r
theorem bitAt_push (bs : List UInt8) (i : Nat) : bitAt (bs ++ [0]) i = bitAt bs i := by
  unfold bitAt
  simp only [List.getD_eq_getElem?_getD]
  rcases Nat.lt_trichotomy (i / 8) bs.length with h | h | h
  · rw [List.getElem?_append_left h]
  · rw [List.getElem?_append_right (by omega), h]; simp
  · rw [List.getElem?_append_right (by omega), List.getElem?_eq_none (by simp; omega), List.getElem?_eq_none (by omega)]
theorem setB_bit (x : UInt8) {t u : Nat} (ht : t < 8) (hu : u < 8) : (setB x t).toNat.testBit (7 - u) = (x.toNat.testBit (7 - u) || decide (t = u)) := by
  unfold setB
  have h1 : x.toNat < 2 ^ 8 := x.toNat_lt
  have h2 : 2 ^ (7 - t) < 2 ^ 8 := Nat.pow_lt_pow_right (by decide) (by omega)
  have h3 : x.toNat ||| 2 ^ (7 - t) < 2 ^ 8 := Nat.or_lt_two_pow h1 h2
  rw [show (UInt8.ofNat (x.toNat ||| 2 ^ (7 - t))).toNat = x.toNat ||| 2 ^ (7 - t) from by simp only [UInt8.toNat_ofNat']; exact Nat.mod_eq_of_lt h3, Nat.testBit_or, Nat.testBit_two_pow]
  congr 1
  apply decide_eq_decide.2
  omega
theorem getD_snoc (bits : List Bool) (on : Bool) (i : Nat) : (bits ++ [on]).getD i false = (bits.getD i false || (on && decide (i = bits.length))) := by
  simp only [List.getD_eq_getElem?_getD]
  rcases Nat.lt_trichotomy i bits.length with h | h | h
  · rw [List.getElem?_append_left h, decide_eq_false (by omega)]; simp
  · rw [List.getElem?_append_right (by omega), h, List.getElem?_eq_none (Nat.le_refl _)]; simp
  · rw [List.getElem?_append_right (by omega), List.getElem?_eq_none (by simp; omega), List.getElem?_eq_none (by omega), decide_eq_false (by omega)]; simp
theorem Rp.put {bs : List UInt8} {bits : List Bool} (h : Rp bs bits) (on : Bool) : Rp (putB bs bits.length on) (bits ++ [on]) := by
  obtain ⟨hl, hb⟩ := h
  have key : ∃ r : List UInt8, r = (if bits.length % 8 = 0 then bs ++ [0] else bs) ∧ r.length = (bits.length + 1 + 7) / 8 ∧ ∀ i, bitAt r i = bits.getD i false := by
    refine ⟨_, rfl, ?_, ?_⟩
    · split
      · rw [List.length_append, List.length_singleton]; omega
      · omega
    · intro i
      split
      · rw [bitAt_push]; exact hb i
      · exact hb i
  obtain ⟨r, hr, hlr, hbr⟩ := key
  unfold putB
  simp only
  rw [← hr]
  cases on with
  | false =>
    refine ⟨by simp only [Bool.false_eq_true, if_false]; rw [hlr, List.length_append, List.length_singleton], fun i => ?_⟩
    simp only [Bool.false_eq_true, if_false]
    rw [hbr, getD_snoc]; simp
  | true =>
    simp only [if_true]
    refine ⟨by rw [List.length_set, hlr, List.length_append, List.length_singleton], fun i => ?_⟩
    rw [getD_snoc, ← hbr, Bool.true_and]
    unfold bitAt
    simp only [List.getD_eq_getElem?_getD, List.getElem?_set]
    by_cases hi : bits.length / 8 = i / 8
    · rw [if_pos hi, if_pos (by omega)]
      simp only [Option.getD_some]
      rw [hi, setB_bit _ (Nat.mod_lt _ (by decide)) (Nat.mod_lt _ (by decide))]
      congr 1
      apply decide_eq_decide.2
      omega
    · rw [if_neg hi, show decide (i = bits.length) = false from decide_eq_false (fun e => hi (by rw [e])), Bool.or_false]
theorem Rp.nil : Rp [] [] := ⟨rfl, fun i => by simp [bitAt]⟩
theorem byte_bits {x y : UInt8} (h : ∀ u, u < 8 → x.toNat.testBit (7 - u) = y.toNat.testBit (7 - u)) : x = y := by
  apply UInt8.toNat_inj.1
  apply Nat.eq_of_testBit_eq
  intro i
  by_cases hi : i < 8
  · have := h (7 - i) (by omega)
    rwa [show 7 - (7 - i) = i by omega] at this
  · have h1 : x.toNat < 2 ^ i := Nat.lt_of_lt_of_le x.toNat_lt (Nat.pow_le_pow_right (by decide) (by omega) : 2 ^ 8 ≤ 2 ^ i)
    have h2 : y.toNat < 2 ^ i := Nat.lt_of_lt_of_le y.toNat_lt (Nat.pow_le_pow_right (by decide) (by omega) : 2 ^ 8 ≤ 2 ^ i)
    rw [Nat.testBit_lt_two_pow h1, Nat.testBit_lt_two_pow h2]
theorem Rp.uniq {bs cs : List UInt8} {bits : List Bool} (h : Rp bs bits) (k : Rp cs bits) : bs = cs := by
  apply List.ext_getElem (h.1.trans k.1.symm)
  intro j h1 h2
  apply byte_bits
  intro u hu
  have a := h.2 (8 * j + u)
  have b := k.2 (8 * j + u)
  unfold bitAt at a b
  rw [show (8 * j + u) / 8 = j by omega, show (8 * j + u) % 8 = u by omega] at a b
  simp only [List.getD_eq_getElem?_getD, List.getElem?_eq_getElem h1, List.getElem?_eq_getElem h2, Option.getD_some] at a b
  rw [a, b]
/-- Rows of bits as bytes. -/
def packN (bits : List Bool) : Nat → List UInt8
  | 0 => []
  | n + 1 => putB (packN bits n) n (bits.getD n false)
def pack (bits : List Bool) : List UInt8 := packN bits bits.length
theorem packN_rp (bits : List Bool) : ∀ n, n ≤ bits.length → Rp (packN bits n) (bits.take n)
  | 0, _ => by rw [List.take_zero]; exact Rp.nil
  | n + 1, h => by
    have := (packN_rp bits n (by omega)).put (bits.getD n false)
    rw [List.length_take, Nat.min_eq_left (by omega)] at this
    have e : bits.take (n + 1) = bits.take n ++ [bits.getD n false] := by
      rw [List.getD_eq_getElem?_getD, List.getElem?_eq_getElem (by omega), Option.getD_some, List.take_append_getElem]
    rw [e]; exact this
theorem pack_rp (bits : List Bool) : Rp (pack bits) bits := by
  have := packN_rp bits bits.length (Nat.le_refl _)
  rwa [List.take_length] at this

/-! ## Bytes stand as bits do -/
theorem nat_first {n m i : Nat} (h1 : n.testBit i = false) (h2 : m.testBit i = true) (h3 : ∀ j, i < j → n.testBit j = m.testBit j) : n < m := by
  have e : n / 2 ^ (i + 1) = m / 2 ^ (i + 1) := by
    apply Nat.eq_of_testBit_eq
    intro j
    rw [Nat.testBit_div_two_pow, Nat.testBit_div_two_pow]
    exact h3 _ (by omega)
  rw [Nat.testBit_eq_decide_div_mod_eq] at h1 h2
  have g1 := of_decide_eq_false h1
  have g2 := of_decide_eq_true h2
  rw [Nat.pow_succ, ← Nat.div_div_eq_div_mul, ← Nat.div_div_eq_div_mul] at e
  have : n / 2 ^ i < m / 2 ^ i := by omega
  exact Nat.lt_of_div_lt_div this
theorem bitAt_cons (a : UInt8) (x : List UInt8) (i : Nat) : bitAt (a :: x) (i + 8) = bitAt x i := by
  unfold bitAt
  rw [show (i + 8) / 8 = i / 8 + 1 by omega, show (i + 8) % 8 = i % 8 by omega, List.getD_cons_succ]
theorem bitAt_head (a : UInt8) (x : List UInt8) {i : Nat} (h : i < 8) : bitAt (a :: x) i = a.toNat.testBit (7 - i) := by
  unfold bitAt
  rw [show i / 8 = 0 by omega, show i % 8 = i by omega]; rfl
theorem bytes_first : ∀ (x y : List UInt8) (p : Nat), (∀ i, i < p → bitAt x i = bitAt y i) → bitAt x p = false → bitAt y p = true → Op.bytesLess x y = true
  | x, [], p, _, _, h => by simp [bitAt] at h
  | [], b :: y, p, _, _, _ => rfl
  | a :: x, b :: y, p, h1, h2, h3 => by
    unfold Op.bytesLess
    by_cases hp : p < 8
    · rw [bitAt_head _ _ hp] at h2 h3
      have : a.toNat < b.toNat := by
        refine nat_first h2 h3 fun j hj => ?_
        by_cases hj8 : j < 8
        · have := h1 (7 - j) (by omega)
          rw [bitAt_head _ _ (by omega), bitAt_head _ _ (by omega), show 7 - (7 - j) = j by omega] at this
          exact this
        · have q1 : a.toNat < 2 ^ j := Nat.lt_of_lt_of_le a.toNat_lt (Nat.pow_le_pow_right (by decide) (by omega) : 2 ^ 8 ≤ 2 ^ j)
          have q2 : b.toNat < 2 ^ j := Nat.lt_of_lt_of_le b.toNat_lt (Nat.pow_le_pow_right (by decide) (by omega) : 2 ^ 8 ≤ 2 ^ j)
          rw [Nat.testBit_lt_two_pow q1, Nat.testBit_lt_two_pow q2]
      have : a < b := UInt8.lt_iff_toNat_lt.2 this
      simp [this]
    · have hab : a = b := byte_bits fun u hu => by
        have := h1 u (by omega)
        rwa [bitAt_head _ _ hu, bitAt_head _ _ hu] at this
      subst hab
      have := bytes_first x y (p - 8) (fun i hi => by
        have := h1 (i + 8) (by omega)
        rwa [bitAt_cons, bitAt_cons] at this) (by
        rw [← bitAt_cons a x, show p - 8 + 8 = p by omega]; exact h2) (by
        rw [← bitAt_cons a y, show p - 8 + 8 = p by omega]; exact h3)
      simp [this]
theorem less_irrefl : ∀ x : List UInt8, Op.bytesLess x x = false
  | [] => rfl
  | a :: x => by unfold Op.bytesLess; simp [less_irrefl x]
theorem less_asymm : ∀ {x y : List UInt8}, Op.bytesLess x y = true → Op.bytesLess y x = false
  | [], [], h => rfl
  | [], _ :: _, _ => rfl
  | _ :: _, [], h => by simp [Op.bytesLess] at h
  | a :: x, b :: y, h => by
    unfold Op.bytesLess at h ⊢
    simp only [Bool.or_eq_true, decide_eq_true_eq, Bool.and_eq_true, beq_iff_eq] at h
    rcases h with h | ⟨rfl, h⟩
    · have h1 := UInt8.lt_iff_toNat_lt.1 h
      have n1 : ¬ b < a := fun h2 => by have := UInt8.lt_iff_toNat_lt.1 h2; omega
      have n2 : ¬ b = a := fun e => by subst e; omega
      simp [n1, n2]
    · simp [less_asymm h]

/-! ## Lists -/
def cmpL : List Int → List Int → Int
  | [], [] => 0
  | [], _ :: _ => -1
  | _ :: _, [] => 1
  | a :: x, b :: y => if a < b then -1 else if a > b then 1 else cmpL x y
theorem cmpL_refl : ∀ l, cmpL l l = 0
  | [] => rfl
  | a :: l => by unfold cmpL; simp [cmpL_refl l]
theorem cmpL_zero : ∀ {a b : List Int}, cmpL a b = 0 → a = b
  | [], [], _ => rfl
  | [], _ :: _, h => by simp [cmpL] at h
  | _ :: _, [], h => by simp [cmpL] at h
  | a :: x, b :: y, h => by
    unfold cmpL at h
    split at h
    · simp at h
    · split at h
      · simp at h
      · rw [cmpL_zero h, show a = b by omega]
theorem cmpL_cases : ∀ (a b : List Int), cmpL a b = -1 ∨ cmpL a b = 0 ∨ cmpL a b = 1
  | [], [] => by simp [cmpL]
  | [], _ :: _ => by simp [cmpL]
  | _ :: _, [] => by simp [cmpL]
  | a :: x, b :: y => by
    unfold cmpL
    split
    · simp
    · split
      · simp
      · exact cmpL_cases x y
theorem cmpL_swap : ∀ (a b : List Int), cmpL b a = -cmpL a b
  | [], [] => by simp [cmpL]
  | [], _ :: _ => by simp [cmpL]
  | _ :: _, [] => by simp [cmpL]
  | a :: x, b :: y => by
    unfold cmpL
    repeat' split
    all_goals first | rfl | omega | exact cmpL_swap x y
theorem flat_first : ∀ (a b : List Int), cmpL a b = -1 → ∃ p, (∀ i, i < p → (flatB a).getD i false = (flatB b).getD i false) ∧ (flatB a).getD p false = false ∧ (flatB b).getD p false = true
  | [], [], h => by simp [cmpL] at h
  | _ :: _, [], h => by simp [cmpL] at h
  | [], u :: b, _ => by
    obtain ⟨p, hp, h1, h2⟩ := bitsV_one u
    refine ⟨p, fun i hi => ?_, by simp [flatB_nil], ?_⟩
    · rw [flatB_cons, flatB_nil, List.getD_eq_getElem?_getD, List.getD_eq_getElem?_getD, List.getElem?_append_left (by omega), h1 i hi]; rfl
    · rw [flatB_cons, List.getD_eq_getElem?_getD, List.getElem?_append_left hp, h2]; rfl
  | v :: a, u :: b, h => by
    unfold cmpL at h
    split at h
    · next hlt =>
      obtain ⟨p, h1, h2, h3⟩ := bitsV_first hlt
      have l1 := (List.getElem?_eq_some_iff.1 h2).1
      have l2 := (List.getElem?_eq_some_iff.1 h3).1
      refine ⟨p, fun i hi => ?_, ?_, ?_⟩
      · rw [flatB_cons, flatB_cons, List.getD_eq_getElem?_getD, List.getD_eq_getElem?_getD, List.getElem?_append_left (by omega), List.getElem?_append_left (by omega), h1 i hi]
      · rw [flatB_cons, List.getD_eq_getElem?_getD, List.getElem?_append_left l1, h2]; rfl
      · rw [flatB_cons, List.getD_eq_getElem?_getD, List.getElem?_append_left l2, h3]; rfl
    · split at h
      · simp at h
      · have e : v = u := by omega
        subst e
        obtain ⟨p, h1, h2, h3⟩ := flat_first a b h
        have sh : ∀ (l : List Int) (i : Nat), (flatB (v :: l)).getD ((bitsV v).length + i) false = (flatB l).getD i false := fun l i => by
          rw [flatB_cons, List.getD_eq_getElem?_getD, List.getD_eq_getElem?_getD, List.getElem?_append_right (by omega), Nat.add_sub_cancel_left]
        refine ⟨(bitsV v).length + p, fun i hi => ?_, by rw [sh]; exact h2, by rw [sh]; exact h3⟩
        by_cases hi2 : i < (bitsV v).length
        · rw [flatB_cons, flatB_cons, List.getD_eq_getElem?_getD, List.getD_eq_getElem?_getD, List.getElem?_append_left hi2, List.getElem?_append_left hi2]
        · obtain ⟨k, rfl⟩ : ∃ k, i = (bitsV v).length + k := ⟨i - (bitsV v).length, by omega⟩
          rw [sh, sh]
          exact h1 k (by omega)
/-- THE BYTES STAND AS THE LABELS DO. -/
theorem pack_less {a b : List Int} (h : cmpL a b = -1) : Op.bytesLess (pack (flatB a)) (pack (flatB b)) = true := by
  obtain ⟨p, h1, h2, h3⟩ := flat_first a b h
  exact bytes_first _ _ p (fun i hi => by rw [(pack_rp _).2, (pack_rp _).2, h1 i hi]) (by rw [(pack_rp _).2, h2]) (by rw [(pack_rp _).2, h3])
theorem pack_inj {a b : List Int} (h : pack (flatB a) = pack (flatB b)) : a = b := by
  rcases cmpL_cases a b with e | e | e
  · have := pack_less e
    rw [h, less_irrefl] at this; cases this
  · exact cmpL_zero e
  · have e' : cmpL b a = -1 := by rw [cmpL_swap, e]
    have := pack_less e'
    rw [h, less_irrefl] at this; cases this

/-! ## A label's bytes -/
def badB (l : List Int) : Bool := l.any (fun v => decide (v < -1073741824) || decide (v > 1073741824)) || (match l.getLast? with | some v => decide (v % 2 = 0) | none => false)
/-- The bytes, and the error. -/
def lab (l : List Int) : List UInt8 × Int := if badB l = true then ([], 11) else if (flatB l).length > 960 then ([], 5) else (pack (flatB l), 0)
theorem lab_ok {l : List Int} (h : (lab l).2 = 0) : badB l = false ∧ (flatB l).length ≤ 960 ∧ (lab l).1 = pack (flatB l) := by
  unfold lab at h ⊢
  split at h
  · simp at h
  · next hb =>
    rw [if_neg hb]
    split at h
    · simp at h
    · next hl => rw [if_neg hl]; exact ⟨by simpa using hb, by omega, rfl⟩
theorem lab_inj {a b : List Int} (h1 : (lab a).2 = 0) (h2 : (lab b).2 = 0) (h : (lab a).1 = (lab b).1) : a = b := by
  rw [(lab_ok h1).2.2, (lab_ok h2).2.2] at h
  exact pack_inj h
theorem lab_less {a b : List Int} (h1 : (lab a).2 = 0) (h2 : (lab b).2 = 0) (h : cmpL a b = -1) : Op.bytesLess (lab a).1 (lab b).1 = true := by
  rw [(lab_ok h1).2.2, (lab_ok h2).2.2]; exact pack_less h
theorem bad_range {l : List Int} (h : badB l = false) : ∀ v ∈ l, -1073741824 ≤ v ∧ v ≤ 1073741824 := by
  intro v hv
  simp only [badB, Bool.or_eq_false_iff, List.any_eq_false, Bool.or_eq_true, decide_eq_true_eq, not_or] at h
  have := h.1 v hv
  omega
end Go.Vc

