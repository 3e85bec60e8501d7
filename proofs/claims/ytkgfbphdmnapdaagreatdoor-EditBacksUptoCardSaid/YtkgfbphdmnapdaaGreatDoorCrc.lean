/-
  Plain facts: numbers as bytes, the sum of bytes, and that one byte turned turns the sum.
-/
import Derived.Test.YtkgfbphdmnapdaaGreatDoorRows2
namespace Go.Vc
open Go

/-! ## Numbers as bytes, the highest first -/

def be : Nat → Nat → List UInt8
  | 0, _ => []
  | k + 1, n => UInt8.ofNat (n / 256 ^ k) :: be k n
def beVal (l : List UInt8) : Nat := l.foldl (fun n c => 256 * n + c.toNat) 0

theorem be_len : ∀ (k n : Nat), (be k n).length = k
  | 0, _ => rfl
  | k + 1, n => by simp [be, be_len k n]
theorem beVal_foldl (l : List UInt8) (a : Nat) : l.foldl (fun n c => 256 * n + c.toNat) a = a * 256 ^ l.length + beVal l := by
  unfold beVal
  induction l generalizing a with
  | nil => simp
  | cons c l ih =>
    simp only [List.foldl_cons, List.length_cons]
    rw [ih (256 * a + c.toNat), ih (256 * 0 + c.toNat), Nat.pow_succ]
    have : a * (256 ^ l.length * 256) = 256 * a * 256 ^ l.length := by rw [Nat.mul_comm (256 ^ l.length), ← Nat.mul_assoc, Nat.mul_comm a]
    rw [this, Nat.add_mul]; simp only [Nat.mul_zero, Nat.zero_add]; omega
theorem beVal_cons (c : UInt8) (l : List UInt8) : beVal (c :: l) = c.toNat * 256 ^ l.length + beVal l := by
  have := beVal_foldl l (256 * 0 + c.toNat)
  have e : beVal (c :: l) = l.foldl (fun n c => 256 * n + c.toNat) (256 * 0 + c.toNat) := rfl
  rw [e, this]; simp
theorem beVal_be : ∀ (k n : Nat), beVal (be k n) = n % 256 ^ k
  | 0, n => by simp [be, beVal, Nat.mod_one]
  | k + 1, n => by
    rw [be, beVal_cons, beVal_be k n, be_len, UInt8.toNat_ofNat']
    have h1 := Nat.mod_mul (x := n) (a := 256 ^ k) (b := 256)
    rw [show (256 : Nat) ^ (k + 1) = 256 ^ k * 256 from rfl, h1, Nat.mul_comm (256 ^ k)]
    simp only [show (2 ^ 8 : Nat) = 256 from rfl]
    omega
theorem be_inj {k n m : Nat} (h : be k n = be k m) (hn : n < 256 ^ k) (hm : m < 256 ^ k) : n = m := by
  have := congrArg beVal h
  rw [beVal_be, beVal_be, Nat.mod_eq_of_lt hn, Nat.mod_eq_of_lt hm] at this; exact this
theorem beVal_lt (l : List UInt8) : beVal l < 256 ^ l.length := by
  induction l with
  | nil => simp [beVal]
  | cons c l ih =>
    rw [beVal_cons, List.length_cons, Nat.pow_succ]
    have hc : c.toNat ≤ 255 := by have := c.toNat_lt; omega
    have : c.toNat * 256 ^ l.length ≤ 255 * 256 ^ l.length := Nat.mul_le_mul_right _ hc
    omega
theorem be_mod (k n : Nat) : be k (n % 256 ^ k) = be k n := by
  suffices ∀ j, j ≤ k → be j (n % 256 ^ k) = be j n from this k (Nat.le_refl _)
  intro j
  induction j with
  | zero => intro _; rfl
  | succ j ih =>
    intro hj
    rw [be, be, ih (by omega)]
    congr 1
    apply UInt8.toNat_inj.1
    rw [UInt8.toNat_ofNat', UInt8.toNat_ofNat']
    simp only [show (2 ^ 8 : Nat) = 256 from rfl]
    obtain ⟨d, rfl⟩ : ∃ d, k = j + 1 + d := ⟨k - (j + 1), by omega⟩
    rw [Nat.pow_add, Nat.pow_succ, Nat.mul_assoc, Nat.mod_mul_right_div_self, Nat.mod_mul_right_mod]
theorem be_beVal (l : List UInt8) : be l.length (beVal l) = l := by
  induction l with
  | nil => rfl
  | cons c l ih =>
    rw [List.length_cons, be, beVal_cons]
    have hlt := beVal_lt l
    have hp : 0 < 256 ^ l.length := Nat.pow_pos (by decide)
    congr 1
    · rw [Nat.mul_comm, Nat.mul_add_div hp, Nat.div_eq_of_lt hlt]; simp
    · have h1 : be l.length (c.toNat * 256 ^ l.length + beVal l) = be l.length (beVal l) := by
        rw [← be_mod, Nat.mul_comm, Nat.mul_add_mod, Nat.mod_eq_of_lt hlt]
      rw [h1, ih]

/-! ## The sum -/

def crcStep (c : Nat) : Nat := if c % 2 = 1 then (c / 2) ^^^ 0xedb88320 else c / 2
def crcN : Nat → Nat → Nat
  | 0, c => c
  | k + 1, c => crcN k (crcStep c)
def crcByte (c : Nat) (b : UInt8) : Nat := crcN 8 (c ^^^ b.toNat)
def crcFold (p : List UInt8) : Nat := p.foldl crcByte 0xffffffff
def crc (p : List UInt8) : Nat := 0xffffffff - crcFold p

theorem crcStep_lt {c : Nat} (h : c < 2 ^ 32) : crcStep c < 2 ^ 32 := by
  unfold crcStep
  split
  · exact Nat.xor_lt_two_pow (by omega) (by decide)
  · omega
theorem crcN_succ (k c : Nat) : crcN (k + 1) c = crcStep (crcN k c) := by
  induction k generalizing c with
  | zero => rfl
  | succ k ih => rw [crcN, ih]; rfl
theorem crcN_lt {c : Nat} (h : c < 2 ^ 32) : ∀ k, crcN k c < 2 ^ 32
  | 0 => h
  | k + 1 => by rw [crcN_succ]; exact crcStep_lt (crcN_lt h k)
theorem crcByte_lt {c : Nat} (h : c < 2 ^ 32) (b : UInt8) : crcByte c b < 2 ^ 32 :=
  crcN_lt (Nat.xor_lt_two_pow h (by have := b.toNat_lt; omega)) 8
theorem crcFold_lt' (p : List UInt8) : ∀ {c : Nat}, c < 2 ^ 32 → p.foldl crcByte c < 2 ^ 32 := by
  induction p with
  | nil => exact fun h => h
  | cons b p ih => exact fun h => ih (crcByte_lt h b)
theorem crcFold_lt (p : List UInt8) : crcFold p < 2 ^ 32 := crcFold_lt' p (by decide)
theorem crc_lt (p : List UInt8) : crc p < 2 ^ 32 := by unfold crc; omega

theorem xor_inj {a b x : Nat} (h : a ^^^ x = b ^^^ x) : a = b := by
  have := congrArg (· ^^^ x) h
  simpa [Nat.xor_assoc] using this
theorem crcStep_inj {c d : Nat} (hc : c < 2 ^ 32) (hd : d < 2 ^ 32) (h : crcStep c = crcStep d) : c = d := by
  unfold crcStep at h
  have top : ∀ x : Nat, x < 2 ^ 32 → (x / 2).testBit 31 = false := fun x hx => Nat.testBit_lt_two_pow (by omega)
  split at h <;> split at h
  · have := xor_inj h
    omega
  · have h2 := congrArg (Nat.testBit · 31) h
    simp only [Nat.testBit_xor, top c hc, top d hd] at h2
    exact absurd h2 (by decide)
  · have h2 := congrArg (Nat.testBit · 31) h
    simp only [Nat.testBit_xor, top c hc, top d hd] at h2
    exact absurd h2 (by decide)
  · omega
theorem crcN_inj {k c d : Nat} (hc : c < 2 ^ 32) (hd : d < 2 ^ 32) (h : crcN k c = crcN k d) : c = d := by
  induction k with
  | zero => exact h
  | succ k ih => rw [crcN_succ, crcN_succ] at h; exact ih (crcStep_inj (crcN_lt hc k) (crcN_lt hd k) h)
theorem crcByte_inj {c d : Nat} {b : UInt8} (hc : c < 2 ^ 32) (hd : d < 2 ^ 32) (h : crcByte c b = crcByte d b) : c = d := by
  have hb : b.toNat < 2 ^ 32 := by have := b.toNat_lt; omega
  exact xor_inj (crcN_inj (Nat.xor_lt_two_pow hc hb) (Nat.xor_lt_two_pow hd hb) h)
theorem crcByte_inj2 {c : Nat} {a b : UInt8} (hc : c < 2 ^ 32) (h : crcByte c a = crcByte c b) : a = b := by
  have ha : a.toNat < 2 ^ 32 := by have := a.toNat_lt; omega
  have hb : b.toNat < 2 ^ 32 := by have := b.toNat_lt; omega
  have := crcN_inj (Nat.xor_lt_two_pow hc ha) (Nat.xor_lt_two_pow hc hb) h
  rw [Nat.xor_comm c, Nat.xor_comm c] at this
  exact UInt8.toNat_inj.1 (xor_inj this)
theorem crcFold_inj (p : List UInt8) : ∀ {c d : Nat}, c < 2 ^ 32 → d < 2 ^ 32 → p.foldl crcByte c = p.foldl crcByte d → c = d := by
  induction p with
  | nil => exact fun _ _ h => h
  | cons b p ih => exact fun hc hd h => crcByte_inj hc hd (ih (crcByte_lt hc b) (crcByte_lt hd b) h)

/-- One byte is another: so is the sum. -/
theorem crc_set {p : List UInt8} {i : Nat} {b c : UInt8} (hi : p[i]? = some b) (hbc : c ≠ b) : crc (p.set i c) ≠ crc p := by
  intro h
  have hlt : i < p.length := (List.getElem?_eq_some_iff.1 hi).1
  have hx : p[i] = b := (List.getElem?_eq_some_iff.1 hi).2
  have e1 : p.set i c = p.take i ++ c :: p.drop (i + 1) := by rw [List.set_eq_take_append_cons_drop, if_pos hlt]
  have e2 : p = p.take i ++ b :: p.drop (i + 1) := by rw [← hx, ← List.drop_eq_getElem_cons hlt, List.take_append_drop]
  have h' : crcFold (p.set i c) = crcFold p := by
    unfold crc at h
    have := crcFold_lt p
    have := crcFold_lt (p.set i c)
    omega
  rw [e1] at h'
  conv at h' => rhs; rw [e2]
  unfold crcFold at h'
  rw [List.foldl_append, List.foldl_append, List.foldl_cons, List.foldl_cons] at h'
  have hs : (p.take i).foldl crcByte 0xffffffff < 2 ^ 32 := crcFold_lt _
  have := crcFold_inj _ (crcByte_lt hs c) (crcByte_lt hs b) h'
  exact hbc (crcByte_inj2 hs this)

/-! ## Words of 32 and 64 bits -/

theorem wrap_u32 (n : Int) : IntKind.u32.wrap n = n % 4294967296 := by unfold IntKind.wrap; simp [IntKind.signed, IntKind.bits]
theorem wrap_u64 (n : Int) : IntKind.u64.wrap n = n % 18446744073709551616 := by unfold IntKind.wrap; simp [IntKind.signed, IntKind.bits]
theorem wrap_u16 (n : Int) : IntKind.u16.wrap n = n % 65536 := by unfold IntKind.wrap; simp [IntKind.signed, IntKind.bits]
theorem wrap_u8 (n : Int) : IntKind.u8.wrap n = n % 256 := by unfold IntKind.wrap; simp [IntKind.signed, IntKind.bits]

theorem bXor_u32 {x y : Nat} (hx : x < 2 ^ 32) (hy : y < 2 ^ 32) : bXor .u32 (x : Int) (y : Int) = ((x ^^^ y : Nat) : Int) := by
  unfold bXor
  have h : (BitVec.ofInt 32 (x : Int) ^^^ BitVec.ofInt 32 (y : Int)).toNat = x ^^^ y := by
    rw [BitVec.toNat_xor]; simp only [BitVec.ofInt_natCast, BitVec.toNat_ofNat]
    rw [Nat.mod_eq_of_lt hx, Nat.mod_eq_of_lt hy]
  rw [show IntKind.u32.bits = 32 from rfl, h, wrap_u32]
  have := Nat.xor_lt_two_pow hx hy
  omega
theorem bXor_u8 (x y : UInt8) : bXor .u8 (x.toNat : Int) (y.toNat : Int) = ((x ^^^ y).toNat : Int) := by
  unfold bXor
  have hx : x.toNat < 2 ^ 8 := x.toNat_lt
  have hy : y.toNat < 2 ^ 8 := y.toNat_lt
  have h : (BitVec.ofInt 8 (x.toNat : Int) ^^^ BitVec.ofInt 8 (y.toNat : Int)).toNat = x.toNat ^^^ y.toNat := by
    rw [BitVec.toNat_xor]; simp only [BitVec.ofInt_natCast, BitVec.toNat_ofNat]
    rw [Nat.mod_eq_of_lt hx, Nat.mod_eq_of_lt hy]
  rw [show IntKind.u8.bits = 8 from rfl, h, wrap_u8, UInt8.toNat_xor]
  have := Nat.xor_lt_two_pow hx hy
  omega
theorem bAnd1_u32 {x : Nat} (hx : x < 2 ^ 32) : bAnd .u32 (x : Int) 1 = ((x % 2 : Nat) : Int) := by
  unfold bAnd
  have h : (BitVec.ofInt 32 (x : Int) &&& BitVec.ofInt 32 1).toNat = x % 2 := by
    rw [BitVec.toNat_and]; simp only [BitVec.ofInt_natCast, BitVec.toNat_ofNat]
    rw [Nat.mod_eq_of_lt hx, show (BitVec.ofInt 32 1).toNat = 1 from rfl, Nat.and_one_is_mod]
  rw [show IntKind.u32.bits = 32 from rfl, h, wrap_u32]
  omega
theorem shrI_u32 (x : Nat) : shrI .u32 (x : Int) 1 = ((x / 2 : Nat) : Int) := by
  unfold shrI
  rw [show (2 : Int) ^ (min (1 : Int).toNat IntKind.u32.bits) = 2 from rfl, Int.fdiv_eq_ediv_of_nonneg _ (by decide)]
  omega
theorem bNot_u32 {x : Nat} (hx : x < 2 ^ 32) : bNot .u32 (x : Int) = ((0xffffffff - x : Nat) : Int) := by
  unfold bNot
  have h : (BitVec.ofInt 32 (if IntKind.u32.signed then -1 else IntKind.u32.max) ^^^ BitVec.ofInt 32 (x : Int)).toNat = 0xffffffff - x := by
    have e : BitVec.ofInt 32 (if IntKind.u32.signed then -1 else IntKind.u32.max) = BitVec.allOnes 32 := by decide
    rw [e, BitVec.allOnes_xor, BitVec.toNat_not]
    simp only [BitVec.ofInt_natCast, BitVec.toNat_ofNat]
    rw [Nat.mod_eq_of_lt hx]
  rw [show IntKind.u32.bits = 32 from rfl, h, wrap_u32]
  omega
theorem shl8_or {x : Nat} {c : UInt8} (hx : x < 2 ^ 56) : bOr .u64 (shlI .u64 (x : Int) 8) (c.toNat : Int) = ((256 * x + c.toNat : Nat) : Int) := by
  have hc := c.toNat_lt
  have h1 : shlI .u64 (x : Int) 8 = ((256 * x : Nat) : Int) := by
    unfold shlI
    rw [show (2 : Int) ^ (min (8 : Int).toNat IntKind.u64.bits) = 256 from rfl, wrap_u64]
    omega
  rw [h1]
  unfold bOr
  have h : (BitVec.ofInt 64 ((256 * x : Nat) : Int) ||| BitVec.ofInt 64 (c.toNat : Int)).toNat = 256 * x + c.toNat := by
    rw [BitVec.toNat_or]; simp only [BitVec.ofInt_natCast, BitVec.toNat_ofNat]
    rw [Nat.mod_eq_of_lt (by omega), Nat.mod_eq_of_lt (by omega)]
    have := Nat.two_pow_add_eq_or_of_lt (i := 8) (b := c.toNat) hc x
    rw [show 2 ^ 8 = 256 from rfl] at this
    exact this.symm
  rw [show IntKind.u64.bits = 64 from rfl, h, wrap_u64]
  omega
theorem shr_be {n i : Nat} (hi : i < 8) : IntKind.u8.wrap (shrI .u64 (n : Int) (8 * (i : Int))) = ((UInt8.ofNat (n / 256 ^ i)).toNat : Int) := by
  unfold shrI
  have e : min (8 * (i : Int)).toNat IntKind.u64.bits = 8 * i := by simp only [IntKind.bits]; omega
  rw [e, Int.fdiv_eq_ediv_of_nonneg _ (Int.pow_nonneg (by decide)), wrap_u8, UInt8.toNat_ofNat']
  have h2 : (2 : Int) ^ (8 * i) = ((256 ^ i : Nat) : Int) := by rw [Int.pow_mul]; simp
  rw [h2, ← Int.natCast_ediv]
  simp only [show (2 ^ 8 : Nat) = 256 from rfl]
  omega

end Go.Vc

