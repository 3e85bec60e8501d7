/- What the conditions of these functions are, reckoned by the reading; printed by program. -/
import Derived.Test.YtjjmnfpdkgnmoaaNm
import Derived.KernelRfl
set_option maxRecDepth 100000
set_option linter.unusedVariables false
namespace Go.Proofs.Ytjjmnfpdkgnmoaa
open Go Go.Vc

/-- lectern/lecternref12.Bytes -/
def VC_ref12_Bytes (l0p : Option Addr) (l0l : Nat) (l0c : Nat) (w : World) (J : Option Addr → Nat → Nat → Int → World → Prop) : Prop :=
  ∃ I_11 : Int → World → Nat → Prop, (∃ m : Nat, I_11 (0 : Int) w m) ∧ ∀ (x11 : Int) (w1 : World) (m : Nat), I_11 x11 w1 m → (
  condB (decide (x11 < ((l0l : Nat) : Int))) (
  idxA l0p l0l x11 fun a14 =>
  ldI .i64 w1 ((a14.add (x11.toNat * 1))) fun x15 =>
  withJ (fun (x33 : Bool) (w2 : World) =>
  condB x33 (
  J none 0 0 (11 : Int) w2) (
  ∃ m' : Nat, m' < m ∧ I_11 (w64 (x11 + (1 : Int))) w2 m')) fun J_33 =>
  condB (decide (x15 < (-1073741824 : Int))) (
  J_33 true w1) (
  condB (decide (x15 > (1073741824 : Int))) (
  J_33 true w1) (
  condB (x11 == (w64 (((l0l : Nat) : Int) - (1 : Int)))) (
  callJ Try.prog fn_ref12_odd #[.int .i64 x15] w1 [.one .bool] fun (r30 : Bool) (w3 : World) =>
  J_33 (!r30) w3) (
  J_33 false w1)))) (
  ∃ I_6 : ByteArray → Int → World → Nat → Prop, (∃ m : Nat, I_6 ⟨#[]⟩ (0 : Int) w1 m) ∧ ∀ (s6 : ByteArray) (x37 : Int) (w4 : World) (m_1 : Nat), I_6 s6 x37 w4 m_1 → (
  condB (decide (x37 < ((l0l : Nat) : Int))) (
  idxA l0p l0l x37 fun a39 =>
  ldI .i64 w4 ((a39.add (x37.toNat * 1))) fun x40 =>
  callJ Try.prog fn_ref12_bits #[.int .i64 x40] w4 [.one .str] fun (r43 : ByteArray) (w5 : World) =>
  ((s6.size + r43.size : Nat) : Int) ≤ 9223372036854775807 ∧
  condB (decide (((s6 ++ r43).size : Int) > (960 : Int))) (
  J none 0 0 (5 : Int) w5) (
  ∃ m' : Nat, m' < m_1 ∧ I_6 (s6 ++ r43) (w64 (x37 + (1 : Int))) w5 m')) (
  callJ Try.prog fn_ref12_Packed #[.string s6] w4 [.one .slice] fun (r50p : Option Addr) (r50l : Nat) (r50c : Nat) (w6 : World) =>
  J r50p r50l r50c (0 : Int) w6))))
def ann_ref12_Bytes : Ann := .s (.o) (.s (.s (.o) (.b (.l [(11, .int .i64)] (.s (.o) (.s (.c (.o) (.o)) (.s (.b (.s (.o) (.j [(33, .bool)] (.o) (.c (.s (.o) (.o)) (.o))))) (.o))))))) (.s (.o) (.s (.s (.o) (.b (.l [(6, .str), (37, .int .i64)] (.s (.o) (.s (.c (.o) (.o)) (.s (.b (.s (.o) (.s (.o) (.s (.o) (.c (.s (.o) (.o)) (.o)))))) (.o))))))) (.s (.o) (.o)))))
theorem eq_ref12_Bytes (l0p : Option Addr) (l0l : Nat) (l0c : Nat) (w : World) (J : Option Addr → Nat → Nat → Int → World → Prop) : vcFun Try.prog Try.f13 ann_ref12_Bytes [.one .slice, .one (.int .i64)] [.slice l0p l0l l0c] w J = VC_ref12_Bytes l0p l0l l0c w J := by kernel_rfl
theorem c_ref12_Bytes {l0p : Option Addr} {l0l : Nat} {l0c : Nat} {w : World} {J : Option Addr → Nat → Nat → Int → World → Prop} (h : VC_ref12_Bytes l0p l0l l0c w J) : callJ Try.prog fn_ref12_Bytes #[.slice l0p l0l l0c] w [.one .slice, .one (.int .i64)] J := vc_calls Try.func13 ann_ref12_Bytes (Eq.mpr (eq_ref12_Bytes l0p l0l l0c w J) h)

/-- lectern/lecternref12.odd -/
def VC_ref12_odd (n0 : Int) (w : World) (J : Bool → World → Prop) : Prop :=
  (2 : Int) ≠ 0 ∧
  J ((Int.tmod n0 (2 : Int)) != (0 : Int)) w
def ann_ref12_odd : Ann := .s (.o) (.s (.o) (.o))
theorem eq_ref12_odd (n0 : Int) (w : World) (J : Bool → World → Prop) : vcFun Try.prog Try.f34 ann_ref12_odd [.one .bool] [.int .i64 n0] w J = VC_ref12_odd n0 w J := by kernel_rfl
theorem c_ref12_odd {n0 : Int} {w : World} {J : Bool → World → Prop} (h : VC_ref12_odd n0 w J) : callJ Try.prog fn_ref12_odd #[.int .i64 n0] w [.one .bool] J := vc_calls Try.func34 ann_ref12_odd (Eq.mpr (eq_ref12_odd n0 w J) h)

/-- lectern/lecternref12.bits -/
def VC_ref12_bits (v0 : Int) (w : World) (J : ByteArray → World → Prop) : Prop :=
  condB (decide (v0 ≥ (0 : Int))) (
  callJ Try.prog fn_ref12_row #[.int .i64 (w64 (v0 + (1 : Int)))] w [.one .str] fun (r10 : ByteArray) (w1 : World) =>
  (((⟨#[49]⟩ : ByteArray).size + r10.size : Nat) : Int) ≤ 9223372036854775807 ∧
  J ((⟨#[49]⟩ : ByteArray) ++ r10) w1) (
  callJ Try.prog fn_ref12_row #[.int .i64 (w64 (0 - v0))] w [.one .str] fun (r14 : ByteArray) (w2 : World) =>
  ∃ I_3 : ByteArray → Int → World → Nat → Prop, (∃ m : Nat, I_3 ⟨#[48]⟩ (0 : Int) w2 m) ∧ ∀ (s3 : ByteArray) (i5 : Int) (w3 : World) (m : Nat), I_3 s3 i5 w3 m → (
  condB (decide (i5 < (r14.size : Int))) (
  withJ (fun (s3_1 : ByteArray) (w4 : World) =>
  ∃ m' : Nat, m' < m ∧ I_3 s3_1 (w64 (i5 + (1 : Int))) w4 m') fun J_3 =>
  idxStr r14 i5 fun x23 =>
  condB (x23 == (48 : Int)) (
  ((s3.size + (⟨#[49]⟩ : ByteArray).size : Nat) : Int) ≤ 9223372036854775807 ∧
  J_3 (s3 ++ (⟨#[49]⟩ : ByteArray)) w3) (
  ((s3.size + (⟨#[48]⟩ : ByteArray).size : Nat) : Int) ≤ 9223372036854775807 ∧
  J_3 (s3 ++ (⟨#[48]⟩ : ByteArray)) w3)) (
  J s3 w3)))
def ann_ref12_bits : Ann := .s (.o) (.s (.s (.o) (.c (.s (.o) (.o)) (.o))) (.s (.o) (.s (.o) (.s (.s (.o) (.b (.l [(3, .str), (5, .int .i64)] (.s (.s (.o) (.c (.o) (.o))) (.j [(3, .str)] (.b (.s (.o) (.c (.o) (.o)))) (.o)))))) (.s (.o) (.o))))))
theorem eq_ref12_bits (v0 : Int) (w : World) (J : ByteArray → World → Prop) : vcFun Try.prog Try.f35 ann_ref12_bits [.one .str] [.int .i64 v0] w J = VC_ref12_bits v0 w J := by kernel_rfl
theorem c_ref12_bits {v0 : Int} {w : World} {J : ByteArray → World → Prop} (h : VC_ref12_bits v0 w J) : callJ Try.prog fn_ref12_bits #[.int .i64 v0] w [.one .str] J := vc_calls Try.func35 ann_ref12_bits (Eq.mpr (eq_ref12_bits v0 w J) h)

/-- lectern/lecternref12.row -/
def VC_ref12_row (n0 : Int) (w : World) (J : ByteArray → World → Prop) : Prop :=
  ∃ I_3 : ByteArray → Int → World → Nat → Prop, (∃ m : Nat, I_3 ⟨#[]⟩ n0 w m) ∧ ∀ (digits3 : ByteArray) (m4 : Int) (w1 : World) (m : Nat), I_3 digits3 m4 w1 m → (
  condB (decide (m4 > (0 : Int))) (
  withJ (fun (digits3_1 : ByteArray) (w2 : World) =>
  (2 : Int) ≠ 0 ∧
  ∃ m' : Nat, m' < m ∧ I_3 digits3_1 (w64 (Int.tdiv m4 (2 : Int))) w2 m') fun J_3 =>
  (2 : Int) ≠ 0 ∧
  condB ((Int.tmod m4 (2 : Int)) == (1 : Int)) (
  (((⟨#[49]⟩ : ByteArray).size + digits3.size : Nat) : Int) ≤ 9223372036854775807 ∧
  J_3 ((⟨#[49]⟩ : ByteArray) ++ digits3) w1) (
  (((⟨#[48]⟩ : ByteArray).size + digits3.size : Nat) : Int) ≤ 9223372036854775807 ∧
  J_3 ((⟨#[48]⟩ : ByteArray) ++ digits3) w1)) (
  ∃ I_5 : ByteArray → Int → World → Nat → Prop, (∃ m : Nat, I_5 ⟨#[]⟩ (1 : Int) w1 m) ∧ ∀ (s5 : ByteArray) (i6 : Int) (w3 : World) (m_1 : Nat), I_5 s5 i6 w3 m_1 → (
  condB (decide (i6 < (digits3.size : Int))) (
  ((s5.size + (⟨#[49]⟩ : ByteArray).size : Nat) : Int) ≤ 9223372036854775807 ∧
  ∃ m' : Nat, m' < m_1 ∧ I_5 (s5 ++ (⟨#[49]⟩ : ByteArray)) (w64 (i6 + (1 : Int))) w3 m') (
  ((s5.size + (⟨#[48]⟩ : ByteArray).size : Nat) : Int) ≤ 9223372036854775807 ∧
  slStr digits3 (some (1 : Int)) none fun s30 =>
  (((s5 ++ (⟨#[48]⟩ : ByteArray)).size + s30.size : Nat) : Int) ≤ 9223372036854775807 ∧
  J ((s5 ++ (⟨#[48]⟩ : ByteArray)) ++ s30) w3))))
def ann_ref12_row : Ann := .s (.o) (.s (.o) (.s (.s (.o) (.b (.l [(3, .str), (4, .int .i64)] (.s (.s (.o) (.c (.o) (.o))) (.j [(3, .str)] (.b (.s (.o) (.c (.o) (.o)))) (.o)))))) (.s (.o) (.s (.s (.o) (.b (.l [(5, .str), (6, .int .i64)] (.s (.s (.o) (.c (.o) (.o))) (.s (.b (.o)) (.o)))))) (.s (.o) (.o))))))
theorem eq_ref12_row (n0 : Int) (w : World) (J : ByteArray → World → Prop) : vcFun Try.prog Try.f54 ann_ref12_row [.one .str] [.int .i64 n0] w J = VC_ref12_row n0 w J := by kernel_rfl
theorem c_ref12_row {n0 : Int} {w : World} {J : ByteArray → World → Prop} (h : VC_ref12_row n0 w J) : callJ Try.prog fn_ref12_row #[.int .i64 n0] w [.one .str] J := vc_calls Try.func54 ann_ref12_row (Eq.mpr (eq_ref12_row n0 w J) h)

/-- lectern/lecternref12.Packed -/
def VC_ref12_Packed (s0 : ByteArray) (w : World) (J : Option Addr → Nat → Nat → World → Prop) : Prop :=
  newB w (.cells ⟨[]⟩ T_uint8) fun b5 w1 =>
  ∃ I_3 : Option Addr → Nat → Nat → Int → World → Nat → Prop, (∃ m : Nat, I_3 (some ⟨b5, 0, none⟩) 0 0 (0 : Int) w1 m) ∧ ∀ (b3p : Option Addr) (b3l : Nat) (b3c : Nat) (i4 : Int) (w2 : World) (m : Nat), I_3 b3p b3l b3c i4 w2 m → (
  condB (decide (i4 < (s0.size : Int))) (
  withJ (fun (b3_1p : Option Addr) (b3_1l : Nat) (b3_1c : Nat) (w3 : World) =>
  ∃ m' : Nat, m' < m ∧ I_3 b3_1p b3_1l b3_1c (w64 (i4 + (1 : Int))) w3 m') fun J_3 =>
  withJ (fun (b3_2p : Option Addr) (b3_2l : Nat) (b3_2c : Nat) (w4 : World) =>
  idxStr s0 i4 fun x20 =>
  condB (x20 == (49 : Int)) (
  (8 : Int) ≠ 0 ∧
  (8 : Int) ≠ 0 ∧
  idxA b3_2p b3_2l (w64 (Int.tdiv i4 (8 : Int))) fun a28 =>
  ldI .u8 w4.drew ((a28.add ((w64 (Int.tdiv i4 (8 : Int))).toNat * 1))) fun x29 =>
  (8 : Int) ≠ 0 ∧
  0 ≤ (Int.tmod i4 (8 : Int)) ∧
  idxA b3_2p b3_2l (w64 (Int.tdiv i4 (8 : Int))) fun a34 =>
  stV w4.drew ((a34.add ((w64 (Int.tdiv i4 (8 : Int))).toNat * 1))) (.int .u8 (IntKind.u8.wrap (x29 + (shrI .u8 (128 : Int) (Int.tmod i4 (8 : Int)))))) fun w5 =>
  J_3 b3_2p b3_2l b3_2c w5) (
  J_3 b3_2p b3_2l b3_2c w4)) fun J_3_1 =>
  (8 : Int) ≠ 0 ∧
  condB ((Int.tmod i4 (8 : Int)) == (0 : Int)) (
  newB w2 (.cells ⟨[.int .u8 (0 : Int)]⟩ T_uint8) fun b16 w6 =>
  appJ Try.prog T_sl_uint8 T_sl_uint8 (.slice b3p b3l b3c) (.slice (some ⟨b16, 0, none⟩) 1 1) w6 fun q17p q17l q17c w7 =>
  J_3_1 q17p q17l q17c w7) (
  J_3_1 b3p b3l b3c w2)) (
  J b3p b3l b3c w2))
def ann_ref12_Packed : Ann := .s (.o) (.s (.o) (.s (.s (.o) (.b (.l [(3, .slice), (4, .int .i64)] (.s (.s (.o) (.c (.o) (.o))) (.j [(3, .slice)] (.b (.j [(3, .slice)] (.s (.o) (.c (.o) (.o))) (.s (.o) (.c (.d (.take 0 (.take 1 (.take 2 (.take 3 (.take 4 (.take 5 (.take 6 (.take 7 (.take 8 (.take 9 (.take 10 (.take 11 (.take 12 (.eff 13 (.done) (.none)))))))))))))))) (.o))))) (.o)))))) (.s (.o) (.o))))
theorem eq_ref12_Packed (s0 : ByteArray) (w : World) (J : Option Addr → Nat → Nat → World → Prop) : vcFun Try.prog Try.f36 ann_ref12_Packed [.one .slice] [.string s0] w J = VC_ref12_Packed s0 w J := by kernel_rfl
theorem c_ref12_Packed {s0 : ByteArray} {w : World} {J : Option Addr → Nat → Nat → World → Prop} (h : VC_ref12_Packed s0 w J) : callJ Try.prog fn_ref12_Packed #[.string s0] w [.one .slice] J := vc_calls Try.func36 ann_ref12_Packed (Eq.mpr (eq_ref12_Packed s0 w J) h)

/-- lectern/lecternref12.Read -/
def VC_ref12_Read (b0p : Option Addr) (b0l : Nat) (b0c : Nat) (w : World) (J : Option Addr → Nat → Nat → Bool → World → Prop) : Prop :=
  ∃ I_4 : ByteArray → Int → World → Nat → Prop, (∃ m : Nat, I_4 ⟨#[]⟩ (0 : Int) w m) ∧ ∀ (s4 : ByteArray) (x18 : Int) (w1 : World) (m : Nat), I_4 s4 x18 w1 m → (
  condB (decide (x18 < ((b0l : Nat) : Int))) (
  idxA b0p b0l x18 fun a20 =>
  ldI .u8 w1 ((a20.add (x18.toNat * 1))) fun x21 =>
  ∃ I_4_1 : ByteArray → Int → World → Nat → Prop, (∃ m : Nat, I_4_1 s4 (7 : Int) w1 m) ∧ ∀ (s4_1 : ByteArray) (i7 : Int) (w2 : World) (m_1 : Nat), I_4_1 s4_1 i7 w2 m_1 → (
  condB (decide (i7 ≥ (0 : Int))) (
  withJ (fun (s4_2 : ByteArray) (w3 : World) =>
  ∃ m' : Nat, m' < m_1 ∧ I_4_1 s4_2 (w64 (i7 - (1 : Int))) w3 m') fun J_4 =>
  0 ≤ i7 ∧
  condB ((bAnd .u8 (shrI .u8 x21 i7) (1 : Int)) == (1 : Int)) (
  ((s4_1.size + (⟨#[49]⟩ : ByteArray).size : Nat) : Int) ≤ 9223372036854775807 ∧
  J_4 (s4_1 ++ (⟨#[49]⟩ : ByteArray)) w2) (
  ((s4_1.size + (⟨#[48]⟩ : ByteArray).size : Nat) : Int) ≤ 9223372036854775807 ∧
  J_4 (s4_1 ++ (⟨#[48]⟩ : ByteArray)) w2)) (
  ∃ m' : Nat, m' < m ∧ I_4 s4_1 (w64 (x18 + (1 : Int))) w2 m'))) (
  condB (decide ((s4.size : Int) > (960 : Int))) (
  J none 0 0 false w1) (
  newB w1 (.cells ⟨[]⟩ T_int) fun b39 w4 =>
  ∃ I_8 : Option Addr → Nat → Nat → Int → World → Nat → Prop, (∃ m : Nat, I_8 (some ⟨b39, 0, none⟩) 0 0 (0 : Int) w4 m) ∧ ∀ (l8p : Option Addr) (l8l : Nat) (l8c : Nat) (at9 : Int) (w5 : World) (m_2 : Nat), I_8 l8p l8l l8c at9 w5 m_2 → (
  ∃ I_10 : Bool → Int → World → Nat → Prop, (∃ m : Nat, I_10 true at9 w5 m) ∧ ∀ (rest10 : Bool) (i11 : Int) (w6 : World) (m_3 : Nat), I_10 rest10 i11 w6 m_3 → (
  condB (decide (i11 < (s4.size : Int))) (
  withJ (fun (rest10_1 : Bool) (w7 : World) =>
  ∃ m' : Nat, m' < m_3 ∧ I_10 rest10_1 (w64 (i11 + (1 : Int))) w7 m') fun J_10 =>
  condB rest10 (
  idxStr s4 i11 fun x51 =>
  J_10 (x51 == (48 : Int)) w6) (
  J_10 false w6)) (
  condB rest10 (
  callJ Try.prog fn_ref12_Bytes #[.slice l8p l8l l8c] w6 [.one .slice, .one (.int .i64)] fun (r70_0p : Option Addr) (r70_0l : Nat) (r70_0c : Nat) (r70_1 : Int) (w8 : World) =>
  withJ (fun (x2p : Option Addr) (x2l : Nat) (x2c : Nat) (x3 : Bool) (w9 : World) =>
  J x2p x2l x2c x3 w9) fun J_2 =>
  condB (r70_1 == (0 : Int)) (
  bytesOf w8.drew r70_0p r70_0l fun bs78 =>
  bytesOf w8.drew b0p b0l fun bs80 =>
  J_2 l8p l8l l8c ((⟨bs78.toArray⟩ : ByteArray).toList == (⟨bs80.toArray⟩ : ByteArray).toList) w8.drew) (
  J_2 l8p l8l l8c false w8.drew)) (
  callJ Try.prog fn_ref12_number #[.string s4, .int .i64 at9] w6 [.one (.int .i64), .one (.int .i64)] fun (r58_0 : Int) (r58_1 : Int) (w10 : World) =>
  condB (decide (r58_1 < (0 : Int))) (
  J none 0 0 false w10) (
  newB w10 (.cells ⟨[.int .i64 r58_0]⟩ T_int) fun b65 w11 =>
  appJ Try.prog T_sl_int T_sl_int (.slice l8p l8l l8c) (.slice (some ⟨b65, 0, none⟩) 1 1) w11 fun q66p q66l q66c w12 =>
  ∃ m' : Nat, m' < m_2 ∧ I_8 q66p q66l q66c r58_1 w12 m'))))))))
def ann_ref12_Read : Ann := .s (.o) (.s (.o) (.s (.s (.o) (.b (.l [(4, .str), (18, .int .i64)] (.s (.o) (.s (.c (.o) (.o)) (.s (.b (.s (.o) (.s (.o) (.b (.l [(4, .str), (7, .int .i64)] (.s (.s (.o) (.c (.o) (.o))) (.j [(4, .str)] (.b (.s (.o) (.c (.o) (.o)))) (.o)))))))) (.o))))))) (.s (.s (.o) (.c (.s (.o) (.o)) (.o))) (.s (.o) (.s (.o) (.s (.b (.l [(8, .slice), (9, .int .i64)] (.b (.s (.o) (.s (.s (.o) (.b (.l [(10, .bool), (11, .int .i64)] (.s (.s (.o) (.c (.o) (.o))) (.j [(10, .bool)] (.b (.o)) (.o)))))) (.s (.s (.o) (.c (.o) (.o))) (.s (.o) (.s (.s (.o) (.c (.s (.o) (.o)) (.o))) (.s (.o) (.o)))))))))) (.s (.o) (.j [(2, .slice), (3, .bool)] (.d (.take 0 (.take 1 (.take 2 (.take 3 (.take 4 (.take 5 (.take 6 (.take 7 (.take 8 (.take 9 (.take 10 (.take 11 (.done)))))))))))))) (.o)))))))))
theorem eq_ref12_Read (b0p : Option Addr) (b0l : Nat) (b0c : Nat) (w : World) (J : Option Addr → Nat → Nat → Bool → World → Prop) : vcFun Try.prog Try.f15 ann_ref12_Read [.one .slice, .one .bool] [.slice b0p b0l b0c] w J = VC_ref12_Read b0p b0l b0c w J := by kernel_rfl
theorem c_ref12_Read {b0p : Option Addr} {b0l : Nat} {b0c : Nat} {w : World} {J : Option Addr → Nat → Nat → Bool → World → Prop} (h : VC_ref12_Read b0p b0l b0c w J) : callJ Try.prog fn_ref12_Read #[.slice b0p b0l b0c] w [.one .slice, .one .bool] J := vc_calls Try.func15 ann_ref12_Read (Eq.mpr (eq_ref12_Read b0p b0l b0c w J) h)

/-- lectern/lecternref12.number -/
def VC_ref12_number (s0 : ByteArray) (at1 : Int) (w : World) (J : Int → Int → World → Prop) : Prop :=
  condB (decide (at1 ≥ (s0.size : Int))) (
  J (0 : Int) (-1 : Int) w) (
  idxStr s0 at1 fun x17 =>
  ∃ I_7 : Int → World → Nat → Prop, (∃ m : Nat, I_7 (w64 (at1 + (1 : Int))) w m) ∧ ∀ (i7 : Int) (w1 : World) (m : Nat), I_7 i7 w1 m → (
  withJ (fun (x30 : Bool) (w2 : World) =>
  condB x30 (
  ∃ m' : Nat, m' < m ∧ I_7 (w64 (i7 + (1 : Int))) w2 m') (
  withJ (fun (x47 : Bool) (w3 : World) =>
  condB x47 (
  J (0 : Int) (-1 : Int) w3) (
  ∃ I_9 : Int → Int → World → Nat → Prop, (∃ m : Nat, I_9 (1 : Int) (w64 (i7 + (1 : Int))) w3 m) ∧ ∀ (n9 : Int) (j10 : Int) (w4 : World) (m_1 : Nat), I_9 n9 j10 w4 m_1 → (
  condB (decide (j10 < (w64 ((w64 (i7 + (1 : Int))) + (w64 ((w64 (i7 - at1)) - (1 : Int))))))) (
  withJ (fun (n9_1 : Int) (w5 : World) =>
  ∃ m' : Nat, m' < m_1 ∧ I_9 n9_1 (w64 (j10 + (1 : Int))) w5 m') fun J_9 =>
  idxStr s0 j10 fun x62 =>
  condB (x62 == x17) (
  J_9 (w64 ((w64 ((2 : Int) * n9)) + (1 : Int))) w4) (
  J_9 (w64 ((2 : Int) * n9)) w4)) (
  condB (x17 == (49 : Int)) (
  J (w64 (n9 - (1 : Int))) (w64 ((w64 (i7 + (1 : Int))) + (w64 ((w64 (i7 - at1)) - (1 : Int))))) w4) (
  J (w64 (0 - n9)) (w64 ((w64 (i7 + (1 : Int))) + (w64 ((w64 (i7 - at1)) - (1 : Int))))) w4))))) fun J_47 =>
  condB (decide ((w64 ((w64 (i7 + (1 : Int))) + (w64 ((w64 (i7 - at1)) - (1 : Int))))) > (s0.size : Int))) (
  J_47 true w2) (
  J_47 (decide ((w64 ((w64 (i7 - at1)) - (1 : Int))) > (31 : Int))) w2))) fun J_30 =>
  condB (decide (i7 < (s0.size : Int))) (
  idxStr s0 i7 fun x27 =>
  J_30 (x27 == x17) w1) (
  J_30 false w1)))
def ann_ref12_number : Ann := .s (.o) (.s (.s (.o) (.c (.s (.o) (.o)) (.o))) (.s (.o) (.s (.o) (.s (.b (.l [(7, .int .i64)] (.s (.j [(30, .bool)] (.o) (.c (.o) (.o))) (.b (.o))))) (.s (.o) (.s (.j [(47, .bool)] (.o) (.c (.s (.o) (.o)) (.o))) (.s (.o) (.s (.s (.o) (.b (.l [(9, .int .i64), (10, .int .i64)] (.s (.s (.o) (.c (.o) (.o))) (.j [(9, .int .i64)] (.b (.s (.o) (.s (.o) (.c (.o) (.o))))) (.o)))))) (.s (.s (.o) (.c (.s (.o) (.o)) (.o))) (.s (.o) (.o)))))))))))
theorem eq_ref12_number (s0 : ByteArray) (at1 : Int) (w : World) (J : Int → Int → World → Prop) : vcFun Try.prog Try.f40 ann_ref12_number [.one (.int .i64), .one (.int .i64)] [.string s0, .int .i64 at1] w J = VC_ref12_number s0 at1 w J := by kernel_rfl
theorem c_ref12_number {s0 : ByteArray} {at1 : Int} {w : World} {J : Int → Int → World → Prop} (h : VC_ref12_number s0 at1 w J) : callJ Try.prog fn_ref12_number #[.string s0, .int .i64 at1] w [.one (.int .i64), .one (.int .i64)] J := vc_calls Try.func40 ann_ref12_number (Eq.mpr (eq_ref12_number s0 at1 w J) h)

/-- lectern/lecternref12.Compare -/
def VC_ref12_Compare (a0p : Option Addr) (a0l : Nat) (a0c : Nat) (b1p : Option Addr) (b1l : Nat) (b1c : Nat) (w : World) (J : Int → World → Prop) : Prop :=
  ∃ I_5 : Int → World → Nat → Prop, (∃ m : Nat, I_5 (0 : Int) w m) ∧ ∀ (i5 : Int) (w1 : World) (m : Nat), I_5 i5 w1 m → (
  withJ (fun (x15 : Bool) (w2 : World) =>
  condB x15 (
  idxA a0p a0l i5 fun a20 =>
  ldI .i64 w2.drew ((a20.add (i5.toNat * 1))) fun x21 =>
  idxA b1p b1l i5 fun a24 =>
  ldI .i64 w2.drew ((a24.add (i5.toNat * 1))) fun x25 =>
  condB (decide (x21 < x25)) (
  J (-1 : Int) w2.drew) (
  idxA a0p a0l i5 fun a29 =>
  ldI .i64 w2.drew.drew ((a29.add (i5.toNat * 1))) fun x30 =>
  idxA b1p b1l i5 fun a33 =>
  ldI .i64 w2.drew.drew ((a33.add (i5.toNat * 1))) fun x34 =>
  condB (decide (x30 > x34)) (
  J (1 : Int) w2.drew.drew) (
  ∃ m' : Nat, m' < m ∧ I_5 (w64 (i5 + (1 : Int))) w2.drew.drew m'))) (
  condB (decide (((a0l : Nat) : Int) < ((b1l : Nat) : Int))) (
  J (-1 : Int) w2) (
  condB (decide (((a0l : Nat) : Int) > ((b1l : Nat) : Int))) (
  J (1 : Int) w2) (
  J (0 : Int) w2)))) fun J_15 =>
  condB (decide (i5 < ((a0l : Nat) : Int))) (
  J_15 (decide (i5 < ((b1l : Nat) : Int))) w1) (
  J_15 false w1))
def ann_ref12_Compare : Ann := .s (.o) (.s (.s (.o) (.b (.l [(5, .int .i64)] (.s (.j [(15, .bool)] (.o) (.c (.o) (.o))) (.s (.b (.s (.s (.d (.take 0 (.take 1 (.take 2 (.take 3 (.take 4 (.take 5 (.take 6 (.take 7 (.take 8 (.done))))))))))) (.c (.s (.o) (.o)) (.o))) (.s (.d (.take 0 (.take 1 (.take 2 (.take 3 (.take 4 (.take 5 (.take 6 (.take 7 (.take 8 (.done))))))))))) (.c (.s (.o) (.o)) (.o))))) (.o)))))) (.s (.s (.o) (.c (.s (.o) (.o)) (.o))) (.s (.s (.o) (.c (.s (.o) (.o)) (.o))) (.s (.o) (.o)))))
theorem eq_ref12_Compare (a0p : Option Addr) (a0l : Nat) (a0c : Nat) (b1p : Option Addr) (b1l : Nat) (b1c : Nat) (w : World) (J : Int → World → Prop) : vcFun Try.prog Try.f25 ann_ref12_Compare [.one (.int .i64)] [.slice a0p a0l a0c, .slice b1p b1l b1c] w J = VC_ref12_Compare a0p a0l a0c b1p b1l b1c w J := by kernel_rfl
theorem c_ref12_Compare {a0p : Option Addr} {a0l : Nat} {a0c : Nat} {b1p : Option Addr} {b1l : Nat} {b1c : Nat} {w : World} {J : Int → World → Prop} (h : VC_ref12_Compare a0p a0l a0c b1p b1l b1c w J) : callJ Try.prog fn_ref12_Compare #[.slice a0p a0l a0c, .slice b1p b1l b1c] w [.one (.int .i64)] J := vc_calls Try.func25 ann_ref12_Compare (Eq.mpr (eq_ref12_Compare a0p a0l a0c b1p b1l b1c w J) h)

/-- lectern/lecternref12.Level -/
def VC_ref12_Level (l0p : Option Addr) (l0l : Nat) (l0c : Nat) (w : World) (J : Int → World → Prop) : Prop :=
  ∃ I_3 : Int → Int → World → Nat → Prop, (∃ m : Nat, I_3 (0 : Int) (0 : Int) w m) ∧ ∀ (n3 : Int) (x8 : Int) (w1 : World) (m : Nat), I_3 n3 x8 w1 m → (
  condB (decide (x8 < ((l0l : Nat) : Int))) (
  withJ (fun (n3_1 : Int) (w2 : World) =>
  ∃ m' : Nat, m' < m ∧ I_3 n3_1 (w64 (x8 + (1 : Int))) w2 m') fun J_3 =>
  idxA l0p l0l x8 fun a10 =>
  ldI .i64 w1 ((a10.add (x8.toNat * 1))) fun x11 =>
  callJ Try.prog fn_ref12_odd #[.int .i64 x11] w1 [.one .bool] fun (r13 : Bool) (w3 : World) =>
  condB r13 (
  J_3 (w64 (n3 + (1 : Int))) w3) (
  J_3 n3 w3)) (
  J n3 w1))
def ann_ref12_Level : Ann := .s (.o) (.s (.o) (.s (.s (.o) (.b (.l [(3, .int .i64), (8, .int .i64)] (.s (.o) (.s (.c (.o) (.o)) (.j [(3, .int .i64)] (.b (.s (.o) (.s (.o) (.c (.o) (.o))))) (.o))))))) (.s (.o) (.o))))
theorem eq_ref12_Level (l0p : Option Addr) (l0l : Nat) (l0c : Nat) (w : World) (J : Int → World → Prop) : vcFun Try.prog Try.f27 ann_ref12_Level [.one (.int .i64)] [.slice l0p l0l l0c] w J = VC_ref12_Level l0p l0l l0c w J := by kernel_rfl
theorem c_ref12_Level {l0p : Option Addr} {l0l : Nat} {l0c : Nat} {w : World} {J : Int → World → Prop} (h : VC_ref12_Level l0p l0l l0c w J) : callJ Try.prog fn_ref12_Level #[.slice l0p l0l l0c] w [.one (.int .i64)] J := vc_calls Try.func27 ann_ref12_Level (Eq.mpr (eq_ref12_Level l0p l0l l0c w J) h)

/-- lectern/lecternref12.Up -/
def VC_ref12_Up (l0p : Option Addr) (l0l : Nat) (l0c : Nat) (w : World) (J : Option Addr → Nat → Nat → World → Prop) : Prop :=
  newB w (.cells ⟨[]⟩ T_int) fun b4 w1 =>
  appJ Try.prog T_sl_int T_sl_int (.slice (some ⟨b4, 0, none⟩) 0 0) (.slice l0p l0l l0c) w1 fun q6p q6l q6c w2 =>
  withJ (fun (out3p : Option Addr) (out3l : Nat) (out3c : Nat) (w3 : World) =>
  ∃ I_3 : Option Addr → Nat → Nat → World → Nat → Prop, (∃ m : Nat, I_3 out3p out3l out3c w3 m) ∧ ∀ (out3_1p : Option Addr) (out3_1l : Nat) (out3_1c : Nat) (w4 : World) (m : Nat), I_3 out3_1p out3_1l out3_1c w4 m → (
  withJ (fun (x27 : Bool) (w5 : World) =>
  condB x27 (
  slS out3_1p out3_1l out3_1c 1 none (some (w64 (((out3_1l : Nat) : Int) - (1 : Int)))) none fun q32p q32l q32c =>
  ∃ m' : Nat, m' < m ∧ I_3 q32p q32l q32c w5 m') (
  J out3_1p out3_1l out3_1c w5)) fun J_27 =>
  condB (decide (((out3_1l : Nat) : Int) > (0 : Int))) (
  idxA out3_1p out3_1l (w64 (((out3_1l : Nat) : Int) - (1 : Int))) fun a23 =>
  ldI .i64 w4 ((a23.add ((w64 (((out3_1l : Nat) : Int) - (1 : Int))).toNat * 1))) fun x24 =>
  callJ Try.prog fn_ref12_odd #[.int .i64 x24] w4 [.one .bool] fun (r25 : Bool) (w6 : World) =>
  J_27 (!r25) w6) (
  J_27 false w4))) fun J_3 =>
  condB (decide (((q6l : Nat) : Int) > (0 : Int))) (
  slS q6p q6l q6c 1 none (some (w64 (((q6l : Nat) : Int) - (1 : Int)))) none fun q14p q14l q14c =>
  J_3 q14p q14l q14c w2) (
  J_3 q6p q6l q6c w2)
def ann_ref12_Up : Ann := .s (.o) (.s (.o) (.j [(3, .slice)] (.s (.o) (.c (.o) (.o))) (.s (.b (.l [(3, .slice)] (.s (.j [(27, .bool)] (.o) (.c (.o) (.o))) (.b (.o))))) (.s (.o) (.o)))))
theorem eq_ref12_Up (l0p : Option Addr) (l0l : Nat) (l0c : Nat) (w : World) (J : Option Addr → Nat → Nat → World → Prop) : vcFun Try.prog Try.f28 ann_ref12_Up [.one .slice] [.slice l0p l0l l0c] w J = VC_ref12_Up l0p l0l l0c w J := by kernel_rfl
theorem c_ref12_Up {l0p : Option Addr} {l0l : Nat} {l0c : Nat} {w : World} {J : Option Addr → Nat → Nat → World → Prop} (h : VC_ref12_Up l0p l0l l0c w J) : callJ Try.prog fn_ref12_Up #[.slice l0p l0l l0c] w [.one .slice] J := vc_calls Try.func28 ann_ref12_Up (Eq.mpr (eq_ref12_Up l0p l0l l0c w J) h)

/-- lectern/lecternref12.Above -/
def VC_ref12_Above (a0p : Option Addr) (a0l : Nat) (a0c : Nat) (b1p : Option Addr) (b1l : Nat) (b1c : Nat) (w : World) (J : Bool → World → Prop) : Prop :=
  condB (decide (((b1l : Nat) : Int) ≤ ((a0l : Nat) : Int))) (
  J false w) (
  ∃ I_13 : Int → World → Nat → Prop, (∃ m : Nat, I_13 (0 : Int) w m) ∧ ∀ (x13 : Int) (w1 : World) (m : Nat), I_13 x13 w1 m → (
  condB (decide (x13 < ((a0l : Nat) : Int))) (
  idxA a0p a0l x13 fun a18 =>
  ldI .i64 w1.drew ((a18.add (x13.toNat * 1))) fun x19 =>
  idxA b1p b1l x13 fun a22 =>
  ldI .i64 w1.drew ((a22.add (x13.toNat * 1))) fun x23 =>
  condB (x19 != x23) (
  J false w1.drew) (
  ∃ m' : Nat, m' < m ∧ I_13 (w64 (x13 + (1 : Int))) w1.drew m')) (
  J true w1)))
def ann_ref12_Above : Ann := .s (.o) (.s (.s (.o) (.c (.s (.o) (.o)) (.o))) (.s (.s (.o) (.b (.l [(13, .int .i64)] (.s (.o) (.s (.c (.o) (.o)) (.s (.b (.s (.o) (.s (.d (.take 0 (.take 1 (.take 2 (.take 3 (.take 4 (.take 5 (.take 6 (.take 7 (.take 8 (.done))))))))))) (.c (.s (.o) (.o)) (.o))))) (.o))))))) (.s (.o) (.o))))
theorem eq_ref12_Above (a0p : Option Addr) (a0l : Nat) (a0c : Nat) (b1p : Option Addr) (b1l : Nat) (b1c : Nat) (w : World) (J : Bool → World → Prop) : vcFun Try.prog Try.f29 ann_ref12_Above [.one .bool] [.slice a0p a0l a0c, .slice b1p b1l b1c] w J = VC_ref12_Above a0p a0l a0c b1p b1l b1c w J := by kernel_rfl
theorem c_ref12_Above {a0p : Option Addr} {a0l : Nat} {a0c : Nat} {b1p : Option Addr} {b1l : Nat} {b1c : Nat} {w : World} {J : Bool → World → Prop} (h : VC_ref12_Above a0p a0l a0c b1p b1l b1c w J) : callJ Try.prog fn_ref12_Above #[.slice a0p a0l a0c, .slice b1p b1l b1c] w [.one .bool] J := vc_calls Try.func29 ann_ref12_Above (Eq.mpr (eq_ref12_Above a0p a0l a0c b1p b1l b1c w J) h)

/-- lectern/lecternref12.Between -/
def VC_ref12_Between (up0p : Option Addr) (up0l : Nat) (up0c : Nat) (l1p : Option Addr) (l1l : Nat) (l1c : Nat) (r2p : Option Addr) (r2l : Nat) (r2c : Nat) (w : World) (J : Option Addr → Nat → Nat → Int → World → Prop) : Prop :=
  withJ (fun (x53 : Bool) (w1 : World) =>
  condB x53 (
  J none 0 0 (1 : Int) w1) (
  newB w1 (.cells ⟨[]⟩ T_int) fun b54 w2 =>
  appJ Try.prog T_sl_int T_sl_int (.slice (some ⟨b54, 0, none⟩) 0 0) (.slice up0p up0l up0c) w2 fun q56p q56l q56c w3 =>
  withJ (fun (n8p : Option Addr) (n8l : Nat) (n8c : Nat) (w4 : World) =>
  callJ Try.prog fn_ref12_right #[.slice n8p n8l n8c] w4 [.one .bool] fun (r167 : Bool) (w5 : World) =>
  condB (!r167) (
  J none 0 0 (5 : Int) w5) (
  J n8p n8l n8c (0 : Int) w5)) fun J_8 =>
  withJ (fun (x66 : Bool) (w6 : World) =>
  condB x66 (
  newB w6 (.cells ⟨[.int .i64 (1 : Int)]⟩ T_int) fun b68 w7 =>
  appJ Try.prog T_sl_int T_sl_int (.slice q56p q56l q56c) (.slice (some ⟨b68, 0, none⟩) 1 1) w7 fun q69p q69l q69c w8 =>
  J_8 q69p q69l q69c w8) (
  condB (((r2l : Nat) : Int) == (0 : Int)) (
  idxA l1p l1l ((up0l : Nat) : Int) fun a76 =>
  ldI .i64 w6 ((a76.add (((up0l : Nat) : Int).toNat * 1))) fun x77 =>
  callJ Try.prog fn_ref12_on #[.int .i64 x77, .int .i64 (1 : Int)] w6 [.one (.int .i64)] fun (r78 : Int) (w9 : World) =>
  newB w9 (.cells ⟨[.int .i64 r78]⟩ T_int) fun b79 w10 =>
  appJ Try.prog T_sl_int T_sl_int (.slice q56p q56l q56c) (.slice (some ⟨b79, 0, none⟩) 1 1) w10 fun q80p q80l q80c w11 =>
  J_8 q80p q80l q80c w11) (
  condB (((l1l : Nat) : Int) == (0 : Int)) (
  idxA r2p r2l ((up0l : Nat) : Int) fun a87 =>
  ldI .i64 w6 ((a87.add (((up0l : Nat) : Int).toNat * 1))) fun x88 =>
  callJ Try.prog fn_ref12_on #[.int .i64 x88, .int .i64 (-1 : Int)] w6 [.one (.int .i64)] fun (r89 : Int) (w12 : World) =>
  newB w12 (.cells ⟨[.int .i64 r89]⟩ T_int) fun b90 w13 =>
  appJ Try.prog T_sl_int T_sl_int (.slice q56p q56l q56c) (.slice (some ⟨b90, 0, none⟩) 1 1) w13 fun q91p q91l q91c w14 =>
  J_8 q91p q91l q91c w14) (
  ∃ I_8 : Option Addr → Nat → Nat → Int → World → Nat → Prop, (∃ m : Nat, I_8 q56p q56l q56c ((up0l : Nat) : Int) w6 m) ∧ ∀ (n8_1p : Option Addr) (n8_1l : Nat) (n8_1c : Nat) (k9 : Int) (w15 : World) (m : Nat), I_8 n8_1p n8_1l n8_1c k9 w15 m → (
  idxA l1p l1l k9 fun a94 =>
  ldI .i64 w15.drew ((a94.add (k9.toNat * 1))) fun x95 =>
  idxA r2p r2l k9 fun a98 =>
  ldI .i64 w15.drew ((a98.add (k9.toNat * 1))) fun x99 =>
  condB (x95 == x99) (
  idxA l1p l1l k9 fun a104 =>
  ldI .i64 w15.drew ((a104.add (k9.toNat * 1))) fun x105 =>
  newB w15.drew (.cells ⟨[.int .i64 x105]⟩ T_int) fun b106 w16 =>
  appJ Try.prog T_sl_int T_sl_int (.slice n8_1p n8_1l n8_1c) (.slice (some ⟨b106, 0, none⟩) 1 1) w16 fun q107p q107l q107c w17 =>
  ∃ m' : Nat, m' < m ∧ I_8 q107p q107l q107c (w64 (k9 + (1 : Int))) w17 m') (
  idxA l1p l1l k9 fun a112 =>
  ldI .i64 w15.drew.drew ((a112.add (k9.toNat * 1))) fun x113 =>
  idxA r2p r2l k9 fun a116 =>
  ldI .i64 w15.drew.drew ((a116.add (k9.toNat * 1))) fun x117 =>
  withJ (fun (z12 : Int) (w18 : World) =>
  condB (decide (z12 < x117)) (
  newB w18 (.cells ⟨[.int .i64 z12]⟩ T_int) fun b141 w19 =>
  appJ Try.prog T_sl_int T_sl_int (.slice n8_1p n8_1l n8_1c) (.slice (some ⟨b141, 0, none⟩) 1 1) w19 fun q142p q142l q142c w20 =>
  J_8 q142p q142l q142c w20) (
  condB (x117 == (w64 (x113 + (2 : Int)))) (
  newB w18 (.cells ⟨[.int .i64 (w64 (x113 + (1 : Int))), .int .i64 (1 : Int)]⟩ T_int) fun b151 w21 =>
  appJ Try.prog T_sl_int T_sl_int (.slice n8_1p n8_1l n8_1c) (.slice (some ⟨b151, 0, none⟩) 2 2) w21 fun q152p q152l q152c w22 =>
  J_8 q152p q152l q152c w22) (
  callJ Try.prog fn_ref12_odd #[.int .i64 x113] w18 [.one .bool] fun (r155 : Bool) (w23 : World) =>
  condB r155 (
  idxA r2p r2l (w64 (k9 + (1 : Int))) fun a161 =>
  ldI .i64 w23 ((a161.add ((w64 (k9 + (1 : Int))).toNat * 1))) fun x162 =>
  callJ Try.prog fn_ref12_on #[.int .i64 x162, .int .i64 (-1 : Int)] w23 [.one (.int .i64)] fun (r163 : Int) (w24 : World) =>
  newB w24 (.cells ⟨[.int .i64 x117, .int .i64 r163]⟩ T_int) fun b164 w25 =>
  appJ Try.prog T_sl_int T_sl_int (.slice n8_1p n8_1l n8_1c) (.slice (some ⟨b164, 0, none⟩) 2 2) w25 fun q165p q165l q165c w26 =>
  J_8 q165p q165l q165c w26) (
  idxA l1p l1l (w64 (k9 + (1 : Int))) fun a130 =>
  ldI .i64 w23 ((a130.add ((w64 (k9 + (1 : Int))).toNat * 1))) fun x131 =>
  callJ Try.prog fn_ref12_on #[.int .i64 x131, .int .i64 (1 : Int)] w23 [.one (.int .i64)] fun (r132 : Int) (w27 : World) =>
  newB w27 (.cells ⟨[.int .i64 x113, .int .i64 r132]⟩ T_int) fun b133 w28 =>
  appJ Try.prog T_sl_int T_sl_int (.slice n8_1p n8_1l n8_1c) (.slice (some ⟨b133, 0, none⟩) 2 2) w28 fun q134p q134l q134c w29 =>
  J_8 q134p q134l q134c w29)))) fun J_12 =>
  callJ Try.prog fn_ref12_odd #[.int .i64 (w64 (x113 + (1 : Int)))] w15.drew.drew [.one .bool] fun (r121 : Bool) (w30 : World) =>
  condB (!r121) (
  J_12 (w64 ((w64 (x113 + (1 : Int))) + (1 : Int))) w30) (
  J_12 (w64 (x113 + (1 : Int))) w30))))))) fun J_66 =>
  condB (((l1l : Nat) : Int) == (0 : Int)) (
  J_66 (((r2l : Nat) : Int) == (0 : Int)) w3) (
  J_66 false w3))) fun J_53 =>
  callJ Try.prog fn_ref12_right #[.slice up0p up0l up0c] w [.one .bool] fun (r14 : Bool) (w31 : World) =>
  condB (!r14) (
  J_53 true w31) (
  condB (decide (((l1l : Nat) : Int) > (0 : Int))) (
  callJ Try.prog fn_ref12_kid #[.slice up0p up0l up0c, .slice l1p l1l l1c] w31 [.one .bool] fun (r23 : Bool) (w32 : World) =>
  condB (!r23) (
  J_53 true w32) (
  condB (decide (((r2l : Nat) : Int) > (0 : Int))) (
  callJ Try.prog fn_ref12_kid #[.slice up0p up0l up0c, .slice r2p r2l r2c] w32 [.one .bool] fun (r34 : Bool) (w33 : World) =>
  condB (!r34) (
  J_53 true w33) (
  condB (decide (((l1l : Nat) : Int) > (0 : Int))) (
  condB (decide (((r2l : Nat) : Int) > (0 : Int))) (
  callJ Try.prog fn_ref12_Compare #[.slice l1p l1l l1c, .slice r2p r2l r2c] w33 [.one (.int .i64)] fun (r50 : Int) (w34 : World) =>
  J_53 (decide (r50 ≥ (0 : Int))) w34) (
  J_53 false w33)) (
  J_53 false w33))) (
  condB (decide (((l1l : Nat) : Int) > (0 : Int))) (
  condB (decide (((r2l : Nat) : Int) > (0 : Int))) (
  callJ Try.prog fn_ref12_Compare #[.slice l1p l1l l1c, .slice r2p r2l r2c] w32 [.one (.int .i64)] fun (r50_1 : Int) (w35 : World) =>
  J_53 (decide (r50_1 ≥ (0 : Int))) w35) (
  J_53 false w32)) (
  J_53 false w32)))) (
  condB (decide (((r2l : Nat) : Int) > (0 : Int))) (
  callJ Try.prog fn_ref12_kid #[.slice up0p up0l up0c, .slice r2p r2l r2c] w31 [.one .bool] fun (r34_1 : Bool) (w36 : World) =>
  condB (!r34_1) (
  J_53 true w36) (
  condB (decide (((l1l : Nat) : Int) > (0 : Int))) (
  condB (decide (((r2l : Nat) : Int) > (0 : Int))) (
  callJ Try.prog fn_ref12_Compare #[.slice l1p l1l l1c, .slice r2p r2l r2c] w36 [.one (.int .i64)] fun (r50_2 : Int) (w37 : World) =>
  J_53 (decide (r50_2 ≥ (0 : Int))) w37) (
  J_53 false w36)) (
  J_53 false w36))) (
  condB (decide (((l1l : Nat) : Int) > (0 : Int))) (
  condB (decide (((r2l : Nat) : Int) > (0 : Int))) (
  callJ Try.prog fn_ref12_Compare #[.slice l1p l1l l1c, .slice r2p r2l r2c] w31 [.one (.int .i64)] fun (r50_3 : Int) (w38 : World) =>
  J_53 (decide (r50_3 ≥ (0 : Int))) w38) (
  J_53 false w31)) (
  J_53 false w31))))
def ann_ref12_Between : Ann := .s (.o) (.s (.j [(53, .bool)] (.o) (.c (.s (.o) (.o)) (.o))) (.s (.o) (.s (.o) (.j [(8, .slice)] (.j [(66, .bool)] (.o) (.c (.o) (.s (.o) (.c (.o) (.s (.o) (.c (.o) (.s (.b (.l [(8, .slice), (9, .int .i64)] (.s (.s (.d (.take 0 (.take 1 (.take 2 (.take 3 (.take 4 (.take 5 (.take 6 (.take 7 (.take 8 (.done))))))))))) (.c (.o) (.o))) (.b (.s (.o) (.o)))))) (.s (.d (.take 0 (.take 1 (.take 2 (.take 3 (.take 4 (.take 5 (.take 6 (.take 7 (.take 8 (.take 9 (.done)))))))))))) (.s (.o) (.j [(12, .int .i64)] (.s (.o) (.c (.o) (.o))) (.b (.s (.o) (.c (.o) (.s (.o) (.c (.o) (.s (.o) (.c (.o) (.o)))))))))))))))))) (.s (.s (.o) (.c (.s (.o) (.o)) (.o))) (.s (.o) (.o)))))))
theorem eq_ref12_Between (up0p : Option Addr) (up0l : Nat) (up0c : Nat) (l1p : Option Addr) (l1l : Nat) (l1c : Nat) (r2p : Option Addr) (r2l : Nat) (r2c : Nat) (w : World) (J : Option Addr → Nat → Nat → Int → World → Prop) : vcFun Try.prog Try.f20 ann_ref12_Between [.one .slice, .one (.int .i64)] [.slice up0p up0l up0c, .slice l1p l1l l1c, .slice r2p r2l r2c] w J = VC_ref12_Between up0p up0l up0c l1p l1l l1c r2p r2l r2c w J := by kernel_rfl
theorem c_ref12_Between {up0p : Option Addr} {up0l : Nat} {up0c : Nat} {l1p : Option Addr} {l1l : Nat} {l1c : Nat} {r2p : Option Addr} {r2l : Nat} {r2c : Nat} {w : World} {J : Option Addr → Nat → Nat → Int → World → Prop} (h : VC_ref12_Between up0p up0l up0c l1p l1l l1c r2p r2l r2c w J) : callJ Try.prog fn_ref12_Between #[.slice up0p up0l up0c, .slice l1p l1l l1c, .slice r2p r2l r2c] w [.one .slice, .one (.int .i64)] J := vc_calls Try.func20 ann_ref12_Between (Eq.mpr (eq_ref12_Between up0p up0l up0c l1p l1l l1c r2p r2l r2c w J) h)

/-- lectern/lecternref12.right -/
def VC_ref12_right (l0p : Option Addr) (l0l : Nat) (l0c : Nat) (w : World) (J : Bool → World → Prop) : Prop :=
  callJ Try.prog fn_ref12_Bytes #[.slice l0p l0l l0c] w [.one .slice, .one (.int .i64)] fun (r7_0p : Option Addr) (r7_0l : Nat) (r7_0c : Nat) (r7_1 : Int) (w1 : World) =>
  J (r7_1 == (0 : Int)) w1
def ann_ref12_right : Ann := .s (.o) (.s (.o) (.s (.o) (.o)))
theorem eq_ref12_right (l0p : Option Addr) (l0l : Nat) (l0c : Nat) (w : World) (J : Bool → World → Prop) : vcFun Try.prog Try.f46 ann_ref12_right [.one .bool] [.slice l0p l0l l0c] w J = VC_ref12_right l0p l0l l0c w J := by kernel_rfl
theorem c_ref12_right {l0p : Option Addr} {l0l : Nat} {l0c : Nat} {w : World} {J : Bool → World → Prop} (h : VC_ref12_right l0p l0l l0c w J) : callJ Try.prog fn_ref12_right #[.slice l0p l0l l0c] w [.one .bool] J := vc_calls Try.func46 ann_ref12_right (Eq.mpr (eq_ref12_right l0p l0l l0c w J) h)

/-- lectern/lecternref12.kid -/
def VC_ref12_kid (up0p : Option Addr) (up0l : Nat) (up0c : Nat) (l1p : Option Addr) (l1l : Nat) (l1c : Nat) (w : World) (J : Bool → World → Prop) : Prop :=
  withJ (fun (x4 : Bool) (w1 : World) =>
  J x4 w1) fun J_4 =>
  condB (decide (((l1l : Nat) : Int) > (0 : Int))) (
  callJ Try.prog fn_ref12_right #[.slice l1p l1l l1c] w [.one .bool] fun (r10 : Bool) (w2 : World) =>
  condB r10 (
  callJ Try.prog fn_ref12_Up #[.slice l1p l1l l1c] w2 [.one .slice] fun (r14p : Option Addr) (r14l : Nat) (r14c : Nat) (w3 : World) =>
  callJ Try.prog fn_ref12_Compare #[.slice r14p r14l r14c, .slice up0p up0l up0c] w3 [.one (.int .i64)] fun (r16 : Int) (w4 : World) =>
  J_4 (r16 == (0 : Int)) w4) (
  J_4 false w2)) (
  J_4 false w)
def ann_ref12_kid : Ann := .s (.o) (.j [(4, .bool)] (.o) (.o))
theorem eq_ref12_kid (up0p : Option Addr) (up0l : Nat) (up0c : Nat) (l1p : Option Addr) (l1l : Nat) (l1c : Nat) (w : World) (J : Bool → World → Prop) : vcFun Try.prog Try.f47 ann_ref12_kid [.one .bool] [.slice up0p up0l up0c, .slice l1p l1l l1c] w J = VC_ref12_kid up0p up0l up0c l1p l1l l1c w J := by kernel_rfl
theorem c_ref12_kid {up0p : Option Addr} {up0l : Nat} {up0c : Nat} {l1p : Option Addr} {l1l : Nat} {l1c : Nat} {w : World} {J : Bool → World → Prop} (h : VC_ref12_kid up0p up0l up0c l1p l1l l1c w J) : callJ Try.prog fn_ref12_kid #[.slice up0p up0l up0c, .slice l1p l1l l1c] w [.one .bool] J := vc_calls Try.func47 ann_ref12_kid (Eq.mpr (eq_ref12_kid up0p up0l up0c l1p l1l l1c w J) h)

/-- lectern/lecternref12.on -/
def VC_ref12_on (c0 : Int) (side1 : Int) (w : World) (J : Int → World → Prop) : Prop :=
  callJ Try.prog fn_ref12_odd #[.int .i64 c0] w [.one .bool] fun (r6 : Bool) (w1 : World) =>
  condB r6 (
  J (w64 (c0 + (w64 ((2 : Int) * side1)))) w1) (
  J (w64 (c0 + side1)) w1)
def ann_ref12_on : Ann := .s (.o) (.s (.s (.o) (.c (.s (.o) (.o)) (.o))) (.s (.o) (.o)))
theorem eq_ref12_on (c0 : Int) (side1 : Int) (w : World) (J : Int → World → Prop) : vcFun Try.prog Try.f48 ann_ref12_on [.one (.int .i64)] [.int .i64 c0, .int .i64 side1] w J = VC_ref12_on c0 side1 w J := by kernel_rfl
theorem c_ref12_on {c0 : Int} {side1 : Int} {w : World} {J : Int → World → Prop} (h : VC_ref12_on c0 side1 w J) : callJ Try.prog fn_ref12_on #[.int .i64 c0, .int .i64 side1] w [.one (.int .i64)] J := vc_calls Try.func48 ann_ref12_on (Eq.mpr (eq_ref12_on c0 side1 w J) h)

/-- lectern/lecternref01.Same -/
def VC_ref01_Same (a0p : Option Addr) (a0l : Nat) (a0c : Nat) (b1p : Option Addr) (b1l : Nat) (b1c : Nat) (w : World) (J : Bool → World → Prop) : Prop :=
  bytesOf w a0p a0l fun bs6 =>
  bytesOf w b1p b1l fun bs8 =>
  J ((⟨bs6.toArray⟩ : ByteArray).toList == (⟨bs8.toArray⟩ : ByteArray).toList) w
def ann_ref01_Same : Ann := .s (.o) (.s (.o) (.o))
theorem eq_ref01_Same (a0p : Option Addr) (a0l : Nat) (a0c : Nat) (b1p : Option Addr) (b1l : Nat) (b1c : Nat) (w : World) (J : Bool → World → Prop) : vcFun Try.prog Try.f16 ann_ref01_Same [.one .bool] [.slice a0p a0l a0c, .slice b1p b1l b1c] w J = VC_ref01_Same a0p a0l a0c b1p b1l b1c w J := by kernel_rfl
theorem c_ref01_Same {a0p : Option Addr} {a0l : Nat} {a0c : Nat} {b1p : Option Addr} {b1l : Nat} {b1c : Nat} {w : World} {J : Bool → World → Prop} (h : VC_ref01_Same a0p a0l a0c b1p b1l b1c w J) : callJ Try.prog fn_ref01_Same #[.slice a0p a0l a0c, .slice b1p b1l b1c] w [.one .bool] J := vc_calls Try.func16 ann_ref01_Same (Eq.mpr (eq_ref01_Same a0p a0l a0c b1p b1l b1c w J) h)

/-- lectern/lecternref05.SameInts -/
def VC_ref05_SameInts (a0p : Option Addr) (a0l : Nat) (a0c : Nat) (b1p : Option Addr) (b1l : Nat) (b1c : Nat) (w : World) (J : Bool → World → Prop) : Prop :=
  condB (((a0l : Nat) : Int) != ((b1l : Nat) : Int)) (
  J false w) (
  ∃ I_13 : Int → World → Nat → Prop, (∃ m : Nat, I_13 (0 : Int) w m) ∧ ∀ (x13 : Int) (w1 : World) (m : Nat), I_13 x13 w1 m → (
  condB (decide (x13 < ((a0l : Nat) : Int))) (
  idxA a0p a0l x13 fun a18 =>
  ldI .i64 w1.drew ((a18.add (x13.toNat * 1))) fun x19 =>
  idxA b1p b1l x13 fun a22 =>
  ldI .i64 w1.drew ((a22.add (x13.toNat * 1))) fun x23 =>
  condB (x19 != x23) (
  J false w1.drew) (
  ∃ m' : Nat, m' < m ∧ I_13 (w64 (x13 + (1 : Int))) w1.drew m')) (
  J true w1)))
def ann_ref05_SameInts : Ann := .s (.o) (.s (.s (.o) (.c (.s (.o) (.o)) (.o))) (.s (.s (.o) (.b (.l [(13, .int .i64)] (.s (.o) (.s (.c (.o) (.o)) (.s (.b (.s (.o) (.s (.d (.take 0 (.take 1 (.take 2 (.take 3 (.take 4 (.take 5 (.take 6 (.take 7 (.take 8 (.done))))))))))) (.c (.s (.o) (.o)) (.o))))) (.o))))))) (.s (.o) (.o))))
theorem eq_ref05_SameInts (a0p : Option Addr) (a0l : Nat) (a0c : Nat) (b1p : Option Addr) (b1l : Nat) (b1c : Nat) (w : World) (J : Bool → World → Prop) : vcFun Try.prog Try.f18 ann_ref05_SameInts [.one .bool] [.slice a0p a0l a0c, .slice b1p b1l b1c] w J = VC_ref05_SameInts a0p a0l a0c b1p b1l b1c w J := by kernel_rfl
theorem c_ref05_SameInts {a0p : Option Addr} {a0l : Nat} {a0c : Nat} {b1p : Option Addr} {b1l : Nat} {b1c : Nat} {w : World} {J : Bool → World → Prop} (h : VC_ref05_SameInts a0p a0l a0c b1p b1l b1c w J) : callJ Try.prog fn_ref05_SameInts #[.slice a0p a0l a0c, .slice b1p b1l b1c] w [.one .bool] J := vc_calls Try.func18 ann_ref05_SameInts (Eq.mpr (eq_ref05_SameInts a0p a0l a0c b1p b1l b1c w J) h)

end Go.Proofs.Ytjjmnfpdkgnmoaa
