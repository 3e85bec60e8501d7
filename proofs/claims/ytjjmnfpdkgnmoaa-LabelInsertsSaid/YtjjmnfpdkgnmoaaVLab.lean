/- What the conditions of these functions are, reckoned by the reading; printed by program. -/
import Derived.Test.YtjjmnfpdkgnmoaaNm
import Derived.KernelRfl
set_option maxRecDepth 100000
set_option linter.unusedVariables false
namespace Go.Proofs.Ytjjmnfpdkgnmoaa
open Go Go.Vc

/-- lectern/label.Bytes -/
def VC_label_Bytes (l0p : Option Addr) (l0l : Nat) (l0c : Nat) (w : World) (J : Option Addr → Nat → Nat → Int → World → Prop) : Prop :=
  withJ (fun (x23 : Bool) (w1 : World) =>
  condB x23 (
  J none 0 0 (11 : Int) w1) (
  newB w1 (.cells ⟨[.slice none 0 0, .int .i64 (0 : Int)]⟩ T_label_writer) fun b25 w2 =>
  ∃ I_28 : Int → World → Nat → Prop, (∃ m : Nat, I_28 (0 : Int) w2 m) ∧ ∀ (x28 : Int) (w3 : World) (m : Nat), I_28 x28 w3 m → (
  condB (decide (x28 < ((l0l : Nat) : Int))) (
  idxA l0p l0l x28 fun a30 =>
  ldI .i64 w3 ((a30.add (x28.toNat * 1))) fun x31 =>
  callJ Try.prog fn_label_writer_number #[.pointer (some ⟨b25, 0, none⟩), .int .i64 x31] w3 [] fun (w4 : World) =>
  ldS w4 ⟨b25, 0, none⟩ fun x38p x38l x38c =>
  condB (decide (((x38l : Nat) : Int) > (120 : Int))) (
  J none 0 0 (5 : Int) w4) (
  ∃ m' : Nat, m' < m ∧ I_28 (w64 (x28 + (1 : Int))) w4 m')) (
  ldS w3 ⟨b25, 0, none⟩ fun x45p x45l x45c =>
  J x45p x45l x45c (0 : Int) w3)))) fun J_23 =>
  callJ Try.prog fn_slices_ContainsFunc_sl_int_int #[.slice l0p l0l l0c, .func (.func 31) #[] #[]] w [.one .bool] fun (r8 : Bool) (w5 : World) =>
  condB r8 (
  J_23 true w5) (
  condB (decide (((l0l : Nat) : Int) > (0 : Int))) (
  idxA l0p l0l (w64 (((l0l : Nat) : Int) - (1 : Int))) fun a18 =>
  ldI .i64 w5 ((a18.add ((w64 (((l0l : Nat) : Int) - (1 : Int))).toNat * 1))) fun x19 =>
  callJ Try.prog fn_label_odd #[.int .i64 x19] w5 [.one .bool] fun (r20 : Bool) (w6 : World) =>
  J_23 (!r20) w6) (
  J_23 false w5))
def ann_label_Bytes : Ann := .s (.o) (.s (.j [(23, .bool)] (.o) (.c (.s (.o) (.o)) (.o))) (.s (.o) (.s (.s (.o) (.b (.l [(28, .int .i64)] (.s (.o) (.s (.c (.o) (.o)) (.s (.b (.s (.o) (.s (.o) (.s (.o) (.c (.s (.o) (.o)) (.o)))))) (.o))))))) (.s (.o) (.o)))))
theorem eq_label_Bytes (l0p : Option Addr) (l0l : Nat) (l0c : Nat) (w : World) (J : Option Addr → Nat → Nat → Int → World → Prop) : vcFun Try.prog Try.f12 ann_label_Bytes [.one .slice, .one (.int .i64)] [.slice l0p l0l l0c] w J = VC_label_Bytes l0p l0l l0c w J := by kernel_rfl
theorem c_label_Bytes {l0p : Option Addr} {l0l : Nat} {l0c : Nat} {w : World} {J : Option Addr → Nat → Nat → Int → World → Prop} (h : VC_label_Bytes l0p l0l l0c w J) : callJ Try.prog fn_label_Bytes #[.slice l0p l0l l0c] w [.one .slice, .one (.int .i64)] J := vc_calls Try.func12 ann_label_Bytes (Eq.mpr (eq_label_Bytes l0p l0l l0c w J) h)

/-- slices.ContainsFunc[[]int,int] -/
def VC_slices_ContainsFunc_sl_int_int_f1_31 (s0p : Option Addr) (s0l : Nat) (s0c : Nat) (w : World) (J : Bool → World → Prop) : Prop :=
  callJ Try.prog fn_slices_IndexFunc_sl_int_int #[.slice s0p s0l s0c, .func (.func 31) #[] #[]] w [.one (.int .i64)] fun (r7 : Int) (w1 : World) =>
  J (decide (r7 ≥ (0 : Int))) w1
def ann_slices_ContainsFunc_sl_int_int_f1_31 : Ann := .s (.o) (.s (.o) (.o))
theorem eq_slices_ContainsFunc_sl_int_int_f1_31 (s0p : Option Addr) (s0l : Nat) (s0c : Nat) (w : World) (J : Bool → World → Prop) : vcFun Try.prog Try.f30 ann_slices_ContainsFunc_sl_int_int_f1_31 [.one .bool] [.slice s0p s0l s0c, .func (.func 31) #[] #[]] w J = VC_slices_ContainsFunc_sl_int_int_f1_31 s0p s0l s0c w J := by kernel_rfl
theorem c_slices_ContainsFunc_sl_int_int_f1_31 {s0p : Option Addr} {s0l : Nat} {s0c : Nat} {w : World} {J : Bool → World → Prop} (h : VC_slices_ContainsFunc_sl_int_int_f1_31 s0p s0l s0c w J) : callJ Try.prog fn_slices_ContainsFunc_sl_int_int #[.slice s0p s0l s0c, .func (.func 31) #[] #[]] w [.one .bool] J := vc_calls Try.func30 ann_slices_ContainsFunc_sl_int_int_f1_31 (Eq.mpr (eq_slices_ContainsFunc_sl_int_int_f1_31 s0p s0l s0c w J) h)

/-- slices.IndexFunc[[]int,int] -/
def VC_slices_IndexFunc_sl_int_int_f1_31 (s0p : Option Addr) (s0l : Nat) (s0c : Nat) (w : World) (J : Int → World → Prop) : Prop :=
  ∃ I_8 : Int → World → Nat → Prop, (∃ m : Nat, I_8 (0 : Int) w m) ∧ ∀ (x8 : Int) (w1 : World) (m : Nat), I_8 x8 w1 m → (
  condB (decide (x8 < ((s0l : Nat) : Int))) (
  idxA s0p s0l x8 fun a14 =>
  ldI .i64 w1 ((a14.add (x8.toNat * 1))) fun x15 =>
  callJ Try.prog fn_label_Bytes_1 #[.int .i64 x15] w1 [.one .bool] fun (r16 : Bool) (w2 : World) =>
  condB r16 (
  J x8 w2) (
  ∃ m' : Nat, m' < m ∧ I_8 (w64 (x8 + (1 : Int))) w2 m')) (
  J (-1 : Int) w1))
def ann_slices_IndexFunc_sl_int_int_f1_31 : Ann := .s (.o) (.s (.s (.o) (.b (.l [(8, .int .i64)] (.s (.o) (.s (.c (.o) (.o)) (.s (.b (.s (.o) (.s (.o) (.c (.s (.o) (.o)) (.o))))) (.o))))))) (.s (.o) (.o)))
theorem eq_slices_IndexFunc_sl_int_int_f1_31 (s0p : Option Addr) (s0l : Nat) (s0c : Nat) (w : World) (J : Int → World → Prop) : vcFun Try.prog Try.f51 ann_slices_IndexFunc_sl_int_int_f1_31 [.one (.int .i64)] [.slice s0p s0l s0c, .func (.func 31) #[] #[]] w J = VC_slices_IndexFunc_sl_int_int_f1_31 s0p s0l s0c w J := by kernel_rfl
theorem c_slices_IndexFunc_sl_int_int_f1_31 {s0p : Option Addr} {s0l : Nat} {s0c : Nat} {w : World} {J : Int → World → Prop} (h : VC_slices_IndexFunc_sl_int_int_f1_31 s0p s0l s0c w J) : callJ Try.prog fn_slices_IndexFunc_sl_int_int #[.slice s0p s0l s0c, .func (.func 31) #[] #[]] w [.one (.int .i64)] J := vc_calls Try.func51 ann_slices_IndexFunc_sl_int_int_f1_31 (Eq.mpr (eq_slices_IndexFunc_sl_int_int_f1_31 s0p s0l s0c w J) h)

/-- lectern/label.Bytes$1 -/
def VC_label_Bytes_1 (v0 : Int) (w : World) (J : Bool → World → Prop) : Prop :=
  withJ (fun (x2 : Bool) (w1 : World) =>
  J x2 w1) fun J_2 =>
  condB (decide (v0 < (-1073741824 : Int))) (
  J_2 true w) (
  J_2 (decide (v0 > (1073741824 : Int))) w)
def ann_label_Bytes_1 : Ann := .s (.o) (.j [(2, .bool)] (.o) (.o))
theorem eq_label_Bytes_1 (v0 : Int) (w : World) (J : Bool → World → Prop) : vcFun Try.prog Try.f31 ann_label_Bytes_1 [.one .bool] [.int .i64 v0] w J = VC_label_Bytes_1 v0 w J := by kernel_rfl
theorem c_label_Bytes_1 {v0 : Int} {w : World} {J : Bool → World → Prop} (h : VC_label_Bytes_1 v0 w J) : callJ Try.prog fn_label_Bytes_1 #[.int .i64 v0] w [.one .bool] J := vc_calls Try.func31 ann_label_Bytes_1 (Eq.mpr (eq_label_Bytes_1 v0 w J) h)

/-- lectern/label.odd -/
def VC_label_odd (n0 : Int) (w : World) (J : Bool → World → Prop) : Prop :=
  J ((bAnd .i64 n0 (1 : Int)) == (1 : Int)) w
def ann_label_odd : Ann := .s (.o) (.s (.o) (.o))
theorem eq_label_odd (n0 : Int) (w : World) (J : Bool → World → Prop) : vcFun Try.prog Try.f32 ann_label_odd [.one .bool] [.int .i64 n0] w J = VC_label_odd n0 w J := by kernel_rfl
theorem c_label_odd {n0 : Int} {w : World} {J : Bool → World → Prop} (h : VC_label_odd n0 w J) : callJ Try.prog fn_label_odd #[.int .i64 n0] w [.one .bool] J := vc_calls Try.func32 ann_label_odd (Eq.mpr (eq_label_odd n0 w J) h)

/-- (lectern/label.writer).number -/
def VC_label_writer_number_n0 (w0 : Addr) (v1 : Int) (w : World) (J : World → Prop) : Prop :=
  withJ (fun (n5 : Int) (w1 : World) =>
  callJ Try.prog fn_label_writer_bit #[.pointer (some w0), .bool (!(decide (v1 < (0 : Int))))] w1 [] fun (w2 : World) =>
  callJ Try.prog fn_math_bits_Len #[.int .u64 n5] w2 [.one (.int .i64)] fun (r22 : Int) (w3 : World) =>
  ∃ I_25 : Int → World → Nat → Prop, (∃ m : Nat, I_25 (0 : Int) w3 m) ∧ ∀ (x25 : Int) (w4 : World) (m : Nat), I_25 x25 w4 m → (
  condB (decide (x25 < (w64 (r22 - (1 : Int))))) (
  callJ Try.prog fn_label_writer_bit #[.pointer (some w0), .bool (!(decide (v1 < (0 : Int))))] w4 [] fun (w5 : World) =>
  ∃ m' : Nat, m' < m ∧ I_25 (w64 (x25 + (1 : Int))) w5 m') (
  callJ Try.prog fn_label_writer_bit #[.pointer (some w0), .bool (decide (v1 < (0 : Int)))] w4 [] fun (w6 : World) =>
  ∃ I_7 : Int → World → Nat → Prop, (∃ m : Nat, I_7 (w64 (r22 - (2 : Int))) w6 m) ∧ ∀ (i7 : Int) (w7 : World) (m_1 : Nat), I_7 i7 w7 m_1 → (
  condB (decide (i7 ≥ (0 : Int))) (
  0 ≤ i7 ∧
  callJ Try.prog fn_label_writer_bit #[.pointer (some w0), .bool (!(((bAnd .u64 (shrI .u64 n5 i7) (1 : Int)) == (1 : Int)) == (decide (v1 < (0 : Int)))))] w7 [] fun (w8 : World) =>
  ∃ m' : Nat, m' < m_1 ∧ I_7 (w64 (i7 - (1 : Int))) w8 m') (
  J w7))))) fun J_5 =>
  condB (decide (v1 < (0 : Int))) (
  J_5 (IntKind.u64.wrap (w64 (0 - v1))) w) (
  J_5 (IntKind.u64.wrap (w64 (v1 + (1 : Int)))) w)
def ann_label_writer_number_n0 : Ann := .s (.o) (.s (.o) (.j [(5, .int .u64)] (.s (.o) (.c (.o) (.o))) (.s (.o) (.s (.o) (.s (.s (.o) (.b (.l [(25, .int .i64)] (.s (.o) (.s (.c (.o) (.o)) (.s (.b (.o)) (.o))))))) (.s (.o) (.s (.o) (.b (.l [(7, .int .i64)] (.s (.s (.o) (.c (.o) (.o))) (.s (.b (.o)) (.o))))))))))))
theorem eq_label_writer_number_n0 (w0 : Addr) (v1 : Int) (w : World) (J : World → Prop) : vcFun Try.prog Try.f33 ann_label_writer_number_n0 [] [.pointer (some w0), .int .i64 v1] w J = VC_label_writer_number_n0 w0 v1 w J := by kernel_rfl
theorem c_label_writer_number_n0 {w0 : Addr} {v1 : Int} {w : World} {J : World → Prop} (h : VC_label_writer_number_n0 w0 v1 w J) : callJ Try.prog fn_label_writer_number #[.pointer (some w0), .int .i64 v1] w [] J := vc_calls Try.func33 ann_label_writer_number_n0 (Eq.mpr (eq_label_writer_number_n0 w0 v1 w J) h)

/-- (lectern/label.writer).bit -/
def VC_label_writer_bit_n0 (w0 : Addr) (on1 : Bool) (w : World) (J : World → Prop) : Prop :=
  withJ (fun (w1 : World) =>
  withJ (fun (w2 : World) =>
  ldI .i64 w2 ((w0.add 1)) fun x42 =>
  stV w2 ((w0.add 1)) (.int .i64 (w64 (x42 + (1 : Int)))) fun w3 =>
  J w3) fun J_0_1 =>
  condB on1 (
  ldS w1.drew w0 fun x23p x23l x23c =>
  ldI .i64 w1.drew ((w0.add 1)) fun x27 =>
  (8 : Int) ≠ 0 ∧
  idxA x23p x23l (w64 (Int.tdiv x27 (8 : Int))) fun a29 =>
  ldI .u8 w1.drew ((a29.add ((w64 (Int.tdiv x27 (8 : Int))).toNat * 1))) fun x30 =>
  ldI .i64 w1.drew ((w0.add 1)) fun x34 =>
  (8 : Int) ≠ 0 ∧
  0 ≤ (Int.tmod x34 (8 : Int)) ∧
  idxA x23p x23l (w64 (Int.tdiv x27 (8 : Int))) fun a38 =>
  stV w1.drew ((a38.add ((w64 (Int.tdiv x27 (8 : Int))).toNat * 1))) (.int .u8 (bOr .u8 x30 (shrI .u8 (128 : Int) (Int.tmod x34 (8 : Int))))) fun w4 =>
  J_0_1 w4) (
  J_0_1 w1)) fun J_0 =>
  ldI .i64 w ((w0.add 1)) fun x7 =>
  (8 : Int) ≠ 0 ∧
  condB ((Int.tmod x7 (8 : Int)) == (0 : Int)) (
  ldS w w0 fun x14p x14l x14c =>
  newB w (.cells ⟨[.int .u8 (0 : Int)]⟩ T_uint8) fun b15 w5 =>
  appJ Try.prog T_sl_uint8 T_sl_uint8 (.slice x14p x14l x14c) (.slice (some ⟨b15, 0, none⟩) 1 1) w5 fun q16p q16l q16c w6 =>
  stV w6 w0 (.slice q16p q16l q16c) fun w7 =>
  J_0 w7) (
  J_0 w)
def ann_label_writer_bit_n0 : Ann := .j [] (.s (.o) (.c (.o) (.o))) (.j [] (.s (.o) (.c (.d (.take 0 (.take 1 (.take 2 (.take 3 (.take 4 (.take 5 (.take 6 (.take 7 (.take 8 (.take 9 (.take 10 (.take 11 (.take 12 (.take 13 (.take 14 (.take 15 (.take 16 (.take 17 (.take 18 (.eff 19 (.done) (.none)))))))))))))))))))))) (.o))) (.o))
theorem eq_label_writer_bit_n0 (w0 : Addr) (on1 : Bool) (w : World) (J : World → Prop) : vcFun Try.prog Try.f52 ann_label_writer_bit_n0 [] [.pointer (some w0), .bool on1] w J = VC_label_writer_bit_n0 w0 on1 w J := by kernel_rfl
theorem c_label_writer_bit_n0 {w0 : Addr} {on1 : Bool} {w : World} {J : World → Prop} (h : VC_label_writer_bit_n0 w0 on1 w J) : callJ Try.prog fn_label_writer_bit #[.pointer (some w0), .bool on1] w [] J := vc_calls Try.func52 ann_label_writer_bit_n0 (Eq.mpr (eq_label_writer_bit_n0 w0 on1 w J) h)

/-- math/bits.Len -/
def VC_math_bits_Len (x0 : Int) (w : World) (J : Int → World → Prop) : Prop :=
  callJ Try.prog fn_math_bits_Len64 #[.int .u64 x0] w [.one (.int .i64)] fun (r7 : Int) (w1 : World) =>
  J r7 w1
def ann_math_bits_Len : Ann := .s (.o) (.s (.c .u (.o)) (.s (.o) (.o)))
theorem eq_math_bits_Len (x0 : Int) (w : World) (J : Int → World → Prop) : vcFun Try.prog Try.f53 ann_math_bits_Len [.one (.int .i64)] [.int .u64 x0] w J = VC_math_bits_Len x0 w J := by kernel_rfl
theorem c_math_bits_Len {x0 : Int} {w : World} {J : Int → World → Prop} (h : VC_math_bits_Len x0 w J) : callJ Try.prog fn_math_bits_Len #[.int .u64 x0] w [.one (.int .i64)] J := vc_calls Try.func53 ann_math_bits_Len (Eq.mpr (eq_math_bits_Len x0 w J) h)

/-- math/bits.Len64 -/
def VC_math_bits_Len64 (x0 : Int) (w : World) (J : Int → World → Prop) : Prop :=
  withJ (fun (x0 : Int) (n2 : Int) (w1 : World) =>
  withJ (fun (x0_1 : Int) (n2_1 : Int) (w2 : World) =>
  withJ (fun (x0_2 : Int) (n2_2 : Int) (w3 : World) =>
  idxStr ⟨#[0, 1, 2, 2, 3, 3, 3, 3, 4, 4, 4, 4, 4, 4, 4, 4, 5, 5, 5, 5, 5, 5, 5, 5, 5, 5, 5, 5, 5, 5, 5, 5, 6, 6, 6, 6, 6, 6, 6, 6, 6, 6, 6, 6, 6, 6, 6, 6, 6, 6, 6, 6, 6, 6, 6, 6, 6, 6, 6, 6, 6, 6, 6, 6, 7, 7, 7, 7, 7, 7, 7, 7, 7, 7, 7, 7, 7, 7, 7, 7, 7, 7, 7, 7, 7, 7, 7, 7, 7, 7, 7, 7, 7, 7, 7, 7, 7, 7, 7, 7, 7, 7, 7, 7, 7, 7, 7, 7, 7, 7, 7, 7, 7, 7, 7, 7, 7, 7, 7, 7, 7, 7, 7, 7, 7, 7, 7, 7, 8, 8, 8, 8, 8, 8, 8, 8, 8, 8, 8, 8, 8, 8, 8, 8, 8, 8, 8, 8, 8, 8, 8, 8, 8, 8, 8, 8, 8, 8, 8, 8, 8, 8, 8, 8, 8, 8, 8, 8, 8, 8, 8, 8, 8, 8, 8, 8, 8, 8, 8, 8, 8, 8, 8, 8, 8, 8, 8, 8, 8, 8, 8, 8, 8, 8, 8, 8, 8, 8, 8, 8, 8, 8, 8, 8, 8, 8, 8, 8, 8, 8, 8, 8, 8, 8, 8, 8, 8, 8, 8, 8, 8, 8, 8, 8, 8, 8, 8, 8, 8, 8, 8, 8, 8, 8, 8, 8, 8, 8, 8, 8, 8, 8, 8, 8, 8, 8, 8, 8, 8, 8, 8, 8, 8, 8, 8, 8]⟩ (IntKind.u8.wrap x0_2) fun x22 =>
  J (w64 (n2_2 + (w64 x22))) w3) fun J_0_2 =>
  condB (decide (x0_1 ≥ (256 : Int))) (
  0 ≤ (8 : Int) ∧
  J_0_2 (shrI .u64 x0_1 (8 : Int)) (w64 (n2_1 + (8 : Int))) w2) (
  J_0_2 x0_1 n2_1 w2)) fun J_0_1 =>
  condB (decide (x0 ≥ (65536 : Int))) (
  0 ≤ (16 : Int) ∧
  J_0_1 (shrI .u64 x0 (16 : Int)) (w64 (n2 + (16 : Int))) w1) (
  J_0_1 x0 n2 w1)) fun J_0 =>
  condB (decide (x0 ≥ (4294967296 : Int))) (
  0 ≤ (32 : Int) ∧
  J_0 (shrI .u64 x0 (32 : Int)) (32 : Int) w) (
  J_0 x0 (0 : Int) w)
def ann_math_bits_Len64 : Ann := .s (.o) (.j [(0, .int .u64), (2, .int .i64)] (.s (.o) (.c (.s (.o) (.o)) (.o))) (.j [(0, .int .u64), (2, .int .i64)] (.s (.o) (.c (.s (.o) (.o)) (.o))) (.j [(0, .int .u64), (2, .int .i64)] (.s (.o) (.c (.s (.o) (.o)) (.o))) (.s (.o) (.o)))))
theorem eq_math_bits_Len64 (x0 : Int) (w : World) (J : Int → World → Prop) : vcFun Try.prog Try.f58 ann_math_bits_Len64 [.one (.int .i64)] [.int .u64 x0] w J = VC_math_bits_Len64 x0 w J := by kernel_rfl
theorem c_math_bits_Len64 {x0 : Int} {w : World} {J : Int → World → Prop} (h : VC_math_bits_Len64 x0 w J) : callJ Try.prog fn_math_bits_Len64 #[.int .u64 x0] w [.one (.int .i64)] J := vc_calls Try.func58 ann_math_bits_Len64 (Eq.mpr (eq_math_bits_Len64 x0 w J) h)

/-- lectern/label.Check -/
def VC_label_Check (l0p : Option Addr) (l0l : Nat) (l0c : Nat) (w : World) (J : Int → World → Prop) : Prop :=
  callJ Try.prog fn_label_Bytes #[.slice l0p l0l l0c] w [.one .slice, .one (.int .i64)] fun (r7_0p : Option Addr) (r7_0l : Nat) (r7_0c : Nat) (r7_1 : Int) (w1 : World) =>
  J r7_1 w1
def ann_label_Check : Ann := .s (.o) (.s (.o) (.s (.o) (.o)))
theorem eq_label_Check (l0p : Option Addr) (l0l : Nat) (l0c : Nat) (w : World) (J : Int → World → Prop) : vcFun Try.prog Try.f17 ann_label_Check [.one (.int .i64)] [.slice l0p l0l l0c] w J = VC_label_Check l0p l0l l0c w J := by kernel_rfl
theorem c_label_Check {l0p : Option Addr} {l0l : Nat} {l0c : Nat} {w : World} {J : Int → World → Prop} (h : VC_label_Check l0p l0l l0c w J) : callJ Try.prog fn_label_Check #[.slice l0p l0l l0c] w [.one (.int .i64)] J := vc_calls Try.func17 ann_label_Check (Eq.mpr (eq_label_Check l0p l0l l0c w J) h)

/-- lectern/label.Read -/
def VC_label_Read (b0p : Option Addr) (b0l : Nat) (b0c : Nat) (w : World) (J : Option Addr → Nat → Nat → Int → World → Prop) : Prop :=
  condB (decide (((b0l : Nat) : Int) > (120 : Int))) (
  J none 0 0 (11 : Int) w) (
  newB w (.cells ⟨[.slice b0p b0l b0c, .int .i64 (0 : Int)]⟩ T_label_reader) fun b13 w1 =>
  ∃ I_5 : Option Addr → Nat → Nat → World → Nat → Prop, (∃ m : Nat, I_5 none 0 0 w1 m) ∧ ∀ (l5p : Option Addr) (l5l : Nat) (l5c : Nat) (w2 : World) (m : Nat), I_5 l5p l5l l5c w2 m → (
  ldI .i64 w2 ⟨b13, 1, none⟩ fun x18 =>
  callJ Try.prog fn_label_done #[.slice b0p b0l b0c, .int .i64 x18] w2 [.one .bool] fun (r19 : Bool) (w3 : World) =>
  condB (!r19) (
  callJ Try.prog fn_label_reader_number #[.pointer (some ⟨b13, 0, none⟩)] w3 [.one (.int .i64)] fun (r23 : Int) (w4 : World) =>
  newB w4 (.cells ⟨[.int .i64 r23]⟩ T_int) fun b24 w5 =>
  appJ Try.prog T_sl_int T_sl_int (.slice l5p l5l l5c) (.slice (some ⟨b24, 0, none⟩) 1 1) w5 fun q25p q25l q25c w6 =>
  ∃ m' : Nat, m' < m ∧ I_5 q25p q25l q25c w6 m') (
  callJ Try.prog fn_label_Bytes #[.slice l5p l5l l5c] w3 [.one .slice, .one (.int .i64)] fun (r28_0p : Option Addr) (r28_0l : Nat) (r28_0c : Nat) (r28_1 : Int) (w7 : World) =>
  withJ (fun (x38 : Bool) (w8 : World) =>
  condB x38 (
  J none 0 0 (11 : Int) w8) (
  J l5p l5l l5c (0 : Int) w8)) fun J_38 =>
  condB (r28_1 != (0 : Int)) (
  J_38 true w7) (
  callJ Try.prog fn_bytes_Equal #[.slice r28_0p r28_0l r28_0c, .slice b0p b0l b0c] w7 [.one .bool] fun (r36 : Bool) (w9 : World) =>
  J_38 (!r36) w9))))
def ann_label_Read : Ann := .s (.o) (.s (.s (.o) (.c (.s (.o) (.o)) (.o))) (.s (.o) (.s (.o) (.s (.b (.l [(5, .slice)] (.s (.s (.o) (.c (.o) (.o))) (.b (.o))))) (.s (.s (.o) (.j [(38, .bool)] (.o) (.c (.s (.o) (.o)) (.o)))) (.s (.o) (.o)))))))
theorem eq_label_Read (b0p : Option Addr) (b0l : Nat) (b0c : Nat) (w : World) (J : Option Addr → Nat → Nat → Int → World → Prop) : vcFun Try.prog Try.f14 ann_label_Read [.one .slice, .one (.int .i64)] [.slice b0p b0l b0c] w J = VC_label_Read b0p b0l b0c w J := by kernel_rfl
theorem c_label_Read {b0p : Option Addr} {b0l : Nat} {b0c : Nat} {w : World} {J : Option Addr → Nat → Nat → Int → World → Prop} (h : VC_label_Read b0p b0l b0c w J) : callJ Try.prog fn_label_Read #[.slice b0p b0l b0c] w [.one .slice, .one (.int .i64)] J := vc_calls Try.func14 ann_label_Read (Eq.mpr (eq_label_Read b0p b0l b0c w J) h)

/-- lectern/label.done -/
def VC_label_done (b0p : Option Addr) (b0l : Nat) (b0c : Nat) (n1 : Int) (w : World) (J : Bool → World → Prop) : Prop :=
  ∃ I_1 : Int → World → Nat → Prop, (∃ m : Nat, I_1 n1 w m) ∧ ∀ (n1 : Int) (w1 : World) (m : Nat), I_1 n1 w1 m → (
  condB (decide (n1 < (w64 ((8 : Int) * ((b0l : Nat) : Int))))) (
  (8 : Int) ≠ 0 ∧
  idxA b0p b0l (w64 (Int.tdiv n1 (8 : Int))) fun a15 =>
  ldI .u8 w1.drew ((a15.add ((w64 (Int.tdiv n1 (8 : Int))).toNat * 1))) fun x16 =>
  (8 : Int) ≠ 0 ∧
  0 ≤ (Int.tmod n1 (8 : Int)) ∧
  condB ((bAnd .u8 x16 (shrI .u8 (128 : Int) (Int.tmod n1 (8 : Int)))) != (0 : Int)) (
  J false w1.drew) (
  ∃ m' : Nat, m' < m ∧ I_1 (w64 (n1 + (1 : Int))) w1.drew m')) (
  J true w1))
def ann_label_done : Ann := .s (.o) (.s (.b (.l [(1, .int .i64)] (.s (.s (.o) (.c (.o) (.o))) (.s (.b (.s (.d (.take 0 (.take 1 (.take 2 (.take 3 (.take 4 (.take 5 (.take 6 (.take 7 (.take 8 (.take 9 (.done)))))))))))) (.c (.s (.o) (.o)) (.o)))) (.o))))) (.s (.o) (.o)))
theorem eq_label_done (b0p : Option Addr) (b0l : Nat) (b0c : Nat) (n1 : Int) (w : World) (J : Bool → World → Prop) : vcFun Try.prog Try.f37 ann_label_done [.one .bool] [.slice b0p b0l b0c, .int .i64 n1] w J = VC_label_done b0p b0l b0c n1 w J := by kernel_rfl
theorem c_label_done {b0p : Option Addr} {b0l : Nat} {b0c : Nat} {n1 : Int} {w : World} {J : Bool → World → Prop} (h : VC_label_done b0p b0l b0c n1 w J) : callJ Try.prog fn_label_done #[.slice b0p b0l b0c, .int .i64 n1] w [.one .bool] J := vc_calls Try.func37 ann_label_done (Eq.mpr (eq_label_done b0p b0l b0c n1 w J) h)

/-- (lectern/label.reader).number -/
def VC_label_reader_number_n0 (r0 : Addr) (w : World) (J : Int → World → Prop) : Prop :=
  callJ Try.prog fn_label_reader_bit #[.pointer (some r0)] w [.one .bool] fun (r7 : Bool) (w1 : World) =>
  ∃ I_4 : Int → World → Nat → Prop, (∃ m : Nat, I_4 (1 : Int) w1 m) ∧ ∀ (k4 : Int) (w2 : World) (m : Nat), I_4 k4 w2 m → (
  callJ Try.prog fn_label_reader_bit #[.pointer (some r0)] w2 [.one .bool] fun (r9 : Bool) (w3 : World) =>
  condB (r9 == r7) (
  condB (decide ((w64 (k4 + (1 : Int))) > (40 : Int))) (
  J (1073741825 : Int) w3) (
  ∃ m' : Nat, m' < m ∧ I_4 (w64 (k4 + (1 : Int))) w3 m')) (
  ∃ I_5 : Int → Int → World → Nat → Prop, (∃ m : Nat, I_5 (1 : Int) (0 : Int) w3 m) ∧ ∀ (n5 : Int) (x18 : Int) (w4 : World) (m_1 : Nat), I_5 n5 x18 w4 m_1 → (
  condB (decide (x18 < (w64 (k4 - (1 : Int))))) (
  withJ (fun (n5_1 : Int) (w5 : World) =>
  ∃ m' : Nat, m' < m_1 ∧ I_5 n5_1 (w64 (x18 + (1 : Int))) w5 m') fun J_5 =>
  callJ Try.prog fn_label_reader_bit #[.pointer (some r0)] w4 [.one .bool] fun (r23 : Bool) (w6 : World) =>
  condB (r23 == r7) (
  J_5 (w64 ((w64 (n5 * (2 : Int))) + (1 : Int))) w6) (
  J_5 (w64 (n5 * (2 : Int))) w6)) (
  condB r7 (
  J (w64 (n5 - (1 : Int))) w4) (
  J (w64 (0 - n5)) w4)))))
def ann_label_reader_number_n0 : Ann := .s (.o) (.s (.o) (.s (.o) (.s (.b (.l [(4, .int .i64)] (.s (.s (.o) (.c (.o) (.o))) (.b (.s (.o) (.s (.o) (.c (.s (.o) (.o)) (.o)))))))) (.s (.o) (.s (.s (.o) (.b (.l [(5, .int .i64), (18, .int .i64)] (.s (.o) (.s (.c (.o) (.o)) (.j [(5, .int .i64)] (.b (.s (.o) (.s (.o) (.c (.o) (.o))))) (.o))))))) (.s (.s (.o) (.c (.s (.o) (.o)) (.o))) (.s (.o) (.o))))))))
theorem eq_label_reader_number_n0 (r0 : Addr) (w : World) (J : Int → World → Prop) : vcFun Try.prog Try.f38 ann_label_reader_number_n0 [.one (.int .i64)] [.pointer (some r0)] w J = VC_label_reader_number_n0 r0 w J := by kernel_rfl
theorem c_label_reader_number_n0 {r0 : Addr} {w : World} {J : Int → World → Prop} (h : VC_label_reader_number_n0 r0 w J) : callJ Try.prog fn_label_reader_number #[.pointer (some r0)] w [.one (.int .i64)] J := vc_calls Try.func38 ann_label_reader_number_n0 (Eq.mpr (eq_label_reader_number_n0 r0 w J) h)

/-- (lectern/label.reader).bit -/
def VC_label_reader_bit_n0 (r0 : Addr) (w : World) (J : Bool → World → Prop) : Prop :=
  withJ (fun (on3 : Bool) (w1 : World) =>
  ldI .i64 w1 ((r0.add 1)) fun x39 =>
  stV w1 ((r0.add 1)) (.int .i64 (w64 (x39 + (1 : Int)))) fun w2 =>
  J on3 w2) fun J_3 =>
  ldI .i64 w.drew ((r0.add 1)) fun x7 =>
  ldS w.drew r0 fun x11p x11l x11c =>
  condB (decide (x7 < (w64 ((8 : Int) * ((x11l : Nat) : Int))))) (
  ldS w.drew r0 fun x19p x19l x19c =>
  ldI .i64 w.drew ((r0.add 1)) fun x23 =>
  (8 : Int) ≠ 0 ∧
  idxA x19p x19l (w64 (Int.tdiv x23 (8 : Int))) fun a25 =>
  ldI .u8 w.drew ((a25.add ((w64 (Int.tdiv x23 (8 : Int))).toNat * 1))) fun x26 =>
  ldI .i64 w.drew ((r0.add 1)) fun x30 =>
  (8 : Int) ≠ 0 ∧
  0 ≤ (Int.tmod x30 (8 : Int)) ∧
  J_3 ((bAnd .u8 x26 (shrI .u8 (128 : Int) (Int.tmod x30 (8 : Int)))) != (0 : Int)) w.drew) (
  J_3 false w.drew)
def ann_label_reader_bit_n0 : Ann := .s (.o) (.j [(3, .bool)] (.d (.take 0 (.take 1 (.take 2 (.take 3 (.take 4 (.take 5 (.take 6 (.take 7 (.take 8 (.take 9 (.take 10 (.take 11 (.take 12 (.take 13 (.take 14 (.take 15 (.take 16 (.take 17 (.take 18 (.take 19 (.take 20 (.take 21 (.take 22 (.take 23 (.take 24 (.take 25 (.take 26 (.take 27 (.take 28 (.take 29 (.take 30 (.take 31 (.take 32 (.done))))))))))))))))))))))))))))))))))) (.s (.o) (.s (.o) (.o))))
theorem eq_label_reader_bit_n0 (r0 : Addr) (w : World) (J : Bool → World → Prop) : vcFun Try.prog Try.f55 ann_label_reader_bit_n0 [.one .bool] [.pointer (some r0)] w J = VC_label_reader_bit_n0 r0 w J := by kernel_rfl
theorem c_label_reader_bit_n0 {r0 : Addr} {w : World} {J : Bool → World → Prop} (h : VC_label_reader_bit_n0 r0 w J) : callJ Try.prog fn_label_reader_bit #[.pointer (some r0)] w [.one .bool] J := vc_calls Try.func55 ann_label_reader_bit_n0 (Eq.mpr (eq_label_reader_bit_n0 r0 w J) h)

/-- bytes.Equal -/
def VC_bytes_Equal (a0p : Option Addr) (a0l : Nat) (a0c : Nat) (b1p : Option Addr) (b1l : Nat) (b1c : Nat) (w : World) (J : Bool → World → Prop) : Prop :=
  bytesOf w a0p a0l fun bs6 =>
  bytesOf w b1p b1l fun bs8 =>
  J ((⟨bs6.toArray⟩ : ByteArray).toList == (⟨bs8.toArray⟩ : ByteArray).toList) w
def ann_bytes_Equal : Ann := .s (.o) (.s (.o) (.o))
theorem eq_bytes_Equal (a0p : Option Addr) (a0l : Nat) (a0c : Nat) (b1p : Option Addr) (b1l : Nat) (b1c : Nat) (w : World) (J : Bool → World → Prop) : vcFun Try.prog Try.f39 ann_bytes_Equal [.one .bool] [.slice a0p a0l a0c, .slice b1p b1l b1c] w J = VC_bytes_Equal a0p a0l a0c b1p b1l b1c w J := by kernel_rfl
theorem c_bytes_Equal {a0p : Option Addr} {a0l : Nat} {a0c : Nat} {b1p : Option Addr} {b1l : Nat} {b1c : Nat} {w : World} {J : Bool → World → Prop} (h : VC_bytes_Equal a0p a0l a0c b1p b1l b1c w J) : callJ Try.prog fn_bytes_Equal #[.slice a0p a0l a0c, .slice b1p b1l b1c] w [.one .bool] J := vc_calls Try.func39 ann_bytes_Equal (Eq.mpr (eq_bytes_Equal a0p a0l a0c b1p b1l b1c w J) h)

/-- lectern/label.Compare -/
def VC_label_Compare (a0p : Option Addr) (a0l : Nat) (a0c : Nat) (b1p : Option Addr) (b1l : Nat) (b1c : Nat) (w : World) (J : Int → World → Prop) : Prop :=
  callJ Try.prog fn_slices_Compare_sl_int_int #[.slice a0p a0l a0c, .slice b1p b1l b1c] w [.one (.int .i64)] fun (r7 : Int) (w1 : World) =>
  J r7 w1
def ann_label_Compare : Ann := .s (.o) (.s (.o) (.o))
theorem eq_label_Compare (a0p : Option Addr) (a0l : Nat) (a0c : Nat) (b1p : Option Addr) (b1l : Nat) (b1c : Nat) (w : World) (J : Int → World → Prop) : vcFun Try.prog Try.f23 ann_label_Compare [.one (.int .i64)] [.slice a0p a0l a0c, .slice b1p b1l b1c] w J = VC_label_Compare a0p a0l a0c b1p b1l b1c w J := by kernel_rfl
theorem c_label_Compare {a0p : Option Addr} {a0l : Nat} {a0c : Nat} {b1p : Option Addr} {b1l : Nat} {b1c : Nat} {w : World} {J : Int → World → Prop} (h : VC_label_Compare a0p a0l a0c b1p b1l b1c w J) : callJ Try.prog fn_label_Compare #[.slice a0p a0l a0c, .slice b1p b1l b1c] w [.one (.int .i64)] J := vc_calls Try.func23 ann_label_Compare (Eq.mpr (eq_label_Compare a0p a0l a0c b1p b1l b1c w J) h)

/-- slices.Compare[[]int,int] -/
def VC_slices_Compare_sl_int_int (s10p : Option Addr) (s10l : Nat) (s10c : Nat) (s21p : Option Addr) (s21l : Nat) (s21c : Nat) (w : World) (J : Int → World → Prop) : Prop :=
  ∃ I_11 : Int → World → Nat → Prop, (∃ m : Nat, I_11 (0 : Int) w m) ∧ ∀ (x11 : Int) (w1 : World) (m : Nat), I_11 x11 w1 m → (
  condB (decide (x11 < ((s10l : Nat) : Int))) (
  idxA s10p s10l x11 fun a14 =>
  ldI .i64 w1 ((a14.add (x11.toNat * 1))) fun x15 =>
  condB (decide (x11 ≥ ((s21l : Nat) : Int))) (
  J (1 : Int) w1) (
  idxA s21p s21l x11 fun a22 =>
  ldI .i64 w1 ((a22.add (x11.toNat * 1))) fun x23 =>
  callJ Try.prog fn_cmp_Compare_int #[.int .i64 x15, .int .i64 x23] w1 [.one (.int .i64)] fun (r26 : Int) (w2 : World) =>
  condB (r26 != (0 : Int)) (
  J r26 w2) (
  ∃ m' : Nat, m' < m ∧ I_11 (w64 (x11 + (1 : Int))) w2 m'))) (
  condB (decide (((s10l : Nat) : Int) < ((s21l : Nat) : Int))) (
  J (-1 : Int) w1) (
  J (0 : Int) w1)))
def ann_slices_Compare_sl_int_int : Ann := .s (.o) (.s (.s (.o) (.b (.l [(11, .int .i64)] (.s (.o) (.s (.c (.o) (.o)) (.s (.b (.s (.o) (.s (.s (.o) (.c (.s (.o) (.o)) (.o))) (.s (.o) (.s (.o) (.s (.o) (.c (.s (.o) (.o)) (.o)))))))) (.o))))))) (.s (.s (.o) (.c (.s (.o) (.o)) (.o))) (.s (.o) (.o))))
theorem eq_slices_Compare_sl_int_int (s10p : Option Addr) (s10l : Nat) (s10c : Nat) (s21p : Option Addr) (s21l : Nat) (s21c : Nat) (w : World) (J : Int → World → Prop) : vcFun Try.prog Try.f49 ann_slices_Compare_sl_int_int [.one (.int .i64)] [.slice s10p s10l s10c, .slice s21p s21l s21c] w J = VC_slices_Compare_sl_int_int s10p s10l s10c s21p s21l s21c w J := by kernel_rfl
theorem c_slices_Compare_sl_int_int {s10p : Option Addr} {s10l : Nat} {s10c : Nat} {s21p : Option Addr} {s21l : Nat} {s21c : Nat} {w : World} {J : Int → World → Prop} (h : VC_slices_Compare_sl_int_int s10p s10l s10c s21p s21l s21c w J) : callJ Try.prog fn_slices_Compare_sl_int_int #[.slice s10p s10l s10c, .slice s21p s21l s21c] w [.one (.int .i64)] J := vc_calls Try.func49 ann_slices_Compare_sl_int_int (Eq.mpr (eq_slices_Compare_sl_int_int s10p s10l s10c s21p s21l s21c w J) h)

/-- cmp.Compare[int] -/
def VC_cmp_Compare_int (x0 : Int) (y1 : Int) (w : World) (J : Int → World → Prop) : Prop :=
  callJ Try.prog fn_cmp_isNaN_int #[.int .i64 x0] w [.one .bool] fun (r8 : Bool) (w1 : World) =>
  callJ Try.prog fn_cmp_isNaN_int #[.int .i64 y1] w1 [.one .bool] fun (r10 : Bool) (w2 : World) =>
  condB r8 (
  condB r10 (
  J (0 : Int) w2) (
  J (-1 : Int) w2)) (
  condB r10 (
  J (1 : Int) w2) (
  condB (decide (x0 < y1)) (
  J (-1 : Int) w2) (
  condB (decide (x0 > y1)) (
  J (1 : Int) w2) (
  J (0 : Int) w2))))
def ann_cmp_Compare_int : Ann := .s (.o) (.s (.o) (.s (.o) (.s (.s (.o) (.c (.s (.s (.o) (.c (.s (.o) (.o)) (.o))) (.s (.o) (.o))) (.o))) (.s (.s (.o) (.c (.s (.o) (.o)) (.o))) (.s (.s (.o) (.c (.s (.o) (.o)) (.o))) (.s (.s (.o) (.c (.s (.o) (.o)) (.o))) (.s (.o) (.o))))))))
theorem eq_cmp_Compare_int (x0 : Int) (y1 : Int) (w : World) (J : Int → World → Prop) : vcFun Try.prog Try.f56 ann_cmp_Compare_int [.one (.int .i64)] [.int .i64 x0, .int .i64 y1] w J = VC_cmp_Compare_int x0 y1 w J := by kernel_rfl
theorem c_cmp_Compare_int {x0 : Int} {y1 : Int} {w : World} {J : Int → World → Prop} (h : VC_cmp_Compare_int x0 y1 w J) : callJ Try.prog fn_cmp_Compare_int #[.int .i64 x0, .int .i64 y1] w [.one (.int .i64)] J := vc_calls Try.func56 ann_cmp_Compare_int (Eq.mpr (eq_cmp_Compare_int x0 y1 w J) h)

/-- cmp.isNaN[int] -/
def VC_cmp_isNaN_int (x0 : Int) (w : World) (J : Bool → World → Prop) : Prop :=
  J (x0 != x0) w
def ann_cmp_isNaN_int : Ann := .s (.o) (.s (.o) (.o))
theorem eq_cmp_isNaN_int (x0 : Int) (w : World) (J : Bool → World → Prop) : vcFun Try.prog Try.f59 ann_cmp_isNaN_int [.one .bool] [.int .i64 x0] w J = VC_cmp_isNaN_int x0 w J := by kernel_rfl
theorem c_cmp_isNaN_int {x0 : Int} {w : World} {J : Bool → World → Prop} (h : VC_cmp_isNaN_int x0 w J) : callJ Try.prog fn_cmp_isNaN_int #[.int .i64 x0] w [.one .bool] J := vc_calls Try.func59 ann_cmp_isNaN_int (Eq.mpr (eq_cmp_isNaN_int x0 w J) h)

/-- slices.Equal[[]int,int] -/
def VC_slices_Equal_sl_int_int (s10p : Option Addr) (s10l : Nat) (s10c : Nat) (s21p : Option Addr) (s21l : Nat) (s21c : Nat) (w : World) (J : Bool → World → Prop) : Prop :=
  condB (((s10l : Nat) : Int) != ((s21l : Nat) : Int)) (
  J false w) (
  ∃ I_13 : Int → World → Nat → Prop, (∃ m : Nat, I_13 (0 : Int) w m) ∧ ∀ (x13 : Int) (w1 : World) (m : Nat), I_13 x13 w1 m → (
  condB (decide (x13 < ((s10l : Nat) : Int))) (
  idxA s10p s10l x13 fun a18 =>
  ldI .i64 w1.drew ((a18.add (x13.toNat * 1))) fun x19 =>
  idxA s21p s21l x13 fun a22 =>
  ldI .i64 w1.drew ((a22.add (x13.toNat * 1))) fun x23 =>
  condB (x19 != x23) (
  J false w1.drew) (
  ∃ m' : Nat, m' < m ∧ I_13 (w64 (x13 + (1 : Int))) w1.drew m')) (
  J true w1)))
def ann_slices_Equal_sl_int_int : Ann := .s (.o) (.s (.s (.o) (.c (.s (.o) (.o)) (.o))) (.s (.s (.o) (.b (.l [(13, .int .i64)] (.s (.o) (.s (.c (.o) (.o)) (.s (.b (.s (.o) (.s (.d (.take 0 (.take 1 (.take 2 (.take 3 (.take 4 (.take 5 (.take 6 (.take 7 (.take 8 (.done))))))))))) (.c (.s (.o) (.o)) (.o))))) (.o))))))) (.s (.o) (.o))))
theorem eq_slices_Equal_sl_int_int (s10p : Option Addr) (s10l : Nat) (s10c : Nat) (s21p : Option Addr) (s21l : Nat) (s21c : Nat) (w : World) (J : Bool → World → Prop) : vcFun Try.prog Try.f50 ann_slices_Equal_sl_int_int [.one .bool] [.slice s10p s10l s10c, .slice s21p s21l s21c] w J = VC_slices_Equal_sl_int_int s10p s10l s10c s21p s21l s21c w J := by kernel_rfl
theorem c_slices_Equal_sl_int_int {s10p : Option Addr} {s10l : Nat} {s10c : Nat} {s21p : Option Addr} {s21l : Nat} {s21c : Nat} {w : World} {J : Bool → World → Prop} (h : VC_slices_Equal_sl_int_int s10p s10l s10c s21p s21l s21c w J) : callJ Try.prog fn_slices_Equal_sl_int_int #[.slice s10p s10l s10c, .slice s21p s21l s21c] w [.one .bool] J := vc_calls Try.func50 ann_slices_Equal_sl_int_int (Eq.mpr (eq_slices_Equal_sl_int_int s10p s10l s10c s21p s21l s21c w J) h)

/-- slices.Clone[[]int,int] -/
def VC_slices_Clone_sl_int_int (s0p : Option Addr) (s0l : Nat) (s0c : Nat) (w : World) (J : Option Addr → Nat → Nat → World → Prop) : Prop :=
  condB s0p.isNone (
  J none 0 0 w) (
  newB w (.cells ⟨[]⟩ T_int) fun b5 w1 =>
  appJ Try.prog T_sl_int T_sl_int (.slice (some ⟨b5, 0, none⟩) 0 0) (.slice s0p s0l s0c) w1 fun q7p q7l q7c w2 =>
  J q7p q7l q7c w2)
def ann_slices_Clone_sl_int_int : Ann := .s (.o) (.s (.s (.o) (.c (.s (.o) (.o)) (.o))) (.s (.o) (.o)))
theorem eq_slices_Clone_sl_int_int (s0p : Option Addr) (s0l : Nat) (s0c : Nat) (w : World) (J : Option Addr → Nat → Nat → World → Prop) : vcFun Try.prog Try.f42 ann_slices_Clone_sl_int_int [.one .slice] [.slice s0p s0l s0c] w J = VC_slices_Clone_sl_int_int s0p s0l s0c w J := by kernel_rfl
theorem c_slices_Clone_sl_int_int {s0p : Option Addr} {s0l : Nat} {s0c : Nat} {w : World} {J : Option Addr → Nat → Nat → World → Prop} (h : VC_slices_Clone_sl_int_int s0p s0l s0c w J) : callJ Try.prog fn_slices_Clone_sl_int_int #[.slice s0p s0l s0c] w [.one .slice] J := vc_calls Try.func42 ann_slices_Clone_sl_int_int (Eq.mpr (eq_slices_Clone_sl_int_int s0p s0l s0c w J) h)

/-- lectern/label.Above -/
def VC_label_Above (a0p : Option Addr) (a0l : Nat) (a0c : Nat) (b1p : Option Addr) (b1l : Nat) (b1c : Nat) (w : World) (J : Bool → World → Prop) : Prop :=
  withJ (fun (x4 : Bool) (w1 : World) =>
  J x4 w1) fun J_4 =>
  condB (decide (((b1l : Nat) : Int) > ((a0l : Nat) : Int))) (
  slS b1p b1l b1c 1 none (some ((a0l : Nat) : Int)) none fun q15p q15l q15c =>
  callJ Try.prog fn_slices_Equal_sl_int_int #[.slice a0p a0l a0c, .slice q15p q15l q15c] w [.one .bool] fun (r16 : Bool) (w2 : World) =>
  J_4 r16 w2) (
  J_4 false w)
def ann_label_Above : Ann := .s (.o) (.j [(4, .bool)] (.o) (.o))
theorem eq_label_Above (a0p : Option Addr) (a0l : Nat) (a0c : Nat) (b1p : Option Addr) (b1l : Nat) (b1c : Nat) (w : World) (J : Bool → World → Prop) : vcFun Try.prog Try.f24 ann_label_Above [.one .bool] [.slice a0p a0l a0c, .slice b1p b1l b1c] w J = VC_label_Above a0p a0l a0c b1p b1l b1c w J := by kernel_rfl
theorem c_label_Above {a0p : Option Addr} {a0l : Nat} {a0c : Nat} {b1p : Option Addr} {b1l : Nat} {b1c : Nat} {w : World} {J : Bool → World → Prop} (h : VC_label_Above a0p a0l a0c b1p b1l b1c w J) : callJ Try.prog fn_label_Above #[.slice a0p a0l a0c, .slice b1p b1l b1c] w [.one .bool] J := vc_calls Try.func24 ann_label_Above (Eq.mpr (eq_label_Above a0p a0l a0c b1p b1l b1c w J) h)

/-- lectern/label.Level -/
def VC_label_Level (l0p : Option Addr) (l0l : Nat) (l0c : Nat) (w : World) (J : Int → World → Prop) : Prop :=
  ∃ I_3 : Int → Int → World → Nat → Prop, (∃ m : Nat, I_3 (0 : Int) (0 : Int) w m) ∧ ∀ (n3 : Int) (x8 : Int) (w1 : World) (m : Nat), I_3 n3 x8 w1 m → (
  condB (decide (x8 < ((l0l : Nat) : Int))) (
  withJ (fun (n3_1 : Int) (w2 : World) =>
  ∃ m' : Nat, m' < m ∧ I_3 n3_1 (w64 (x8 + (1 : Int))) w2 m') fun J_3 =>
  idxA l0p l0l x8 fun a10 =>
  ldI .i64 w1 ((a10.add (x8.toNat * 1))) fun x11 =>
  callJ Try.prog fn_label_odd #[.int .i64 x11] w1 [.one .bool] fun (r13 : Bool) (w3 : World) =>
  condB r13 (
  J_3 (w64 (n3 + (1 : Int))) w3) (
  J_3 n3 w3)) (
  J n3 w1))
def ann_label_Level : Ann := .s (.o) (.s (.o) (.s (.s (.o) (.b (.l [(3, .int .i64), (8, .int .i64)] (.s (.o) (.s (.c (.o) (.o)) (.j [(3, .int .i64)] (.b (.s (.o) (.s (.o) (.c (.o) (.o))))) (.o))))))) (.s (.o) (.o))))
theorem eq_label_Level (l0p : Option Addr) (l0l : Nat) (l0c : Nat) (w : World) (J : Int → World → Prop) : vcFun Try.prog Try.f26 ann_label_Level [.one (.int .i64)] [.slice l0p l0l l0c] w J = VC_label_Level l0p l0l l0c w J := by kernel_rfl
theorem c_label_Level {l0p : Option Addr} {l0l : Nat} {l0c : Nat} {w : World} {J : Int → World → Prop} (h : VC_label_Level l0p l0l l0c w J) : callJ Try.prog fn_label_Level #[.slice l0p l0l l0c] w [.one (.int .i64)] J := vc_calls Try.func26 ann_label_Level (Eq.mpr (eq_label_Level l0p l0l l0c w J) h)

/-- lectern/label.Up -/
def VC_label_Up (l0p : Option Addr) (l0l : Nat) (l0c : Nat) (w : World) (J : Option Addr → Nat → Nat → World → Prop) : Prop :=
  ∃ I_3 : Int → World → Nat → Prop, (∃ m : Nat, I_3 (w64 (((l0l : Nat) : Int) - (1 : Int))) w m) ∧ ∀ (n3 : Int) (w1 : World) (m : Nat), I_3 n3 w1 m → (
  withJ (fun (x17 : Bool) (w2 : World) =>
  condB x17 (
  ∃ m' : Nat, m' < m ∧ I_3 (w64 (n3 - (1 : Int))) w2 m') (
  slS l0p l0l l0c 1 none (some (if (0 : Int) > n3 then (0 : Int) else n3)) none fun q23p q23l q23c =>
  callJ Try.prog fn_slices_Clone_sl_int_int #[.slice q23p q23l q23c] w2 [.one .slice] fun (r24p : Option Addr) (r24l : Nat) (r24c : Nat) (w3 : World) =>
  J r24p r24l r24c w3)) fun J_17 =>
  condB (decide (n3 > (0 : Int))) (
  idxA l0p l0l (w64 (n3 - (1 : Int))) fun a13 =>
  ldI .i64 w1 ((a13.add ((w64 (n3 - (1 : Int))).toNat * 1))) fun x14 =>
  callJ Try.prog fn_label_odd #[.int .i64 x14] w1 [.one .bool] fun (r15 : Bool) (w4 : World) =>
  J_17 (!r15) w4) (
  J_17 false w1))
def ann_label_Up : Ann := .s (.o) (.s (.o) (.s (.b (.l [(3, .int .i64)] (.s (.j [(17, .bool)] (.o) (.c (.o) (.o))) (.b (.o))))) (.s (.o) (.o))))
theorem eq_label_Up (l0p : Option Addr) (l0l : Nat) (l0c : Nat) (w : World) (J : Option Addr → Nat → Nat → World → Prop) : vcFun Try.prog Try.f21 ann_label_Up [.one .slice] [.slice l0p l0l l0c] w J = VC_label_Up l0p l0l l0c w J := by kernel_rfl
theorem c_label_Up {l0p : Option Addr} {l0l : Nat} {l0c : Nat} {w : World} {J : Option Addr → Nat → Nat → World → Prop} (h : VC_label_Up l0p l0l l0c w J) : callJ Try.prog fn_label_Up #[.slice l0p l0l l0c] w [.one .slice] J := vc_calls Try.func21 ann_label_Up (Eq.mpr (eq_label_Up l0p l0l l0c w J) h)

/-- lectern/label.Between -/
def VC_label_Between (up0p : Option Addr) (up0l : Nat) (up0c : Nat) (l1p : Option Addr) (l1l : Nat) (l1c : Nat) (r2p : Option Addr) (r2l : Nat) (r2c : Nat) (w : World) (J : Option Addr → Nat → Nat → Int → World → Prop) : Prop :=
  withJ (fun (x50 : Bool) (w1 : World) =>
  condB x50 (
  J none 0 0 (1 : Int) w1) (
  callJ Try.prog fn_slices_Clone_sl_int_int #[.slice up0p up0l up0c] w1 [.one .slice] fun (r52p : Option Addr) (r52l : Nat) (r52c : Nat) (w2 : World) =>
  withJ (fun (n8p : Option Addr) (n8l : Nat) (n8c : Nat) (w3 : World) =>
  callJ Try.prog fn_label_Check #[.slice n8p n8l n8c] w3 [.one (.int .i64)] fun (r115 : Int) (w4 : World) =>
  condB (r115 != (0 : Int)) (
  J none 0 0 (5 : Int) w4) (
  J n8p n8l n8c (0 : Int) w4)) fun J_8 =>
  withJ (fun (x78 : Bool) (w5 : World) =>
  condB x78 (
  newB w5 (.cells ⟨[.int .i64 (1 : Int)]⟩ T_int) fun b88 w6 =>
  appJ Try.prog T_sl_int T_sl_int (.slice r52p r52l r52c) (.slice (some ⟨b88, 0, none⟩) 1 1) w6 fun q89p q89l q89c w7 =>
  J_8 q89p q89l q89c w7) (
  condB (((r2l : Nat) : Int) == (0 : Int)) (
  idxA l1p l1l ((up0l : Nat) : Int) fun a97 =>
  ldI .i64 w5 ((a97.add (((up0l : Nat) : Int).toNat * 1))) fun x98 =>
  callJ Try.prog fn_label_behind #[.int .i64 x98] w5 [.one (.int .i64)] fun (r99 : Int) (w8 : World) =>
  newB w8 (.cells ⟨[.int .i64 r99]⟩ T_int) fun b100 w9 =>
  appJ Try.prog T_sl_int T_sl_int (.slice r52p r52l r52c) (.slice (some ⟨b100, 0, none⟩) 1 1) w9 fun q101p q101l q101c w10 =>
  J_8 q101p q101l q101c w10) (
  condB (((l1l : Nat) : Int) == (0 : Int)) (
  idxA r2p r2l ((up0l : Nat) : Int) fun a109 =>
  ldI .i64 w5 ((a109.add (((up0l : Nat) : Int).toNat * 1))) fun x110 =>
  callJ Try.prog fn_label_ahead #[.int .i64 x110] w5 [.one (.int .i64)] fun (r111 : Int) (w11 : World) =>
  newB w11 (.cells ⟨[.int .i64 r111]⟩ T_int) fun b112 w12 =>
  appJ Try.prog T_sl_int T_sl_int (.slice r52p r52l r52c) (.slice (some ⟨b112, 0, none⟩) 1 1) w12 fun q113p q113l q113c w13 =>
  J_8 q113p q113l q113c w13) (
  ∃ I_9 : Int → World → Nat → Prop, (∃ m : Nat, I_9 ((up0l : Nat) : Int) w5 m) ∧ ∀ (k9 : Int) (w14 : World) (m : Nat), I_9 k9 w14 m → (
  idxA l1p l1l k9 fun a57 =>
  ldI .i64 w14.drew ((a57.add (k9.toNat * 1))) fun x58 =>
  idxA r2p r2l k9 fun a61 =>
  ldI .i64 w14.drew ((a61.add (k9.toNat * 1))) fun x62 =>
  condB (x58 == x62) (
  ∃ m' : Nat, m' < m ∧ I_9 (w64 (k9 + (1 : Int))) w14.drew m') (
  slS l1p l1l l1c 1 none (some k9) none fun q68p q68l q68c =>
  slS l1p l1l l1c 1 (some k9) none none fun q72p q72l q72c =>
  slS r2p r2l r2c 1 (some k9) none none fun q75p q75l q75c =>
  callJ Try.prog fn_slices_Clone_sl_int_int #[.slice q68p q68l q68c] w14.drew.drew [.one .slice] fun (r69p : Option Addr) (r69l : Nat) (r69c : Nat) (w15 : World) =>
  callJ Try.prog fn_label_amid #[.slice q72p q72l q72c, .slice q75p q75l q75c] w15 [.one .slice] fun (r76p : Option Addr) (r76l : Nat) (r76c : Nat) (w16 : World) =>
  appJ Try.prog T_sl_int T_sl_int (.slice r69p r69l r69c) (.slice r76p r76l r76c) w16 fun q77p q77l q77c w17 =>
  J_8 q77p q77l q77c w17)))))) fun J_78 =>
  condB (((l1l : Nat) : Int) == (0 : Int)) (
  J_78 (((r2l : Nat) : Int) == (0 : Int)) w2) (
  J_78 false w2))) fun J_50 =>
  callJ Try.prog fn_label_Check #[.slice up0p up0l up0c] w [.one (.int .i64)] fun (r11 : Int) (w18 : World) =>
  condB (r11 != (0 : Int)) (
  J_50 true w18) (
  condB (decide (((l1l : Nat) : Int) > (0 : Int))) (
  callJ Try.prog fn_label_kid #[.slice up0p up0l up0c, .slice l1p l1l l1c] w18 [.one .bool] fun (r20 : Bool) (w19 : World) =>
  condB (!r20) (
  J_50 true w19) (
  condB (decide (((r2l : Nat) : Int) > (0 : Int))) (
  callJ Try.prog fn_label_kid #[.slice up0p up0l up0c, .slice r2p r2l r2c] w19 [.one .bool] fun (r31 : Bool) (w20 : World) =>
  condB (!r31) (
  J_50 true w20) (
  condB (decide (((l1l : Nat) : Int) > (0 : Int))) (
  condB (decide (((r2l : Nat) : Int) > (0 : Int))) (
  callJ Try.prog fn_label_Compare #[.slice l1p l1l l1c, .slice r2p r2l r2c] w20 [.one (.int .i64)] fun (r47 : Int) (w21 : World) =>
  J_50 (decide (r47 ≥ (0 : Int))) w21) (
  J_50 false w20)) (
  J_50 false w20))) (
  condB (decide (((l1l : Nat) : Int) > (0 : Int))) (
  condB (decide (((r2l : Nat) : Int) > (0 : Int))) (
  callJ Try.prog fn_label_Compare #[.slice l1p l1l l1c, .slice r2p r2l r2c] w19 [.one (.int .i64)] fun (r47_1 : Int) (w22 : World) =>
  J_50 (decide (r47_1 ≥ (0 : Int))) w22) (
  J_50 false w19)) (
  J_50 false w19)))) (
  condB (decide (((r2l : Nat) : Int) > (0 : Int))) (
  callJ Try.prog fn_label_kid #[.slice up0p up0l up0c, .slice r2p r2l r2c] w18 [.one .bool] fun (r31_1 : Bool) (w23 : World) =>
  condB (!r31_1) (
  J_50 true w23) (
  condB (decide (((l1l : Nat) : Int) > (0 : Int))) (
  condB (decide (((r2l : Nat) : Int) > (0 : Int))) (
  callJ Try.prog fn_label_Compare #[.slice l1p l1l l1c, .slice r2p r2l r2c] w23 [.one (.int .i64)] fun (r47_2 : Int) (w24 : World) =>
  J_50 (decide (r47_2 ≥ (0 : Int))) w24) (
  J_50 false w23)) (
  J_50 false w23))) (
  condB (decide (((l1l : Nat) : Int) > (0 : Int))) (
  condB (decide (((r2l : Nat) : Int) > (0 : Int))) (
  callJ Try.prog fn_label_Compare #[.slice l1p l1l l1c, .slice r2p r2l r2c] w18 [.one (.int .i64)] fun (r47_3 : Int) (w25 : World) =>
  J_50 (decide (r47_3 ≥ (0 : Int))) w25) (
  J_50 false w18)) (
  J_50 false w18))))
def ann_label_Between : Ann := .s (.o) (.s (.j [(50, .bool)] (.o) (.c (.s (.o) (.o)) (.o))) (.s (.o) (.j [(8, .slice)] (.s (.o) (.b (.j [(78, .bool)] (.o) (.c (.o) (.s (.o) (.c (.o) (.s (.o) (.c (.o) (.s (.b (.l [(9, .int .i64)] (.s (.s (.d (.take 0 (.take 1 (.take 2 (.take 3 (.take 4 (.take 5 (.take 6 (.take 7 (.take 8 (.done))))))))))) (.c (.o) (.o))) (.b (.o))))) (.d (.take 0 (.take 1 (.take 2 (.take 4 (.take 5 (.take 6 (.take 7 (.take 8 (.take 9 (.eff 3 (.eff 10 (.eff 11 (.take 12 (.done)) (.none)) (.none)) (.none))))))))))))))))))))) (.s (.s (.o) (.c (.s (.o) (.o)) (.o))) (.s (.o) (.o))))))
theorem eq_label_Between (up0p : Option Addr) (up0l : Nat) (up0c : Nat) (l1p : Option Addr) (l1l : Nat) (l1c : Nat) (r2p : Option Addr) (r2l : Nat) (r2c : Nat) (w : World) (J : Option Addr → Nat → Nat → Int → World → Prop) : vcFun Try.prog Try.f19 ann_label_Between [.one .slice, .one (.int .i64)] [.slice up0p up0l up0c, .slice l1p l1l l1c, .slice r2p r2l r2c] w J = VC_label_Between up0p up0l up0c l1p l1l l1c r2p r2l r2c w J := by kernel_rfl
theorem c_label_Between {up0p : Option Addr} {up0l : Nat} {up0c : Nat} {l1p : Option Addr} {l1l : Nat} {l1c : Nat} {r2p : Option Addr} {r2l : Nat} {r2c : Nat} {w : World} {J : Option Addr → Nat → Nat → Int → World → Prop} (h : VC_label_Between up0p up0l up0c l1p l1l l1c r2p r2l r2c w J) : callJ Try.prog fn_label_Between #[.slice up0p up0l up0c, .slice l1p l1l l1c, .slice r2p r2l r2c] w [.one .slice, .one (.int .i64)] J := vc_calls Try.func19 ann_label_Between (Eq.mpr (eq_label_Between up0p up0l up0c l1p l1l l1c r2p r2l r2c w J) h)

/-- lectern/label.kid -/
def VC_label_kid (up0p : Option Addr) (up0l : Nat) (up0c : Nat) (l1p : Option Addr) (l1l : Nat) (l1c : Nat) (w : World) (J : Bool → World → Prop) : Prop :=
  withJ (fun (x4 : Bool) (w1 : World) =>
  J x4 w1) fun J_4 =>
  condB (decide (((l1l : Nat) : Int) > (0 : Int))) (
  callJ Try.prog fn_label_Check #[.slice l1p l1l l1c] w [.one (.int .i64)] fun (r10 : Int) (w2 : World) =>
  condB (r10 == (0 : Int)) (
  callJ Try.prog fn_label_Up #[.slice l1p l1l l1c] w2 [.one .slice] fun (r15p : Option Addr) (r15l : Nat) (r15c : Nat) (w3 : World) =>
  callJ Try.prog fn_slices_Equal_sl_int_int #[.slice r15p r15l r15c, .slice up0p up0l up0c] w3 [.one .bool] fun (r17 : Bool) (w4 : World) =>
  J_4 r17 w4) (
  J_4 false w2)) (
  J_4 false w)
def ann_label_kid : Ann := .s (.o) (.j [(4, .bool)] (.o) (.o))
theorem eq_label_kid (up0p : Option Addr) (up0l : Nat) (up0c : Nat) (l1p : Option Addr) (l1l : Nat) (l1c : Nat) (w : World) (J : Bool → World → Prop) : vcFun Try.prog Try.f41 ann_label_kid [.one .bool] [.slice up0p up0l up0c, .slice l1p l1l l1c] w J = VC_label_kid up0p up0l up0c l1p l1l l1c w J := by kernel_rfl
theorem c_label_kid {up0p : Option Addr} {up0l : Nat} {up0c : Nat} {l1p : Option Addr} {l1l : Nat} {l1c : Nat} {w : World} {J : Bool → World → Prop} (h : VC_label_kid up0p up0l up0c l1p l1l l1c w J) : callJ Try.prog fn_label_kid #[.slice up0p up0l up0c, .slice l1p l1l l1c] w [.one .bool] J := vc_calls Try.func41 ann_label_kid (Eq.mpr (eq_label_kid up0p up0l up0c l1p l1l l1c w J) h)

/-- lectern/label.behind -/
def VC_label_behind (c0 : Int) (w : World) (J : Int → World → Prop) : Prop :=
  callJ Try.prog fn_label_odd #[.int .i64 c0] w [.one .bool] fun (r4 : Bool) (w1 : World) =>
  condB r4 (
  J (w64 (c0 + (2 : Int))) w1) (
  J (w64 (c0 + (1 : Int))) w1)
def ann_label_behind : Ann := .s (.o) (.s (.s (.o) (.c (.s (.o) (.o)) (.o))) (.s (.o) (.o)))
theorem eq_label_behind (c0 : Int) (w : World) (J : Int → World → Prop) : vcFun Try.prog Try.f43 ann_label_behind [.one (.int .i64)] [.int .i64 c0] w J = VC_label_behind c0 w J := by kernel_rfl
theorem c_label_behind {c0 : Int} {w : World} {J : Int → World → Prop} (h : VC_label_behind c0 w J) : callJ Try.prog fn_label_behind #[.int .i64 c0] w [.one (.int .i64)] J := vc_calls Try.func43 ann_label_behind (Eq.mpr (eq_label_behind c0 w J) h)

/-- lectern/label.ahead -/
def VC_label_ahead (c0 : Int) (w : World) (J : Int → World → Prop) : Prop :=
  callJ Try.prog fn_label_odd #[.int .i64 c0] w [.one .bool] fun (r4 : Bool) (w1 : World) =>
  condB r4 (
  J (w64 (c0 - (2 : Int))) w1) (
  J (w64 (c0 - (1 : Int))) w1)
def ann_label_ahead : Ann := .s (.o) (.s (.s (.o) (.c (.s (.o) (.o)) (.o))) (.s (.o) (.o)))
theorem eq_label_ahead (c0 : Int) (w : World) (J : Int → World → Prop) : vcFun Try.prog Try.f44 ann_label_ahead [.one (.int .i64)] [.int .i64 c0] w J = VC_label_ahead c0 w J := by kernel_rfl
theorem c_label_ahead {c0 : Int} {w : World} {J : Int → World → Prop} (h : VC_label_ahead c0 w J) : callJ Try.prog fn_label_ahead #[.int .i64 c0] w [.one (.int .i64)] J := vc_calls Try.func44 ann_label_ahead (Eq.mpr (eq_label_ahead c0 w J) h)

/-- lectern/label.amid -/
def VC_label_amid (l0p : Option Addr) (l0l : Nat) (l0c : Nat) (r1p : Option Addr) (r1l : Nat) (r1c : Nat) (w : World) (J : Option Addr → Nat → Nat → World → Prop) : Prop :=
  idxA l0p l0l (0 : Int) fun a8 =>
  ldI .i64 w.drew ((a8.add ((0 : Int).toNat * 1))) fun x9 =>
  idxA r1p r1l (0 : Int) fun a11 =>
  ldI .i64 w.drew ((a11.add ((0 : Int).toNat * 1))) fun x12 =>
  callJ Try.prog fn_label_behind #[.int .i64 x9] w.drew [.one (.int .i64)] fun (r15 : Int) (w1 : World) =>
  condB (decide (r15 < x12)) (
  callJ Try.prog fn_label_behind #[.int .i64 x9] w1 [.one (.int .i64)] fun (r19 : Int) (w2 : World) =>
  newB w2 (.cells ⟨[.int .i64 r19]⟩ T_int) fun b20 w3 =>
  J (some ⟨b20, 0, none⟩) 1 1 w3) (
  condB (x12 == (w64 (x9 + (2 : Int)))) (
  newB w1 (.cells ⟨[.int .i64 (w64 (x9 + (1 : Int))), .int .i64 (1 : Int)]⟩ T_int) fun b28 w4 =>
  J (some ⟨b28, 0, none⟩) 2 2 w4) (
  callJ Try.prog fn_label_odd #[.int .i64 x9] w1 [.one .bool] fun (r31 : Bool) (w5 : World) =>
  condB r31 (
  idxA r1p r1l (1 : Int) fun a34 =>
  ldI .i64 w5 ((a34.add ((1 : Int).toNat * 1))) fun x35 =>
  callJ Try.prog fn_label_ahead #[.int .i64 x35] w5 [.one (.int .i64)] fun (r36 : Int) (w6 : World) =>
  newB w6 (.cells ⟨[.int .i64 x12, .int .i64 r36]⟩ T_int) fun b37 w7 =>
  J (some ⟨b37, 0, none⟩) 2 2 w7) (
  idxA l0p l0l (1 : Int) fun a40 =>
  ldI .i64 w5 ((a40.add ((1 : Int).toNat * 1))) fun x41 =>
  callJ Try.prog fn_label_behind #[.int .i64 x41] w5 [.one (.int .i64)] fun (r42 : Int) (w8 : World) =>
  newB w8 (.cells ⟨[.int .i64 x9, .int .i64 r42]⟩ T_int) fun b43 w9 =>
  J (some ⟨b43, 0, none⟩) 2 2 w9)))
def ann_label_amid : Ann := .s (.o) (.s (.d (.take 0 (.take 1 (.take 2 (.take 3 (.take 4 (.take 5 (.take 6 (.take 7 (.done)))))))))) (.s (.b (.s (.o) (.c (.s (.o) (.o)) (.s (.o) (.c (.s (.o) (.o)) (.s (.o) (.c (.s (.o) (.o)) (.o)))))))) (.s (.o) (.o))))
theorem eq_label_amid (l0p : Option Addr) (l0l : Nat) (l0c : Nat) (r1p : Option Addr) (r1l : Nat) (r1c : Nat) (w : World) (J : Option Addr → Nat → Nat → World → Prop) : vcFun Try.prog Try.f45 ann_label_amid [.one .slice] [.slice l0p l0l l0c, .slice r1p r1l r1c] w J = VC_label_amid l0p l0l l0c r1p r1l r1c w J := by kernel_rfl
theorem c_label_amid {l0p : Option Addr} {l0l : Nat} {l0c : Nat} {r1p : Option Addr} {r1l : Nat} {r1c : Nat} {w : World} {J : Option Addr → Nat → Nat → World → Prop} (h : VC_label_amid l0p l0l l0c r1p r1l r1c w J) : callJ Try.prog fn_label_amid #[.slice l0p l0l l0c, .slice r1p r1l r1c] w [.one .slice] J := vc_calls Try.func45 ann_label_amid (Eq.mpr (eq_label_amid l0p l0l l0c r1p r1l r1c w J) h)

end Go.Proofs.Ytjjmnfpdkgnmoaa
