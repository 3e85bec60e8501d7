/- What the conditions of these functions are, reckoned by the reading; printed by program. -/
import Derived.Test.YtkgfbphdmnapdaaGreatDoorNm
import Derived.KernelRfl
set_option maxRecDepth 100000
set_option linter.unusedVariables false
namespace Go.Proofs.YtkgfbphdmnapdaaGreatDoor
open Go Go.Vc

/-- strings.EqualFold -/
def VC_strings_EqualFold (s0 : ByteArray) (t1 : ByteArray) (w : World) (J : Bool → World → Prop) : Prop :=
  ∃ I_5 : Int → World → Nat → Prop, (∃ m : Nat, I_5 (0 : Int) w m) ∧ ∀ (i5 : Int) (w1 : World) (m : Nat), I_5 i5 w1 m → (
  condB (decide (i5 < (if (t1.size : Int) < (s0.size : Int) then (t1.size : Int) else (s0.size : Int)))) (
  withJ (fun (w2 : World) =>
  ∃ m' : Nat, m' < m ∧ I_5 (w64 (i5 + (1 : Int))) w2 m') fun J_0 =>
  idxStr s0 i5 fun x26 =>
  idxStr t1 i5 fun x29 =>
  condB (decide ((bOr .u8 x26 x29) ≥ (128 : Int))) (
  slStr s0 (some i5) none fun s62 =>
  slStr t1 (some i5) none fun s65 =>
  newB w1 (.stringIter s62 0) fun b67 w3 =>
  ∃ I_1 : ByteArray → World → Nat → Prop, (∃ m : Nat, I_1 s65 w3 m) ∧ ∀ (t1 : ByteArray) (w4 : World) (m_1 : Nat), I_1 t1 w4 m_1 → (
  nextS w4 b67 (fun pos68 ch68 w5 =>
  condB ((t1.size : Int) == (0 : Int)) (
  J false w5) (
  callJ Tryz.prog fn_unicode_utf8_DecodeRuneInString #[.string t1] w5 [.one (.int .i32), .one (.int .i64)] fun (r76_0 : Int) (r76_1 : Int) (w7 : World) =>
  slStr t1 (some r76_1) none fun s81 =>
  condB (r76_0 == ch68) (
  ∃ m' : Nat, m' < m_1 ∧ I_1 s81 w7 m') (
  withJ (fun (sr10 : Int) (tr11 : Int) (w8 : World) =>
  condB (decide (tr11 < (128 : Int))) (
  withJ (fun (x104 : Bool) (w9 : World) =>
  condB x104 (
  ∃ m' : Nat, m' < m_1 ∧ I_1 s81 w9 m') (
  J false w9)) fun J_104 =>
  condB (decide ((65 : Int) ≤ sr10)) (
  condB (decide (sr10 ≤ (90 : Int))) (
  J_104 (tr11 == (IntKind.i32.wrap ((IntKind.i32.wrap (sr10 + (97 : Int))) - (65 : Int)))) w8) (
  J_104 false w8)) (
  J_104 false w8)) (
  callJ Tryz.prog fn_unicode_SimpleFold #[.int .i32 sr10] w8 [.one (.int .i32)] fun (r106 : Int) (w10 : World) =>
  ∃ I_13 : Int → World → Nat → Prop, (∃ m : Nat, I_13 r106 w10 m) ∧ ∀ (r13 : Int) (w11 : World) (m_2 : Nat), I_13 r13 w11 m_2 → (
  withJ (fun (x114 : Bool) (w12 : World) =>
  condB x114 (
  callJ Tryz.prog fn_unicode_SimpleFold #[.int .i32 r13] w12 [.one (.int .i32)] fun (r116 : Int) (w13 : World) =>
  ∃ m' : Nat, m' < m_2 ∧ I_13 r116 w13 m') (
  condB (r13 == tr11) (
  ∃ m' : Nat, m' < m_1 ∧ I_1 s81 w12 m') (
  J false w12))) fun J_114 =>
  condB (r13 != sr10) (
  J_114 (decide (r13 < tr11)) w11) (
  J_114 false w11)))) fun J_10 =>
  condB (decide (r76_0 < ch68)) (
  J_10 r76_0 ch68 w7) (
  J_10 ch68 r76_0 w7)))) (fun w6 =>
  J ((t1.size : Int) == (0 : Int)) w6))) (
  condB (x29 == x26) (
  J_0 w1) (
  withJ (fun (sr7 : Int) (tr8 : Int) (w14 : World) =>
  withJ (fun (x54 : Bool) (w15 : World) =>
  condB x54 (
  J_0 w15) (
  J false w15)) fun J_54 =>
  condB (decide ((65 : Int) ≤ sr7)) (
  condB (decide (sr7 ≤ (90 : Int))) (
  J_54 (tr8 == (IntKind.u8.wrap ((IntKind.u8.wrap (sr7 + (97 : Int))) - (65 : Int)))) w14) (
  J_54 false w14)) (
  J_54 false w14)) fun J_7 =>
  condB (decide (x29 < x26)) (
  J_7 x29 x26 w1) (
  J_7 x26 x29 w1)))) (
  J ((s0.size : Int) == (t1.size : Int)) w1))
def ann_strings_EqualFold : Ann := .s (.o) (.g 0 (.s (.o) (.s (.s (.o) (.b (.l [(5, .int .i64)] (.s (.s (.o) (.c (.o) (.o))) (.j [] (.b (.s (.o) (.s (.o) (.s (.s (.o) (.c (.o) (.o))) (.s (.s (.o) (.c (.o) (.o))) (.j [(7, .int .u8), (8, .int .u8)] (.s (.o) (.c (.o) (.o))) (.s (.j [(54, .bool)] (.o) (.c (.o) (.o))) (.s (.o) (.o))))))))) (.o)))))) (.s (.s (.o) (.o)) (.u)))) (.s (.o) (.s (.o) (.s (.o) (.s (.s (.o) (.b (.l [(1, .str)] (.s (.o) (.s (.c (.o) (.o)) (.b (.s (.o) (.s (.s (.o) (.c (.s (.o) (.o)) (.o))) (.s (.o) (.s (.o) (.s (.s (.o) (.c (.o) (.o))) (.j [(10, .int .i32) , (11, .int .i32)] (.s (.o) (.c (.o) (.o))) (.s (.s (.o) (.c (.s (.j [(104, .bool)] (.o) (.c (.o) (.o))) (.s (.o) (.o))) (.o))) (.s (.o) (.s (.b (.l [(13, .int .i32)] (.s (.j [(114, .bool)] (.o) (.c (.o) (.o))) (.b (.o))))) (.s (.s (.o) (.c (.o) (.o))) (.s (.o) (.o)))))))))))))))))) (.s (.o) (.o)))))))
theorem eq_strings_EqualFold (s0 : ByteArray) (t1 : ByteArray) (w : World) (J : Bool → World → Prop) : vcFun Tryz.prog Tryz.f59 ann_strings_EqualFold [.one .bool] [.string s0, .string t1] w J = VC_strings_EqualFold s0 t1 w J := by kernel_rfl
theorem c_strings_EqualFold {s0 : ByteArray} {t1 : ByteArray} {w : World} {J : Bool → World → Prop} (h : VC_strings_EqualFold s0 t1 w J) : callJ Tryz.prog fn_strings_EqualFold #[.string s0, .string t1] w [.one .bool] J := vc_calls Tryz.func59 ann_strings_EqualFold (Eq.mpr (eq_strings_EqualFold s0 t1 w J) h)

/-- strings.HasSuffix -/
def VC_strings_HasSuffix (s0 : ByteArray) (suffix1 : ByteArray) (w : World) (J : Bool → World → Prop) : Prop :=
  callJ Tryz.prog fn_internal_stringslite_HasSuffix #[.string s0, .string suffix1] w [.one .bool] fun (r7 : Bool) (w1 : World) =>
  J r7 w1
def ann_strings_HasSuffix : Ann := .s (.o) (.s (.o) (.o))
theorem eq_strings_HasSuffix (s0 : ByteArray) (suffix1 : ByteArray) (w : World) (J : Bool → World → Prop) : vcFun Tryz.prog Tryz.f64 ann_strings_HasSuffix [.one .bool] [.string s0, .string suffix1] w J = VC_strings_HasSuffix s0 suffix1 w J := by kernel_rfl
theorem c_strings_HasSuffix {s0 : ByteArray} {suffix1 : ByteArray} {w : World} {J : Bool → World → Prop} (h : VC_strings_HasSuffix s0 suffix1 w J) : callJ Tryz.prog fn_strings_HasSuffix #[.string s0, .string suffix1] w [.one .bool] J := vc_calls Tryz.func64 ann_strings_HasSuffix (Eq.mpr (eq_strings_HasSuffix s0 suffix1 w J) h)

/-- internal/stringslite.HasSuffix -/
def VC_internal_stringslite_HasSuffix (s0 : ByteArray) (suffix1 : ByteArray) (w : World) (J : Bool → World → Prop) : Prop :=
  withJ (fun (x4 : Bool) (w1 : World) =>
  J x4 w1) fun J_4 =>
  condB (decide ((s0.size : Int) ≥ (suffix1.size : Int))) (
  slStr s0 (some (w64 ((s0.size : Int) - (suffix1.size : Int)))) none fun s17 =>
  J_4 (s17.toList == suffix1.toList) w) (
  J_4 false w)
def ann_internal_stringslite_HasSuffix : Ann := .s (.o) (.j [(4, .bool)] (.o) (.o))
theorem eq_internal_stringslite_HasSuffix (s0 : ByteArray) (suffix1 : ByteArray) (w : World) (J : Bool → World → Prop) : vcFun Tryz.prog Tryz.f87 ann_internal_stringslite_HasSuffix [.one .bool] [.string s0, .string suffix1] w J = VC_internal_stringslite_HasSuffix s0 suffix1 w J := by kernel_rfl
theorem c_internal_stringslite_HasSuffix {s0 : ByteArray} {suffix1 : ByteArray} {w : World} {J : Bool → World → Prop} (h : VC_internal_stringslite_HasSuffix s0 suffix1 w J) : callJ Tryz.prog fn_internal_stringslite_HasSuffix #[.string s0, .string suffix1] w [.one .bool] J := vc_calls Tryz.func87 ann_internal_stringslite_HasSuffix (Eq.mpr (eq_internal_stringslite_HasSuffix s0 suffix1 w J) h)

/-- unicode.SimpleFold -/
def VC_unicode_SimpleFold (r0 : Int) (w : World) (J : Int → World → Prop) : Prop :=
  withJ (fun (x13 : Bool) (w1 : World) =>
  condB x13 (
  J r0 w1) (
  condB (decide ((w64 r0) < (128 : Int))) (
  idxA (some ⟨2, 0, none⟩) 128 r0 fun a19 =>
  ldI .u16 w1 ((a19.add (r0.toNat * 1))) fun x20 =>
  J (IntKind.i32.wrap x20) w1) (
  ldS w1 ⟨3, 0, none⟩ fun x22p x22l x22c =>
  ∃ I_3 : Int → Int → World → Nat → Prop, (∃ m : Nat, I_3 (0 : Int) ((x22l : Nat) : Int) w1 m) ∧ ∀ (lo3 : Int) (hi4 : Int) (w2 : World) (m : Nat), I_3 lo3 hi4 w2 m → (
  condB (decide (lo3 < hi4)) (
  0 ≤ (1 : Int) ∧
  ldS w2 ⟨3, 0, none⟩ fun x33p x33l x33c =>
  idxA x33p x33l (w64 (shrI .u64 (IntKind.u64.wrap (w64 (lo3 + hi4))) (1 : Int))) fun a35 =>
  ldI .u16 w2 ((a35.add ((w64 (shrI .u64 (IntKind.u64.wrap (w64 (lo3 + hi4))) (1 : Int))).toNat * 2))) fun x37 =>
  condB (decide ((IntKind.i32.wrap x37) < r0)) (
  ∃ m' : Nat, m' < m ∧ I_3 (w64 ((w64 (shrI .u64 (IntKind.u64.wrap (w64 (lo3 + hi4))) (1 : Int))) + (1 : Int))) hi4 w2 m') (
  ∃ m' : Nat, m' < m ∧ I_3 lo3 (w64 (shrI .u64 (IntKind.u64.wrap (w64 (lo3 + hi4))) (1 : Int))) w2 m')) (
  withJ (fun (x57 : Bool) (w3 : World) =>
  condB x57 (
  ldS w3 ⟨3, 0, none⟩ fun x58p x58l x58c =>
  idxA x58p x58l lo3 fun a60 =>
  ldI .u16 w3 (((a60.add (lo3.toNat * 2)).add 1)) fun x62 =>
  J (IntKind.i32.wrap x62) w3) (
  ldS w3 ⟨4, 0, none⟩ fun x65p x65l x65c =>
  callJ Tryz.prog fn_unicode_lookupCaseRange #[.int .i32 r0, .slice x65p x65l x65c] w3 [.one .ptr] fun (r66 : Option Addr) (w4 : World) =>
  condB (!r66.isNone) (
  callJ Tryz.prog fn_unicode_convertCase #[.int .i64 (1 : Int), .int .i32 r0, .pointer r66] w4 [.one (.int .i32)] fun (r71 : Int) (w5 : World) =>
  condB (r71 != r0) (
  J r71 w5) (
  callJ Tryz.prog fn_unicode_convertCase #[.int .i64 (0 : Int), .int .i32 r0, .pointer r66] w5 [.one (.int .i32)] fun (r78 : Int) (w6 : World) =>
  J r78 w6)) (
  J r0 w4))) fun J_57 =>
  ldS w2 ⟨3, 0, none⟩ fun x45p x45l x45c =>
  condB (decide (lo3 < ((x45l : Nat) : Int))) (
  ldS w2 ⟨3, 0, none⟩ fun x49p x49l x49c =>
  idxA x49p x49l lo3 fun a51 =>
  ldI .u16 w2 ((a51.add (lo3.toNat * 2))) fun x53 =>
  J_57 ((IntKind.i32.wrap x53) == r0) w2) (
  J_57 false w2)))))) fun J_13 =>
  condB (decide (r0 < (0 : Int))) (
  J_13 true w) (
  J_13 (decide (r0 > (1114111 : Int))) w)
def ann_unicode_SimpleFold : Ann := .s (.o) (.s (.j [(13, .bool)] (.o) (.c (.s (.o) (.o)) (.o))) (.s (.s (.o) (.c (.s (.o) (.o)) (.o))) (.s (.o) (.s (.o) (.s (.b (.l [(3, .int .i64), (4, .int .i64)] (.s (.s (.o) (.c (.o) (.o))) (.b (.s (.o) (.s (.o) (.c (.o) (.o)))))))) (.s (.j [(57, .bool)] (.o) (.c (.s (.o) (.o)) (.o))) (.s (.s (.o) (.s (.o) (.c (.s (.s (.o) (.s (.o) (.c (.s (.o) (.o)) (.o)))) (.s (.o) (.o))) (.o)))) (.s (.o) (.o)))))))))
theorem eq_unicode_SimpleFold (r0 : Int) (w : World) (J : Int → World → Prop) : vcFun Tryz.prog Tryz.f82 ann_unicode_SimpleFold [.one (.int .i32)] [.int .i32 r0] w J = VC_unicode_SimpleFold r0 w J := by kernel_rfl
theorem c_unicode_SimpleFold {r0 : Int} {w : World} {J : Int → World → Prop} (h : VC_unicode_SimpleFold r0 w J) : callJ Tryz.prog fn_unicode_SimpleFold #[.int .i32 r0] w [.one (.int .i32)] J := vc_calls Tryz.func82 ann_unicode_SimpleFold (Eq.mpr (eq_unicode_SimpleFold r0 w J) h)

/-- unicode/utf8.DecodeRuneInString -/
def VC_unicode_utf8_DecodeRuneInString (s0 : ByteArray) (w : World) (J : Int → Int → World → Prop) : Prop :=
  withJ (fun (x10 : Bool) (w1 : World) =>
  condB x10 (
  idxStr s0 (0 : Int) fun x12 =>
  J (IntKind.i32.wrap x12) (1 : Int) w1) (
  callJ Tryz.prog fn_unicode_utf8_decodeRuneInStringSlow #[.string s0] w1 [.one (.int .i32), .one (.int .i64)] fun (r16_0 : Int) (r16_1 : Int) (w2 : World) =>
  J r16_0 r16_1 w2)) fun J_10 =>
  condB (!(s0.toList == (⟨#[]⟩ : ByteArray).toList)) (
  idxStr s0 (0 : Int) fun x8 =>
  J_10 (decide (x8 < (128 : Int))) w) (
  J_10 false w)
def ann_unicode_utf8_DecodeRuneInString : Ann := .s (.o) (.s (.j [(10, .bool)] (.o) (.c (.s (.o) (.o)) (.o))) (.o))
theorem eq_unicode_utf8_DecodeRuneInString (s0 : ByteArray) (w : World) (J : Int → Int → World → Prop) : vcFun Tryz.prog Tryz.f81 ann_unicode_utf8_DecodeRuneInString [.one (.int .i32), .one (.int .i64)] [.string s0] w J = VC_unicode_utf8_DecodeRuneInString s0 w J := by kernel_rfl
theorem c_unicode_utf8_DecodeRuneInString {s0 : ByteArray} {w : World} {J : Int → Int → World → Prop} (h : VC_unicode_utf8_DecodeRuneInString s0 w J) : callJ Tryz.prog fn_unicode_utf8_DecodeRuneInString #[.string s0] w [.one (.int .i32), .one (.int .i64)] J := vc_calls Tryz.func81 ann_unicode_utf8_DecodeRuneInString (Eq.mpr (eq_unicode_utf8_DecodeRuneInString s0 w J) h)

end Go.Proofs.YtkgfbphdmnapdaaGreatDoor
