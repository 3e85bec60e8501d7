/- What the conditions of these functions are, reckoned by the reading; printed by program. -/
import Derived.Test.YtdjehimkijlhgaaGreatDoorNm
import Derived.KernelRfl
set_option maxRecDepth 100000
set_option linter.unusedVariables false
namespace Go.Proofs.YtdjehimkijlhgaaGreatDoor
open Go Go.Vc

/-- unicode/utf8.DecodeRune -/
def VC_unicode_utf8_DecodeRune (p0p : Option Addr) (p0l : Nat) (p0c : Nat) (w : World) (J : Int → Int → World → Prop) : Prop :=
  withJ (fun (w1 : World) =>
  callJ Tryz.prog fn_unicode_utf8_decodeRuneSlow #[.slice p0p p0l p0c] w1 [.one (.int .i32), .one (.int .i64)] fun (r19_0 : Int) (r19_1 : Int) (w2 : World) =>
  J r19_0 r19_1 w2) fun J_0 =>
  ∃ I_8 : Int → World → Nat → Prop, (∃ m : Nat, I_8 (0 : Int) w m) ∧ ∀ (x8 : Int) (w3 : World) (m : Nat), I_8 x8 w3 m → (
  condB (decide (x8 < ((p0l : Nat) : Int))) (
  idxA p0p p0l x8 fun a10 =>
  ldI .u8 w3 ((a10.add (x8.toNat * 1))) fun x11 =>
  condB (decide (x11 < (128 : Int))) (
  J (IntKind.i32.wrap x11) (1 : Int) w3) (
  J_0 w3)) (
  J_0 w3))
def ann_unicode_utf8_DecodeRune : Ann := .s (.o) (.j [] (.s (.o) (.b (.l [(8, .int .i64)] (.s (.o) (.s (.c (.o) (.o)) (.s (.b (.s (.o) (.s (.s (.o) (.c (.s (.o) (.o)) (.o))) (.o)))) (.u))))))) (.s (.o) (.o)))
theorem eq_unicode_utf8_DecodeRune (p0p : Option Addr) (p0l : Nat) (p0c : Nat) (w : World) (J : Int → Int → World → Prop) : vcFun Tryz.prog Tryz.f31 ann_unicode_utf8_DecodeRune [.one (.int .i32), .one (.int .i64)] [.slice p0p p0l p0c] w J = VC_unicode_utf8_DecodeRune p0p p0l p0c w J := by kernel_rfl
theorem c_unicode_utf8_DecodeRune {p0p : Option Addr} {p0l : Nat} {p0c : Nat} {w : World} {J : Int → Int → World → Prop} (h : VC_unicode_utf8_DecodeRune p0p p0l p0c w J) : callJ Tryz.prog fn_unicode_utf8_DecodeRune #[.slice p0p p0l p0c] w [.one (.int .i32), .one (.int .i64)] J := vc_calls Tryz.func31 ann_unicode_utf8_DecodeRune (Eq.mpr (eq_unicode_utf8_DecodeRune p0p p0l p0c w J) h)

/-- unicode/utf8.decodeRuneSlow -/
def VC_unicode_utf8_decodeRuneSlow (p0p : Option Addr) (p0l : Nat) (p0c : Nat) (w : World) (J : Int → Int → World → Prop) : Prop :=
  condB (decide (((p0l : Nat) : Int) < (1 : Int))) (
  J (65533 : Int) (0 : Int) w) (
  idxA p0p p0l (0 : Int) fun a18 =>
  ldI .u8 w ((a18.add ((0 : Int).toNat * 1))) fun x19 =>
  idxA (some ⟨1, 0, none⟩) 256 x19 fun a21 =>
  ldI .u8 w ((a21.add (x19.toNat * 1))) fun x22 =>
  condB (decide (x22 ≥ (240 : Int))) (
  0 ≤ (31 : Int) ∧
  0 ≤ (31 : Int) ∧
  idxA p0p p0l (0 : Int) fun a30 =>
  ldI .u8 w ((a30.add ((0 : Int).toNat * 1))) fun x31 =>
  J (bOr .i32 (bAndNot .i32 (IntKind.i32.wrap x31) (shrI .i32 (shlI .i32 (IntKind.i32.wrap x22) (31 : Int)) (31 : Int))) (bAnd .i32 (65533 : Int) (shrI .i32 (shlI .i32 (IntKind.i32.wrap x22) (31 : Int)) (31 : Int)))) (1 : Int) w) (
  0 ≤ (4 : Int) ∧
  idxA (some ⟨2, 0, none⟩) 16 (shrI .u8 x22 (4 : Int)) fun a43 =>
  ldI .u8 w ((a43.add ((shrI .u8 x22 (4 : Int)).toNat * 2))) fun x44_0 =>
  ldI .u8 w (((a43.add ((shrI .u8 x22 (4 : Int)).toNat * 2)).add 1)) fun x44_1 =>
  newB w (.cells (zeroC Tryz.prog T_utf8_acceptRange) T_utf8_acceptRange) fun b9 w1 =>
  stN w1 ⟨b9, 0, none⟩ ⟨[.int .u8 x44_0, .int .u8 x44_1]⟩ 2 fun w2 =>
  condB (decide (((p0l : Nat) : Int) < (w64 (bAnd .u8 x22 (7 : Int))))) (
  J (65533 : Int) (1 : Int) w2) (
  idxA p0p p0l (1 : Int) fun a49 =>
  ldI .u8 w2 ((a49.add ((1 : Int).toNat * 1))) fun x50 =>
  withJ (fun (x60 : Bool) (w3 : World) =>
  condB x60 (
  J (65533 : Int) (1 : Int) w3) (
  condB (decide ((w64 (bAnd .u8 x22 (7 : Int))) ≤ (2 : Int))) (
  0 ≤ (6 : Int) ∧
  J (bOr .i32 (shlI .i32 (IntKind.i32.wrap (bAnd .u8 x19 (31 : Int))) (6 : Int)) (IntKind.i32.wrap (bAnd .u8 x50 (63 : Int)))) (2 : Int) w3) (
  idxA p0p p0l (2 : Int) fun a72 =>
  ldI .u8 w3 ((a72.add ((2 : Int).toNat * 1))) fun x73 =>
  withJ (fun (x79 : Bool) (w4 : World) =>
  condB x79 (
  J (65533 : Int) (1 : Int) w4) (
  condB (decide ((w64 (bAnd .u8 x22 (7 : Int))) ≤ (3 : Int))) (
  0 ≤ (12 : Int) ∧
  0 ≤ (6 : Int) ∧
  J (bOr .i32 (bOr .i32 (shlI .i32 (IntKind.i32.wrap (bAnd .u8 x19 (15 : Int))) (12 : Int)) (shlI .i32 (IntKind.i32.wrap (bAnd .u8 x50 (63 : Int))) (6 : Int))) (IntKind.i32.wrap (bAnd .u8 x73 (63 : Int)))) (3 : Int) w4) (
  idxA p0p p0l (3 : Int) fun a96 =>
  ldI .u8 w4 ((a96.add ((3 : Int).toNat * 1))) fun x97 =>
  withJ (fun (x103 : Bool) (w5 : World) =>
  condB x103 (
  J (65533 : Int) (1 : Int) w5) (
  0 ≤ (18 : Int) ∧
  0 ≤ (12 : Int) ∧
  0 ≤ (6 : Int) ∧
  J (bOr .i32 (bOr .i32 (bOr .i32 (shlI .i32 (IntKind.i32.wrap (bAnd .u8 x19 (7 : Int))) (18 : Int)) (shlI .i32 (IntKind.i32.wrap (bAnd .u8 x50 (63 : Int))) (12 : Int))) (shlI .i32 (IntKind.i32.wrap (bAnd .u8 x73 (63 : Int))) (6 : Int))) (IntKind.i32.wrap (bAnd .u8 x97 (63 : Int)))) (4 : Int) w5)) fun J_103 =>
  condB (decide (x97 < (128 : Int))) (
  J_103 true w4) (
  J_103 (decide ((191 : Int) < x97)) w4)))) fun J_79 =>
  condB (decide (x73 < (128 : Int))) (
  J_79 true w3) (
  J_79 (decide ((191 : Int) < x73)) w3)))) fun J_60 =>
  ldI .u8 w2 ⟨b9, 0, none⟩ fun x53 =>
  condB (decide (x50 < x53)) (
  J_60 true w2) (
  ldI .u8 w2 ⟨b9, 1, none⟩ fun x57 =>
  J_60 (decide (x57 < x50)) w2))))
def ann_unicode_utf8_decodeRuneSlow : Ann := .s (.o) (.s (.o) (.s (.s (.o) (.c (.s (.o) (.o)) (.o))) (.s (.o) (.s (.o) (.s (.s (.o) (.c (.s (.o) (.s (.o) (.o))) (.o))) (.s (.o) (.s (.o) (.s (.s (.o) (.c (.s (.o) (.o)) (.o))) (.s (.o) (.s (.j [(60, .bool)] (.o) (.c (.s (.o) (.o)) (.o))) (.s (.s (.o) (.c (.s (.o) (.o)) (.o))) (.s (.o) (.s (.j [(79, .bool)] (.o) (.c (.s (.o) (.o)) (.o))) (.s (.s (.o) (.c (.s (.o) (.o)) (.o))) (.s (.o) (.s (.j [(103, .bool)] (.o) (.c (.s (.o) (.o)) (.o))) (.s (.o) (.o))))))))))))))))))
theorem eq_unicode_utf8_decodeRuneSlow (p0p : Option Addr) (p0l : Nat) (p0c : Nat) (w : World) (J : Int → Int → World → Prop) : vcFun Tryz.prog Tryz.f38 ann_unicode_utf8_decodeRuneSlow [.one (.int .i32), .one (.int .i64)] [.slice p0p p0l p0c] w J = VC_unicode_utf8_decodeRuneSlow p0p p0l p0c w J := by kernel_rfl
theorem c_unicode_utf8_decodeRuneSlow {p0p : Option Addr} {p0l : Nat} {p0c : Nat} {w : World} {J : Int → Int → World → Prop} (h : VC_unicode_utf8_decodeRuneSlow p0p p0l p0c w J) : callJ Tryz.prog fn_unicode_utf8_decodeRuneSlow #[.slice p0p p0l p0c] w [.one (.int .i32), .one (.int .i64)] J := vc_calls Tryz.func38 ann_unicode_utf8_decodeRuneSlow (Eq.mpr (eq_unicode_utf8_decodeRuneSlow p0p p0l p0c w J) h)

end Go.Proofs.YtdjehimkijlhgaaGreatDoor
