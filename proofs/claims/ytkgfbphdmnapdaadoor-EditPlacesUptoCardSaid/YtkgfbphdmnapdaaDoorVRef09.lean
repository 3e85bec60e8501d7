/- What the conditions of these functions are, reckoned by the reading; printed by program. -/
import Derived.Test.YtkgfbphdmnapdaaDoorNm
import Derived.KernelRfl
set_option maxRecDepth 100000
set_option linter.unusedVariables false
namespace Go.Proofs.YtkgfbphdmnapdaaDoor
open Go Go.Vc

/-- lectern/lecternref09.Same -/
def VC_ref09_Same (a0_0 : Int) (a0_1p : Option Addr) (a0_1l : Nat) (a0_1c : Nat) (a0_2 : ByteArray) (a0_3 : ByteArray) (a0_4 : ByteArray) (a0_5 : Int) (a0_6 : ByteArray) (a0_7 : ByteArray) (a0_8p : Option Addr) (a0_8l : Nat) (a0_8c : Nat) (a0_9p : Option Addr) (a0_9l : Nat) (a0_9c : Nat) (a0_10 : ByteArray) (b1_0 : Int) (b1_1p : Option Addr) (b1_1l : Nat) (b1_1c : Nat) (b1_2 : ByteArray) (b1_3 : ByteArray) (b1_4 : ByteArray) (b1_5 : Int) (b1_6 : ByteArray) (b1_7 : ByteArray) (b1_8p : Option Addr) (b1_8l : Nat) (b1_8c : Nat) (b1_9p : Option Addr) (b1_9l : Nat) (b1_9c : Nat) (b1_10 : ByteArray) (w : World) (J : Bool → World → Prop) : Prop :=
  newB w (.cells ⟨[.int .i64 a0_0, .slice a0_1p a0_1l a0_1c, .string a0_2, .string a0_3, .string a0_4, .int .i64 a0_5, .string a0_6, .string a0_7, .slice a0_8p a0_8l a0_8c, .slice a0_9p a0_9l a0_9c, .string a0_10]⟩ T_ref09_Edit) fun b2 w1 =>
  newB w1 (.cells ⟨[.int .i64 b1_0, .slice b1_1p b1_1l b1_1c, .string b1_2, .string b1_3, .string b1_4, .int .i64 b1_5, .string b1_6, .string b1_7, .slice b1_8p b1_8l b1_8c, .slice b1_9p b1_9l b1_9c, .string b1_10]⟩ T_ref09_Edit) fun b3 w2 =>
  withJ (fun (x4 : Bool) (w3 : World) =>
  J x4 w3) fun J_4 =>
  ldI .i64 w2 ⟨b2, 0, none⟩ fun x6 =>
  ldI .i64 w2 ⟨b3, 0, none⟩ fun x8 =>
  condB (x6 == x8) (
  ldS w2 ⟨b2, 1, none⟩ fun x12p x12l x12c =>
  ldS w2 ⟨b3, 1, none⟩ fun x14p x14l x14c =>
  callJ Tryd.prog fn_ref05_SameInts #[.slice x12p x12l x12c, .slice x14p x14l x14c] w2 [.one .bool] fun (r15 : Bool) (w4 : World) =>
  condB r15 (
  ldStr w4 ⟨b2, 2, none⟩ fun x19_0 =>
  ldStr w4 ⟨b2, 3, none⟩ fun x19_1 =>
  ldStr w4 ⟨b3, 2, none⟩ fun x21_0 =>
  ldStr w4 ⟨b3, 3, none⟩ fun x21_1 =>
  condB ((x19_0.toList == x21_0.toList) && ((x19_1.toList == x21_1.toList) && true)) (
  ldStr w4 ⟨b2, 4, none⟩ fun x26 =>
  ldStr w4 ⟨b3, 4, none⟩ fun x28 =>
  condB (x26.toList == x28.toList) (
  ldI .i64 w4 ⟨b2, 5, none⟩ fun x33_0 =>
  ldStr w4 ⟨b2, 6, none⟩ fun x33_1 =>
  ldStr w4 ⟨b2, 7, none⟩ fun x33_2 =>
  ldS w4 ⟨b2, 8, none⟩ fun x33_3p x33_3l x33_3c =>
  ldS w4 ⟨b2, 9, none⟩ fun x33_4p x33_4l x33_4c =>
  ldStr w4 ⟨b2, 10, none⟩ fun x33_5 =>
  ldI .i64 w4 ⟨b3, 5, none⟩ fun x35_0 =>
  ldStr w4 ⟨b3, 6, none⟩ fun x35_1 =>
  ldStr w4 ⟨b3, 7, none⟩ fun x35_2 =>
  ldS w4 ⟨b3, 8, none⟩ fun x35_3p x35_3l x35_3c =>
  ldS w4 ⟨b3, 9, none⟩ fun x35_4p x35_4l x35_4c =>
  ldStr w4 ⟨b3, 10, none⟩ fun x35_5 =>
  callJ Tryd.prog fn_ref05_Same #[.agg ⟨[.int .i64 x33_0, .string x33_1, .string x33_2, .slice x33_3p x33_3l x33_3c, .slice x33_4p x33_4l x33_4c, .string x33_5]⟩, .agg ⟨[.int .i64 x35_0, .string x35_1, .string x35_2, .slice x35_3p x35_3l x35_3c, .slice x35_4p x35_4l x35_4c, .string x35_5]⟩] w4 [.one .bool] fun (r36 : Bool) (w5 : World) =>
  J_4 r36 w5) (
  J_4 false w4)) (
  J_4 false w4)) (
  J_4 false w4)) (
  J_4 false w2)
def ann_ref09_Same : Ann := .s (.o) (.j [(4, .bool)] (.o) (.o))
theorem eq_ref09_Same (a0_0 : Int) (a0_1p : Option Addr) (a0_1l : Nat) (a0_1c : Nat) (a0_2 : ByteArray) (a0_3 : ByteArray) (a0_4 : ByteArray) (a0_5 : Int) (a0_6 : ByteArray) (a0_7 : ByteArray) (a0_8p : Option Addr) (a0_8l : Nat) (a0_8c : Nat) (a0_9p : Option Addr) (a0_9l : Nat) (a0_9c : Nat) (a0_10 : ByteArray) (b1_0 : Int) (b1_1p : Option Addr) (b1_1l : Nat) (b1_1c : Nat) (b1_2 : ByteArray) (b1_3 : ByteArray) (b1_4 : ByteArray) (b1_5 : Int) (b1_6 : ByteArray) (b1_7 : ByteArray) (b1_8p : Option Addr) (b1_8l : Nat) (b1_8c : Nat) (b1_9p : Option Addr) (b1_9l : Nat) (b1_9c : Nat) (b1_10 : ByteArray) (w : World) (J : Bool → World → Prop) : vcFun Tryd.prog Tryd.f11 ann_ref09_Same [.one .bool] [.agg ⟨[.int .i64 a0_0, .slice a0_1p a0_1l a0_1c, .string a0_2, .string a0_3, .string a0_4, .int .i64 a0_5, .string a0_6, .string a0_7, .slice a0_8p a0_8l a0_8c, .slice a0_9p a0_9l a0_9c, .string a0_10]⟩, .agg ⟨[.int .i64 b1_0, .slice b1_1p b1_1l b1_1c, .string b1_2, .string b1_3, .string b1_4, .int .i64 b1_5, .string b1_6, .string b1_7, .slice b1_8p b1_8l b1_8c, .slice b1_9p b1_9l b1_9c, .string b1_10]⟩] w J = VC_ref09_Same a0_0 a0_1p a0_1l a0_1c a0_2 a0_3 a0_4 a0_5 a0_6 a0_7 a0_8p a0_8l a0_8c a0_9p a0_9l a0_9c a0_10 b1_0 b1_1p b1_1l b1_1c b1_2 b1_3 b1_4 b1_5 b1_6 b1_7 b1_8p b1_8l b1_8c b1_9p b1_9l b1_9c b1_10 w J := by kernel_rfl
theorem c_ref09_Same {a0_0 : Int} {a0_1p : Option Addr} {a0_1l : Nat} {a0_1c : Nat} {a0_2 : ByteArray} {a0_3 : ByteArray} {a0_4 : ByteArray} {a0_5 : Int} {a0_6 : ByteArray} {a0_7 : ByteArray} {a0_8p : Option Addr} {a0_8l : Nat} {a0_8c : Nat} {a0_9p : Option Addr} {a0_9l : Nat} {a0_9c : Nat} {a0_10 : ByteArray} {b1_0 : Int} {b1_1p : Option Addr} {b1_1l : Nat} {b1_1c : Nat} {b1_2 : ByteArray} {b1_3 : ByteArray} {b1_4 : ByteArray} {b1_5 : Int} {b1_6 : ByteArray} {b1_7 : ByteArray} {b1_8p : Option Addr} {b1_8l : Nat} {b1_8c : Nat} {b1_9p : Option Addr} {b1_9l : Nat} {b1_9c : Nat} {b1_10 : ByteArray} {w : World} {J : Bool → World → Prop} (h : VC_ref09_Same a0_0 a0_1p a0_1l a0_1c a0_2 a0_3 a0_4 a0_5 a0_6 a0_7 a0_8p a0_8l a0_8c a0_9p a0_9l a0_9c a0_10 b1_0 b1_1p b1_1l b1_1c b1_2 b1_3 b1_4 b1_5 b1_6 b1_7 b1_8p b1_8l b1_8c b1_9p b1_9l b1_9c b1_10 w J) : callJ Tryd.prog fn_ref09_Same #[.agg ⟨[.int .i64 a0_0, .slice a0_1p a0_1l a0_1c, .string a0_2, .string a0_3, .string a0_4, .int .i64 a0_5, .string a0_6, .string a0_7, .slice a0_8p a0_8l a0_8c, .slice a0_9p a0_9l a0_9c, .string a0_10]⟩, .agg ⟨[.int .i64 b1_0, .slice b1_1p b1_1l b1_1c, .string b1_2, .string b1_3, .string b1_4, .int .i64 b1_5, .string b1_6, .string b1_7, .slice b1_8p b1_8l b1_8c, .slice b1_9p b1_9l b1_9c, .string b1_10]⟩] w [.one .bool] J := vc_calls Tryd.func11 ann_ref09_Same (Eq.mpr (eq_ref09_Same a0_0 a0_1p a0_1l a0_1c a0_2 a0_3 a0_4 a0_5 a0_6 a0_7 a0_8p a0_8l a0_8c a0_9p a0_9l a0_9c a0_10 b1_0 b1_1p b1_1l b1_1c b1_2 b1_3 b1_4 b1_5 b1_6 b1_7 b1_8p b1_8l b1_8c b1_9p b1_9l b1_9c b1_10 w J) h)

end Go.Proofs.YtkgfbphdmnapdaaDoor
