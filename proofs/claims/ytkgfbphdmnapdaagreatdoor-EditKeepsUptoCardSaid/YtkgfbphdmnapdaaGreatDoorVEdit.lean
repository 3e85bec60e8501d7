/- What the conditions of these functions are, reckoned by the reading; printed by program. -/
import Derived.Test.YtkgfbphdmnapdaaGreatDoorNm
import Derived.KernelRfl
set_option maxRecDepth 100000
set_option linter.unusedVariables false
namespace Go.Proofs.YtkgfbphdmnapdaaGreatDoor
open Go Go.Vc

/-- lectern/edit.Apply -/
def VC_edit_Apply (d0_0 : Int) (d0_1 : ByteArray) (d0_2 : ByteArray) (d0_3p : Option Addr) (d0_3l : Nat) (d0_3c : Nat) (d0_4p : Option Addr) (d0_4l : Nat) (d0_4c : Nat) (d0_5 : ByteArray) (e1_0 : Int) (e1_1p : Option Addr) (e1_1l : Nat) (e1_1c : Nat) (e1_2 : ByteArray) (e1_3 : ByteArray) (e1_4 : ByteArray) (e1_5 : Int) (e1_6 : ByteArray) (e1_7 : ByteArray) (e1_8p : Option Addr) (e1_8l : Nat) (e1_8c : Nat) (e1_9p : Option Addr) (e1_9l : Nat) (e1_9c : Nat) (e1_10 : ByteArray) (w : World) (J : Int → ByteArray → ByteArray → Option Addr → Nat → Nat → Option Addr → Nat → Nat → ByteArray → Int → World → Prop) : Prop :=
  newB w (.cells ⟨[.int .i64 d0_0, .string d0_1, .string d0_2, .slice d0_3p d0_3l d0_3c, .slice d0_4p d0_4l d0_4c, .string d0_5]⟩ T_api_Node) fun b2 w1 =>
  newB w1 (.cells ⟨[.int .i64 e1_0, .slice e1_1p e1_1l e1_1c, .string e1_2, .string e1_3, .string e1_4, .int .i64 e1_5, .string e1_6, .string e1_7, .slice e1_8p e1_8l e1_8c, .slice e1_9p e1_9l e1_9c, .string e1_10]⟩ T_edit_Edit) fun b3 w2 =>
  newB w2 (.cells (zeroC Tryz.prog T_api_Node) T_api_Node) fun b4 w3 =>
  ldI .i64 w3 ⟨b2, 0, none⟩ fun x9_0 =>
  ldStr w3 ⟨b2, 1, none⟩ fun x9_1 =>
  ldStr w3 ⟨b2, 2, none⟩ fun x9_2 =>
  ldS w3 ⟨b2, 3, none⟩ fun x9_3p x9_3l x9_3c =>
  ldS w3 ⟨b2, 4, none⟩ fun x9_4p x9_4l x9_4c =>
  ldStr w3 ⟨b2, 5, none⟩ fun x9_5 =>
  callJ Tryz.prog fn_tree_Check #[.agg ⟨[.int .i64 x9_0, .string x9_1, .string x9_2, .slice x9_3p x9_3l x9_3c, .slice x9_4p x9_4l x9_4c, .string x9_5]⟩] w3 [.one (.int .i64)] fun (r10 : Int) (w4 : World) =>
  condB (r10 != (0 : Int)) (
  stN w4 ⟨b4, 0, none⟩ ⟨[.int .i64 (0 : Int), .string ByteArray.empty, .string ByteArray.empty, .slice none 0 0, .slice none 0 0, .string ByteArray.empty]⟩ 6 fun w5 =>
  ldI .i64 w5 ⟨b4, 0, none⟩ fun r_0 =>
  ldStr w5 ⟨b4, 1, none⟩ fun r_1 =>
  ldStr w5 ⟨b4, 2, none⟩ fun r_2 =>
  ldS w5 ⟨b4, 3, none⟩ fun r_3p r_3l r_3c =>
  ldS w5 ⟨b4, 4, none⟩ fun r_4p r_4l r_4c =>
  ldStr w5 ⟨b4, 5, none⟩ fun r_5 =>
  J r_0 r_1 r_2 r_3p r_3l r_3c r_4p r_4l r_4c r_5 r10 w5) (
  ldI .i64 w4 ⟨b2, 0, none⟩ fun x15_0 =>
  ldStr w4 ⟨b2, 1, none⟩ fun x15_1 =>
  ldStr w4 ⟨b2, 2, none⟩ fun x15_2 =>
  ldS w4 ⟨b2, 3, none⟩ fun x15_3p x15_3l x15_3c =>
  ldS w4 ⟨b2, 4, none⟩ fun x15_4p x15_4l x15_4c =>
  ldStr w4 ⟨b2, 5, none⟩ fun x15_5 =>
  callJ Tryz.prog fn_tree_Copy #[.agg ⟨[.int .i64 x15_0, .string x15_1, .string x15_2, .slice x15_3p x15_3l x15_3c, .slice x15_4p x15_4l x15_4c, .string x15_5]⟩] w4 [.agg [.int .i64, .str, .str, .slice, .slice, .str]] fun (r16_0 : Int) (r16_1 : ByteArray) (r16_2 : ByteArray) (r16_3p : Option Addr) (r16_3l : Nat) (r16_3c : Nat) (r16_4p : Option Addr) (r16_4l : Nat) (r16_4c : Nat) (r16_5 : ByteArray) (w6 : World) =>
  stN w6 ⟨b2, 0, none⟩ ⟨[.int .i64 r16_0, .string r16_1, .string r16_2, .slice r16_3p r16_3l r16_3c, .slice r16_4p r16_4l r16_4c, .string r16_5]⟩ 6 fun w7 =>
  ldI .i64 w7 ⟨b3, 0, none⟩ fun x17_0 =>
  ldS w7 ⟨b3, 1, none⟩ fun x17_1p x17_1l x17_1c =>
  ldStr w7 ⟨b3, 2, none⟩ fun x17_2 =>
  ldStr w7 ⟨b3, 3, none⟩ fun x17_3 =>
  ldStr w7 ⟨b3, 4, none⟩ fun x17_4 =>
  ldI .i64 w7 ⟨b3, 5, none⟩ fun x17_5 =>
  ldStr w7 ⟨b3, 6, none⟩ fun x17_6 =>
  ldStr w7 ⟨b3, 7, none⟩ fun x17_7 =>
  ldS w7 ⟨b3, 8, none⟩ fun x17_8p x17_8l x17_8c =>
  ldS w7 ⟨b3, 9, none⟩ fun x17_9p x17_9l x17_9c =>
  ldStr w7 ⟨b3, 10, none⟩ fun x17_10 =>
  callJ Tryz.prog fn_edit_do #[.pointer (some ⟨b2, 0, none⟩), .agg ⟨[.int .i64 x17_0, .slice x17_1p x17_1l x17_1c, .string x17_2, .string x17_3, .string x17_4, .int .i64 x17_5, .string x17_6, .string x17_7, .slice x17_8p x17_8l x17_8c, .slice x17_9p x17_9l x17_9c, .string x17_10]⟩] w7 [.one (.int .i64)] fun (r18 : Int) (w8 : World) =>
  condB (r18 != (0 : Int)) (
  stN w8 ⟨b4, 0, none⟩ ⟨[.int .i64 (0 : Int), .string ByteArray.empty, .string ByteArray.empty, .slice none 0 0, .slice none 0 0, .string ByteArray.empty]⟩ 6 fun w9 =>
  ldI .i64 w9 ⟨b4, 0, none⟩ fun r_0_1 =>
  ldStr w9 ⟨b4, 1, none⟩ fun r_1_1 =>
  ldStr w9 ⟨b4, 2, none⟩ fun r_2_1 =>
  ldS w9 ⟨b4, 3, none⟩ fun r_3_1p r_3_1l r_3_1c =>
  ldS w9 ⟨b4, 4, none⟩ fun r_4_1p r_4_1l r_4_1c =>
  ldStr w9 ⟨b4, 5, none⟩ fun r_5_1 =>
  J r_0_1 r_1_1 r_2_1 r_3_1p r_3_1l r_3_1c r_4_1p r_4_1l r_4_1c r_5_1 r18 w9) (
  ldI .i64 w8 ⟨b2, 0, none⟩ fun x23_0 =>
  ldStr w8 ⟨b2, 1, none⟩ fun x23_1 =>
  ldStr w8 ⟨b2, 2, none⟩ fun x23_2 =>
  ldS w8 ⟨b2, 3, none⟩ fun x23_3p x23_3l x23_3c =>
  ldS w8 ⟨b2, 4, none⟩ fun x23_4p x23_4l x23_4c =>
  ldStr w8 ⟨b2, 5, none⟩ fun x23_5 =>
  callJ Tryz.prog fn_tree_Check #[.agg ⟨[.int .i64 x23_0, .string x23_1, .string x23_2, .slice x23_3p x23_3l x23_3c, .slice x23_4p x23_4l x23_4c, .string x23_5]⟩] w8 [.one (.int .i64)] fun (r24 : Int) (w10 : World) =>
  condB (r24 != (0 : Int)) (
  stN w10 ⟨b4, 0, none⟩ ⟨[.int .i64 (0 : Int), .string ByteArray.empty, .string ByteArray.empty, .slice none 0 0, .slice none 0 0, .string ByteArray.empty]⟩ 6 fun w11 =>
  ldI .i64 w11 ⟨b4, 0, none⟩ fun r_0_2 =>
  ldStr w11 ⟨b4, 1, none⟩ fun r_1_2 =>
  ldStr w11 ⟨b4, 2, none⟩ fun r_2_2 =>
  ldS w11 ⟨b4, 3, none⟩ fun r_3_2p r_3_2l r_3_2c =>
  ldS w11 ⟨b4, 4, none⟩ fun r_4_2p r_4_2l r_4_2c =>
  ldStr w11 ⟨b4, 5, none⟩ fun r_5_2 =>
  J r_0_2 r_1_2 r_2_2 r_3_2p r_3_2l r_3_2c r_4_2p r_4_2l r_4_2c r_5_2 r24 w11) (
  ldI .i64 w10 ⟨b2, 0, none⟩ fun x29_0 =>
  ldStr w10 ⟨b2, 1, none⟩ fun x29_1 =>
  ldStr w10 ⟨b2, 2, none⟩ fun x29_2 =>
  ldS w10 ⟨b2, 3, none⟩ fun x29_3p x29_3l x29_3c =>
  ldS w10 ⟨b2, 4, none⟩ fun x29_4p x29_4l x29_4c =>
  ldStr w10 ⟨b2, 5, none⟩ fun x29_5 =>
  stN w10 ⟨b4, 0, none⟩ ⟨[.int .i64 x29_0, .string x29_1, .string x29_2, .slice x29_3p x29_3l x29_3c, .slice x29_4p x29_4l x29_4c, .string x29_5]⟩ 6 fun w12 =>
  ldI .i64 w12 ⟨b4, 0, none⟩ fun r_0_3 =>
  ldStr w12 ⟨b4, 1, none⟩ fun r_1_3 =>
  ldStr w12 ⟨b4, 2, none⟩ fun r_2_3 =>
  ldS w12 ⟨b4, 3, none⟩ fun r_3_3p r_3_3l r_3_3c =>
  ldS w12 ⟨b4, 4, none⟩ fun r_4_3p r_4_3l r_4_3c =>
  ldStr w12 ⟨b4, 5, none⟩ fun r_5_3 =>
  J r_0_3 r_1_3 r_2_3 r_3_3p r_3_3l r_3_3c r_4_3p r_4_3l r_4_3c r_5_3 (0 : Int) w12)))
def ann_edit_Apply : Ann := .s (.o) (.s (.s (.o) (.s (.o) (.c (.s (.o) (.o)) (.o)))) (.s (.o) (.s (.s (.o) (.s (.o) (.c (.s (.o) (.o)) (.o)))) (.s (.s (.o) (.s (.o) (.c (.s (.o) (.o)) (.o)))) (.s (.o) (.o))))))
theorem eq_edit_Apply (d0_0 : Int) (d0_1 : ByteArray) (d0_2 : ByteArray) (d0_3p : Option Addr) (d0_3l : Nat) (d0_3c : Nat) (d0_4p : Option Addr) (d0_4l : Nat) (d0_4c : Nat) (d0_5 : ByteArray) (e1_0 : Int) (e1_1p : Option Addr) (e1_1l : Nat) (e1_1c : Nat) (e1_2 : ByteArray) (e1_3 : ByteArray) (e1_4 : ByteArray) (e1_5 : Int) (e1_6 : ByteArray) (e1_7 : ByteArray) (e1_8p : Option Addr) (e1_8l : Nat) (e1_8c : Nat) (e1_9p : Option Addr) (e1_9l : Nat) (e1_9c : Nat) (e1_10 : ByteArray) (w : World) (J : Int → ByteArray → ByteArray → Option Addr → Nat → Nat → Option Addr → Nat → Nat → ByteArray → Int → World → Prop) : vcFun Tryz.prog Tryz.f8 ann_edit_Apply [.agg [.int .i64, .str, .str, .slice, .slice, .str], .one (.int .i64)] [.agg ⟨[.int .i64 d0_0, .string d0_1, .string d0_2, .slice d0_3p d0_3l d0_3c, .slice d0_4p d0_4l d0_4c, .string d0_5]⟩, .agg ⟨[.int .i64 e1_0, .slice e1_1p e1_1l e1_1c, .string e1_2, .string e1_3, .string e1_4, .int .i64 e1_5, .string e1_6, .string e1_7, .slice e1_8p e1_8l e1_8c, .slice e1_9p e1_9l e1_9c, .string e1_10]⟩] w J = VC_edit_Apply d0_0 d0_1 d0_2 d0_3p d0_3l d0_3c d0_4p d0_4l d0_4c d0_5 e1_0 e1_1p e1_1l e1_1c e1_2 e1_3 e1_4 e1_5 e1_6 e1_7 e1_8p e1_8l e1_8c e1_9p e1_9l e1_9c e1_10 w J := by kernel_rfl
theorem c_edit_Apply {d0_0 : Int} {d0_1 : ByteArray} {d0_2 : ByteArray} {d0_3p : Option Addr} {d0_3l : Nat} {d0_3c : Nat} {d0_4p : Option Addr} {d0_4l : Nat} {d0_4c : Nat} {d0_5 : ByteArray} {e1_0 : Int} {e1_1p : Option Addr} {e1_1l : Nat} {e1_1c : Nat} {e1_2 : ByteArray} {e1_3 : ByteArray} {e1_4 : ByteArray} {e1_5 : Int} {e1_6 : ByteArray} {e1_7 : ByteArray} {e1_8p : Option Addr} {e1_8l : Nat} {e1_8c : Nat} {e1_9p : Option Addr} {e1_9l : Nat} {e1_9c : Nat} {e1_10 : ByteArray} {w : World} {J : Int → ByteArray → ByteArray → Option Addr → Nat → Nat → Option Addr → Nat → Nat → ByteArray → Int → World → Prop} (h : VC_edit_Apply d0_0 d0_1 d0_2 d0_3p d0_3l d0_3c d0_4p d0_4l d0_4c d0_5 e1_0 e1_1p e1_1l e1_1c e1_2 e1_3 e1_4 e1_5 e1_6 e1_7 e1_8p e1_8l e1_8c e1_9p e1_9l e1_9c e1_10 w J) : callJ Tryz.prog fn_edit_Apply #[.agg ⟨[.int .i64 d0_0, .string d0_1, .string d0_2, .slice d0_3p d0_3l d0_3c, .slice d0_4p d0_4l d0_4c, .string d0_5]⟩, .agg ⟨[.int .i64 e1_0, .slice e1_1p e1_1l e1_1c, .string e1_2, .string e1_3, .string e1_4, .int .i64 e1_5, .string e1_6, .string e1_7, .slice e1_8p e1_8l e1_8c, .slice e1_9p e1_9l e1_9c, .string e1_10]⟩] w [.agg [.int .i64, .str, .str, .slice, .slice, .str], .one (.int .i64)] J := vc_calls Tryz.func8 ann_edit_Apply (Eq.mpr (eq_edit_Apply d0_0 d0_1 d0_2 d0_3p d0_3l d0_3c d0_4p d0_4l d0_4c d0_5 e1_0 e1_1p e1_1l e1_1c e1_2 e1_3 e1_4 e1_5 e1_6 e1_7 e1_8p e1_8l e1_8c e1_9p e1_9l e1_9c e1_10 w J) h)

/-- lectern/edit.Back -/
def VC_edit_Back (d0_0 : Int) (d0_1 : ByteArray) (d0_2 : ByteArray) (d0_3p : Option Addr) (d0_3l : Nat) (d0_3c : Nat) (d0_4p : Option Addr) (d0_4l : Nat) (d0_4c : Nat) (d0_5 : ByteArray) (e1_0 : Int) (e1_1p : Option Addr) (e1_1l : Nat) (e1_1c : Nat) (e1_2 : ByteArray) (e1_3 : ByteArray) (e1_4 : ByteArray) (e1_5 : Int) (e1_6 : ByteArray) (e1_7 : ByteArray) (e1_8p : Option Addr) (e1_8l : Nat) (e1_8c : Nat) (e1_9p : Option Addr) (e1_9l : Nat) (e1_9c : Nat) (e1_10 : ByteArray) (w : World) (J : Int → Option Addr → Nat → Nat → ByteArray → ByteArray → ByteArray → Int → ByteArray → ByteArray → Option Addr → Nat → Nat → Option Addr → Nat → Nat → ByteArray → Int → World → Prop) : Prop :=
  newB w (.cells ⟨[.int .i64 d0_0, .string d0_1, .string d0_2, .slice d0_3p d0_3l d0_3c, .slice d0_4p d0_4l d0_4c, .string d0_5]⟩ T_api_Node) fun b2 w1 =>
  newB w1 (.cells ⟨[.int .i64 e1_0, .slice e1_1p e1_1l e1_1c, .string e1_2, .string e1_3, .string e1_4, .int .i64 e1_5, .string e1_6, .string e1_7, .slice e1_8p e1_8l e1_8c, .slice e1_9p e1_9l e1_9c, .string e1_10]⟩ T_edit_Edit) fun b3 w2 =>
  newB w2 (.cells (zeroC Tryz.prog T_edit_Edit) T_edit_Edit) fun b4 w3 =>
  ldI .i64 w3 ⟨b2, 0, none⟩ fun x13_0 =>
  ldStr w3 ⟨b2, 1, none⟩ fun x13_1 =>
  ldStr w3 ⟨b2, 2, none⟩ fun x13_2 =>
  ldS w3 ⟨b2, 3, none⟩ fun x13_3p x13_3l x13_3c =>
  ldS w3 ⟨b2, 4, none⟩ fun x13_4p x13_4l x13_4c =>
  ldStr w3 ⟨b2, 5, none⟩ fun x13_5 =>
  ldI .i64 w3 ⟨b3, 0, none⟩ fun x14_0 =>
  ldS w3 ⟨b3, 1, none⟩ fun x14_1p x14_1l x14_1c =>
  ldStr w3 ⟨b3, 2, none⟩ fun x14_2 =>
  ldStr w3 ⟨b3, 3, none⟩ fun x14_3 =>
  ldStr w3 ⟨b3, 4, none⟩ fun x14_4 =>
  ldI .i64 w3 ⟨b3, 5, none⟩ fun x14_5 =>
  ldStr w3 ⟨b3, 6, none⟩ fun x14_6 =>
  ldStr w3 ⟨b3, 7, none⟩ fun x14_7 =>
  ldS w3 ⟨b3, 8, none⟩ fun x14_8p x14_8l x14_8c =>
  ldS w3 ⟨b3, 9, none⟩ fun x14_9p x14_9l x14_9c =>
  ldStr w3 ⟨b3, 10, none⟩ fun x14_10 =>
  callJ Tryz.prog fn_edit_Apply #[.agg ⟨[.int .i64 x13_0, .string x13_1, .string x13_2, .slice x13_3p x13_3l x13_3c, .slice x13_4p x13_4l x13_4c, .string x13_5]⟩, .agg ⟨[.int .i64 x14_0, .slice x14_1p x14_1l x14_1c, .string x14_2, .string x14_3, .string x14_4, .int .i64 x14_5, .string x14_6, .string x14_7, .slice x14_8p x14_8l x14_8c, .slice x14_9p x14_9l x14_9c, .string x14_10]⟩] w3 [.agg [.int .i64, .str, .str, .slice, .slice, .str], .one (.int .i64)] fun (r15_0_0 : Int) (r15_0_1 : ByteArray) (r15_0_2 : ByteArray) (r15_0_3p : Option Addr) (r15_0_3l : Nat) (r15_0_3c : Nat) (r15_0_4p : Option Addr) (r15_0_4l : Nat) (r15_0_4c : Nat) (r15_0_5 : ByteArray) (r15_1 : Int) (w4 : World) =>
  newB w4 (.cells (zeroC Tryz.prog T_api_Node) T_api_Node) fun b6 w5 =>
  stN w5 ⟨b6, 0, none⟩ ⟨[.int .i64 r15_0_0, .string r15_0_1, .string r15_0_2, .slice r15_0_3p r15_0_3l r15_0_3c, .slice r15_0_4p r15_0_4l r15_0_4c, .string r15_0_5]⟩ 6 fun w6 =>
  condB (r15_1 != (0 : Int)) (
  stN w6 ⟨b4, 0, none⟩ ⟨[.int .i64 (0 : Int), .slice none 0 0, .string ByteArray.empty, .string ByteArray.empty, .string ByteArray.empty, .int .i64 (0 : Int), .string ByteArray.empty, .string ByteArray.empty, .slice none 0 0, .slice none 0 0, .string ByteArray.empty]⟩ 11 fun w7 =>
  ldI .i64 w7 ⟨b4, 0, none⟩ fun r_0 =>
  ldS w7 ⟨b4, 1, none⟩ fun r_1p r_1l r_1c =>
  ldStr w7 ⟨b4, 2, none⟩ fun r_2 =>
  ldStr w7 ⟨b4, 3, none⟩ fun r_3 =>
  ldStr w7 ⟨b4, 4, none⟩ fun r_4 =>
  ldI .i64 w7 ⟨b4, 5, none⟩ fun r_5 =>
  ldStr w7 ⟨b4, 6, none⟩ fun r_6 =>
  ldStr w7 ⟨b4, 7, none⟩ fun r_7 =>
  ldS w7 ⟨b4, 8, none⟩ fun r_8p r_8l r_8c =>
  ldS w7 ⟨b4, 9, none⟩ fun r_9p r_9l r_9c =>
  ldStr w7 ⟨b4, 10, none⟩ fun r_10 =>
  J r_0 r_1p r_1l r_1c r_2 r_3 r_4 r_5 r_6 r_7 r_8p r_8l r_8c r_9p r_9l r_9c r_10 r15_1 w7) (
  withJ (fun (b8 : Option Addr) (w8 : World) =>
  newB w8 (.cells (zeroC Tryz.prog T_api_Node) T_api_Node) fun b9 w9 =>
  stN w9 ⟨b9, 0, none⟩ ⟨[.int .i64 (0 : Int), .string ByteArray.empty, .string ByteArray.empty, .slice none 0 0, .slice none 0 0, .string ByteArray.empty]⟩ 6 fun w10 =>
  withJ (fun (w11 : World) =>
  withJ (fun (w12 : World) =>
  nonNil b8 fun a79 =>
  ldI .i64 w12 a79 fun x79_0 =>
  ldS w12 ((a79.add 1)) fun x79_1p x79_1l x79_1c =>
  ldStr w12 ((a79.add 2)) fun x79_2 =>
  ldStr w12 ((a79.add 3)) fun x79_3 =>
  ldStr w12 ((a79.add 4)) fun x79_4 =>
  ldI .i64 w12 ((a79.add 5)) fun x79_5 =>
  ldStr w12 ((a79.add 6)) fun x79_6 =>
  ldStr w12 ((a79.add 7)) fun x79_7 =>
  ldS w12 ((a79.add 8)) fun x79_8p x79_8l x79_8c =>
  ldS w12 ((a79.add 9)) fun x79_9p x79_9l x79_9c =>
  ldStr w12 ((a79.add 10)) fun x79_10 =>
  stN w12 ⟨b4, 0, none⟩ ⟨[.int .i64 x79_0, .slice x79_1p x79_1l x79_1c, .string x79_2, .string x79_3, .string x79_4, .int .i64 x79_5, .string x79_6, .string x79_7, .slice x79_8p x79_8l x79_8c, .slice x79_9p x79_9l x79_9c, .string x79_10]⟩ 11 fun w13 =>
  ldI .i64 w13 ⟨b4, 0, none⟩ fun r_0_1 =>
  ldS w13 ⟨b4, 1, none⟩ fun r_1_1p r_1_1l r_1_1c =>
  ldStr w13 ⟨b4, 2, none⟩ fun r_2_1 =>
  ldStr w13 ⟨b4, 3, none⟩ fun r_3_1 =>
  ldStr w13 ⟨b4, 4, none⟩ fun r_4_1 =>
  ldI .i64 w13 ⟨b4, 5, none⟩ fun r_5_1 =>
  ldStr w13 ⟨b4, 6, none⟩ fun r_6_1 =>
  ldStr w13 ⟨b4, 7, none⟩ fun r_7_1 =>
  ldS w13 ⟨b4, 8, none⟩ fun r_8_1p r_8_1l r_8_1c =>
  ldS w13 ⟨b4, 9, none⟩ fun r_9_1p r_9_1l r_9_1c =>
  ldStr w13 ⟨b4, 10, none⟩ fun r_10_1 =>
  J r_0_1 r_1_1p r_1_1l r_1_1c r_2_1 r_3_1 r_4_1 r_5_1 r_6_1 r_7_1 r_8_1p r_8_1l r_8_1c r_9_1p r_9_1l r_9_1c r_10_1 (0 : Int) w13) fun J_0_1 =>
  ldI .i64 w11 ⟨b3, 0, none⟩ fun x40 =>
  condB (x40 == (1 : Int)) (
  nonNil b8 fun a64 =>
  stV w11 a64 (.int .i64 (2 : Int)) fun w14 =>
  J_0_1 w14) (
  condB (x40 == (2 : Int)) (
  ldI .i64 w11.drew ⟨b9, 0, none⟩ fun x67_0 =>
  ldStr w11.drew ⟨b9, 1, none⟩ fun x67_1 =>
  ldStr w11.drew ⟨b9, 2, none⟩ fun x67_2 =>
  ldS w11.drew ⟨b9, 3, none⟩ fun x67_3p x67_3l x67_3c =>
  ldS w11.drew ⟨b9, 4, none⟩ fun x67_4p x67_4l x67_4c =>
  ldStr w11.drew ⟨b9, 5, none⟩ fun x67_5 =>
  nonNil b8 fun a68 =>
  stV w11.drew a68 (.int .i64 (1 : Int)) fun w15 =>
  cellsAt w15 ⟨b9, 0, none⟩ [.int .i64 x67_0, .string x67_1, .string x67_2, .slice x67_3p x67_3l x67_3c, .slice x67_4p x67_4l x67_4c, .string x67_5] ∧
  nonNil b8 fun a69 =>
  stN w15 ((a69.add 5)) ⟨[.int .i64 x67_0, .string x67_1, .string x67_2, .slice x67_3p x67_3l x67_3c, .slice x67_4p x67_4l x67_4c, .string x67_5]⟩ 6 fun w16 =>
  J_0_1 w16) (
  condB (x40 == (3 : Int)) (
  ldI .i64 w11 ⟨b9, 0, none⟩ fun x72_0 =>
  ldStr w11 ⟨b9, 1, none⟩ fun x72_1 =>
  ldStr w11 ⟨b9, 2, none⟩ fun x72_2 =>
  ldS w11 ⟨b9, 3, none⟩ fun x72_3p x72_3l x72_3c =>
  ldS w11 ⟨b9, 4, none⟩ fun x72_4p x72_4l x72_4c =>
  ldStr w11 ⟨b9, 5, none⟩ fun x72_5 =>
  nonNil b8 fun a73 =>
  stN w11 ((a73.add 5)) ⟨[.int .i64 x72_0, .string x72_1, .string x72_2, .slice x72_3p x72_3l x72_3c, .slice x72_4p x72_4l x72_4c, .string x72_5]⟩ 6 fun w17 =>
  J_0_1 w17) (
  condB (x40 == (6 : Int)) (
  ldStr w11 ⟨b9, 5, none⟩ fun x77 =>
  nonNil b8 fun a78 =>
  stV w11 ((a78.add 4)) (.string x77) fun w18 =>
  J_0_1 w18) (
  ldStr w11.drew ⟨b3, 2, none⟩ fun x42_0 =>
  ldStr w11.drew ⟨b3, 3, none⟩ fun x42_1 =>
  nonNil b8 fun a43 =>
  stV w11.drew a43 (.int .i64 (5 : Int)) fun w19 =>
  cellsAt w19 ⟨b3, 2, none⟩ [.string x42_0, .string x42_1] ∧
  nonNil b8 fun a44 =>
  stN w19 ((a44.add 2)) ⟨[.string x42_0, .string x42_1]⟩ 2 fun w20 =>
  ldS w20 ⟨b9, 3, none⟩ fun x46p x46l x46c =>
  ∃ I_48 : Int → World → Nat → Prop, (∃ m : Nat, I_48 (0 : Int) w20 m) ∧ ∀ (x48 : Int) (w21 : World) (m : Nat), I_48 x48 w21 m → (
  condB (decide (x48 < ((x46l : Nat) : Int))) (
  withJ (fun (w22 : World) =>
  ∃ m' : Nat, m' < m ∧ I_48 (w64 (x48 + (1 : Int))) w22 m') fun J_0_2 =>
  idxA x46p x46l x48 fun a50 =>
  ldStr w21 ((a50.add (x48.toNat * 3))) fun x51_0 =>
  ldStr w21 (((a50.add (x48.toNat * 3)).add 1)) fun x51_1 =>
  ldStr w21 (((a50.add (x48.toNat * 3)).add 2)) fun x51_2 =>
  newB w21 (.cells (zeroC Tryz.prog T_api_Attr) T_api_Attr) fun b11 w23 =>
  stN w23 ⟨b11, 0, none⟩ ⟨[.string x51_0, .string x51_1, .string x51_2]⟩ 3 fun w24 =>
  ldStr w24 ⟨b11, 0, none⟩ fun x53_0 =>
  ldStr w24 ⟨b11, 1, none⟩ fun x53_1 =>
  ldStr w24 ⟨b3, 2, none⟩ fun x55_0 =>
  ldStr w24 ⟨b3, 3, none⟩ fun x55_1 =>
  condB ((x53_0.toList == x55_0.toList) && ((x53_1.toList == x55_1.toList) && true)) (
  ldStr w24.drew ⟨b11, 2, none⟩ fun x58 =>
  nonNil b8 fun a59 =>
  stV w24.drew a59 (.int .i64 (4 : Int)) fun w25 =>
  w25.cell? ⟨b11, 2, none⟩ = some (.string x58) ∧
  nonNil b8 fun a60 =>
  stV w25 ((a60.add 4)) (.string x58) fun w26 =>
  J_0_2 w26) (
  J_0_2 w24)) (
  J_0_1 w21))))))) fun J_0 =>
  ldI .i64 w10 ⟨b3, 0, none⟩ fun x30 =>
  condB (x30 != (1 : Int)) (
  ldI .i64 w10 ⟨b2, 0, none⟩ fun x33_0 =>
  ldStr w10 ⟨b2, 1, none⟩ fun x33_1 =>
  ldStr w10 ⟨b2, 2, none⟩ fun x33_2 =>
  ldS w10 ⟨b2, 3, none⟩ fun x33_3p x33_3l x33_3c =>
  ldS w10 ⟨b2, 4, none⟩ fun x33_4p x33_4l x33_4c =>
  ldStr w10 ⟨b2, 5, none⟩ fun x33_5 =>
  ldS w10 ⟨b3, 1, none⟩ fun x35p x35l x35c =>
  callJ Tryz.prog fn_tree_At #[.agg ⟨[.int .i64 x33_0, .string x33_1, .string x33_2, .slice x33_3p x33_3l x33_3c, .slice x33_4p x33_4l x33_4c, .string x33_5]⟩, .slice x35p x35l x35c] w10 [.agg [.int .i64, .str, .str, .slice, .slice, .str], .one (.int .i64)] fun (r36_0_0 : Int) (r36_0_1 : ByteArray) (r36_0_2 : ByteArray) (r36_0_3p : Option Addr) (r36_0_3l : Nat) (r36_0_3c : Nat) (r36_0_4p : Option Addr) (r36_0_4l : Nat) (r36_0_4c : Nat) (r36_0_5 : ByteArray) (r36_1 : Int) (w27 : World) =>
  stN w27 ⟨b9, 0, none⟩ ⟨[.int .i64 r36_0_0, .string r36_0_1, .string r36_0_2, .slice r36_0_3p r36_0_3l r36_0_3c, .slice r36_0_4p r36_0_4l r36_0_4c, .string r36_0_5]⟩ 6 fun w28 =>
  J_0 w28) (
  J_0 w10)) fun J_8 =>
  ldI .i64 w6.drew ⟨b3, 0, none⟩ fun x23 =>
  ldS w6.drew ⟨b3, 1, none⟩ fun x25p x25l x25c =>
  (
  callJ Tryz.prog fn_slices_Clone_sl_int_int #[.slice x25p x25l x25c] w6.drew [.one .slice] fun (r26p : Option Addr) (r26l : Nat) (r26c : Nat) (w29 : World) =>
  w29.cell? ⟨b3, 0, none⟩ = some (.int .i64 x23) ∧
  newB w29 (.cells (zeroC Tryz.prog T_edit_Edit) T_edit_Edit) fun b8_1 w30 =>
  w30.cell? ⟨b3, 1, none⟩ = some (.slice x25p x25l x25c) ∧
  w30.cell? ⟨b3, 0, none⟩ = some (.int .i64 x23) ∧
  stN w30 ⟨b8_1, 0, none⟩ ⟨[.int .i64 x23, .slice r26p r26l r26c, .string ByteArray.empty, .string ByteArray.empty, .string ByteArray.empty, .int .i64 (0 : Int), .string ByteArray.empty, .string ByteArray.empty, .slice none 0 0, .slice none 0 0, .string ByteArray.empty]⟩ 11 fun w31 =>
  J_8 (some ⟨b8_1, 0, none⟩) w31) ∧ (
  newB w6.drew (.cells (zeroC Tryz.prog T_edit_Edit) T_edit_Edit) fun b8_2 w32 =>
  w32.cell? ⟨b3, 1, none⟩ = some (.slice x25p x25l x25c) ∧
  w32.cell? ⟨b3, 0, none⟩ = some (.int .i64 x23) ∧
  callJ Tryz.prog fn_slices_Clone_sl_int_int #[.slice x25p x25l x25c] w32 [.one .slice] fun (r26_1p : Option Addr) (r26_1l : Nat) (r26_1c : Nat) (w33 : World) =>
  w33.cell? ⟨b3, 0, none⟩ = some (.int .i64 x23) ∧
  stN w33 ⟨b8_2, 0, none⟩ ⟨[.int .i64 x23, .slice r26_1p r26_1l r26_1c, .string ByteArray.empty, .string ByteArray.empty, .string ByteArray.empty, .int .i64 (0 : Int), .string ByteArray.empty, .string ByteArray.empty, .slice none 0 0, .slice none 0 0, .string ByteArray.empty]⟩ 11 fun w34 =>
  J_8 (some ⟨b8_2, 0, none⟩) w34))
def ann_edit_Back : Ann := .s (.o) (.s (.s (.o) (.s (.o) (.c (.s (.o) (.o)) (.o)))) (.j [(8, .ptr)] (.d (.take 0 (.take 1 (.take 2 (.take 3 (.eff 4 (.take 5 (.eff 6 (.eff 7 (.done) (.none)) (.none))) (.eff 6 (.eff 4 (.take 5 (.eff 7 (.done) (.none))) (.none)) (.none)))))))) (.s (.o) (.j [] (.s (.o) (.c (.o) (.o))) (.j [] (.s (.o) (.b (.s (.o) (.c (.o) (.s (.o) (.c (.d (.take 0 (.take 1 (.eff 2 (.take 3 (.eff 4 (.done) (.none))) (.none))))) (.s (.o) (.c (.o) (.s (.o) (.c (.o) (.s (.d (.take 0 (.take 1 (.take 2 (.eff 3 (.take 4 (.eff 5 (.done) (.none))) (.none)))))) (.s (.o) (.b (.l [(48, .int .i64)] (.s (.o) (.s (.c (.o) (.o)) (.j [] (.b (.s (.o) (.s (.o) (.c (.d (.take 0 (.take 1 (.take 2 (.eff 3 (.take 4 (.eff 5 (.done) (.none))) (.none)))))) (.o))))) (.o)))))))))))))))))) (.s (.o) (.o)))))))
theorem eq_edit_Back (d0_0 : Int) (d0_1 : ByteArray) (d0_2 : ByteArray) (d0_3p : Option Addr) (d0_3l : Nat) (d0_3c : Nat) (d0_4p : Option Addr) (d0_4l : Nat) (d0_4c : Nat) (d0_5 : ByteArray) (e1_0 : Int) (e1_1p : Option Addr) (e1_1l : Nat) (e1_1c : Nat) (e1_2 : ByteArray) (e1_3 : ByteArray) (e1_4 : ByteArray) (e1_5 : Int) (e1_6 : ByteArray) (e1_7 : ByteArray) (e1_8p : Option Addr) (e1_8l : Nat) (e1_8c : Nat) (e1_9p : Option Addr) (e1_9l : Nat) (e1_9c : Nat) (e1_10 : ByteArray) (w : World) (J : Int → Option Addr → Nat → Nat → ByteArray → ByteArray → ByteArray → Int → ByteArray → ByteArray → Option Addr → Nat → Nat → Option Addr → Nat → Nat → ByteArray → Int → World → Prop) : vcFun Tryz.prog Tryz.f13 ann_edit_Back [.agg [.int .i64, .slice, .str, .str, .str, .int .i64, .str, .str, .slice, .slice, .str], .one (.int .i64)] [.agg ⟨[.int .i64 d0_0, .string d0_1, .string d0_2, .slice d0_3p d0_3l d0_3c, .slice d0_4p d0_4l d0_4c, .string d0_5]⟩, .agg ⟨[.int .i64 e1_0, .slice e1_1p e1_1l e1_1c, .string e1_2, .string e1_3, .string e1_4, .int .i64 e1_5, .string e1_6, .string e1_7, .slice e1_8p e1_8l e1_8c, .slice e1_9p e1_9l e1_9c, .string e1_10]⟩] w J = VC_edit_Back d0_0 d0_1 d0_2 d0_3p d0_3l d0_3c d0_4p d0_4l d0_4c d0_5 e1_0 e1_1p e1_1l e1_1c e1_2 e1_3 e1_4 e1_5 e1_6 e1_7 e1_8p e1_8l e1_8c e1_9p e1_9l e1_9c e1_10 w J := by kernel_rfl
theorem c_edit_Back {d0_0 : Int} {d0_1 : ByteArray} {d0_2 : ByteArray} {d0_3p : Option Addr} {d0_3l : Nat} {d0_3c : Nat} {d0_4p : Option Addr} {d0_4l : Nat} {d0_4c : Nat} {d0_5 : ByteArray} {e1_0 : Int} {e1_1p : Option Addr} {e1_1l : Nat} {e1_1c : Nat} {e1_2 : ByteArray} {e1_3 : ByteArray} {e1_4 : ByteArray} {e1_5 : Int} {e1_6 : ByteArray} {e1_7 : ByteArray} {e1_8p : Option Addr} {e1_8l : Nat} {e1_8c : Nat} {e1_9p : Option Addr} {e1_9l : Nat} {e1_9c : Nat} {e1_10 : ByteArray} {w : World} {J : Int → Option Addr → Nat → Nat → ByteArray → ByteArray → ByteArray → Int → ByteArray → ByteArray → Option Addr → Nat → Nat → Option Addr → Nat → Nat → ByteArray → Int → World → Prop} (h : VC_edit_Back d0_0 d0_1 d0_2 d0_3p d0_3l d0_3c d0_4p d0_4l d0_4c d0_5 e1_0 e1_1p e1_1l e1_1c e1_2 e1_3 e1_4 e1_5 e1_6 e1_7 e1_8p e1_8l e1_8c e1_9p e1_9l e1_9c e1_10 w J) : callJ Tryz.prog fn_edit_Back #[.agg ⟨[.int .i64 d0_0, .string d0_1, .string d0_2, .slice d0_3p d0_3l d0_3c, .slice d0_4p d0_4l d0_4c, .string d0_5]⟩, .agg ⟨[.int .i64 e1_0, .slice e1_1p e1_1l e1_1c, .string e1_2, .string e1_3, .string e1_4, .int .i64 e1_5, .string e1_6, .string e1_7, .slice e1_8p e1_8l e1_8c, .slice e1_9p e1_9l e1_9c, .string e1_10]⟩] w [.agg [.int .i64, .slice, .str, .str, .str, .int .i64, .str, .str, .slice, .slice, .str], .one (.int .i64)] J := vc_calls Tryz.func13 ann_edit_Back (Eq.mpr (eq_edit_Back d0_0 d0_1 d0_2 d0_3p d0_3l d0_3c d0_4p d0_4l d0_4c d0_5 e1_0 e1_1p e1_1l e1_1c e1_2 e1_3 e1_4 e1_5 e1_6 e1_7 e1_8p e1_8l e1_8c e1_9p e1_9l e1_9c e1_10 w J) h)

/-- lectern/edit.find -/
def VC_edit_find (d0 : Option Addr) (path1p : Option Addr) (path1l : Nat) (path1c : Nat) (w : World) (J : Option Addr → Bool → World → Prop) : Prop :=
  ∃ I_0 : Option Addr → Int → World → Nat → Prop, (∃ m : Nat, I_0 d0 (0 : Int) w m) ∧ ∀ (d0 : Option Addr) (x10 : Int) (w1 : World) (m : Nat), I_0 d0 x10 w1 m → (
  condB (decide (x10 < ((path1l : Nat) : Int))) (
  idxA path1p path1l x10 fun a12 =>
  ldI .i64 w1 ((a12.add (x10.toNat * 1))) fun x13 =>
  withJ (fun (x24 : Bool) (w2 : World) =>
  condB x24 (
  J none false w2) (
  nonNil d0 fun a26 =>
  ldS w2 ((a26.add 4)) fun x28p x28l x28c =>
  idxA x28p x28l x13 fun a30 =>
  ∃ m' : Nat, m' < m ∧ I_0 (some ((a30.add (x13.toNat * 6)))) (w64 (x10 + (1 : Int))) w2 m')) fun J_24 =>
  condB (decide (x13 < (0 : Int))) (
  J_24 true w1) (
  nonNil d0 fun a19 =>
  ldS w1 ((a19.add 4)) fun x21p x21l x21c =>
  J_24 (decide (x13 ≥ ((x21l : Nat) : Int))) w1)) (
  J d0 true w1))
def ann_edit_find : Ann := .s (.o) (.s (.s (.o) (.b (.l [(0, .ptr), (10, .int .i64)] (.s (.o) (.s (.c (.o) (.o)) (.s (.b (.s (.o) (.s (.j [(24, .bool)] (.o) (.c (.s (.o) (.o)) (.o))) (.o)))) (.o))))))) (.s (.o) (.o)))
theorem eq_edit_find (d0 : Option Addr) (path1p : Option Addr) (path1l : Nat) (path1c : Nat) (w : World) (J : Option Addr → Bool → World → Prop) : vcFun Tryz.prog Tryz.f36 ann_edit_find [.one .ptr, .one .bool] [.pointer d0, .slice path1p path1l path1c] w J = VC_edit_find d0 path1p path1l path1c w J := by kernel_rfl
theorem c_edit_find {d0 : Option Addr} {path1p : Option Addr} {path1l : Nat} {path1c : Nat} {w : World} {J : Option Addr → Bool → World → Prop} (h : VC_edit_find d0 path1p path1l path1c w J) : callJ Tryz.prog fn_edit_find #[.pointer d0, .slice path1p path1l path1c] w [.one .ptr, .one .bool] J := vc_calls Tryz.func36 ann_edit_find (Eq.mpr (eq_edit_find d0 path1p path1l path1c w J) h)

/-- lectern/edit.do -/
def VC_edit_do (d0 : Option Addr) (e1_0 : Int) (e1_1p : Option Addr) (e1_1l : Nat) (e1_1c : Nat) (e1_2 : ByteArray) (e1_3 : ByteArray) (e1_4 : ByteArray) (e1_5 : Int) (e1_6 : ByteArray) (e1_7 : ByteArray) (e1_8p : Option Addr) (e1_8l : Nat) (e1_8c : Nat) (e1_9p : Option Addr) (e1_9l : Nat) (e1_9c : Nat) (e1_10 : ByteArray) (w : World) (J : Int → World → Prop) : Prop :=
  newB w (.cells ⟨[.int .i64 e1_0, .slice e1_1p e1_1l e1_1c, .string e1_2, .string e1_3, .string e1_4, .int .i64 e1_5, .string e1_6, .string e1_7, .slice e1_8p e1_8l e1_8c, .slice e1_9p e1_9l e1_9c, .string e1_10]⟩ T_edit_Edit) fun b3 w1 =>
  withJ (fun (x9 : Bool) (w2 : World) =>
  condB x9 (
  J (1 : Int) w2) (
  ldS w2 ⟨b3, 1, none⟩ fun x20p x20l x20c =>
  condB (((x20l : Nat) : Int) == (0 : Int)) (
  J (35 : Int) w2) (
  ldS w2 ⟨b3, 1, none⟩ fun x24p x24l x24c =>
  ldS w2 ⟨b3, 1, none⟩ fun x26p x26l x26c =>
  idxA x24p x24l (w64 (((x26l : Nat) : Int) - (1 : Int))) fun a29 =>
  ldI .i64 w2 ((a29.add ((w64 (((x26l : Nat) : Int) - (1 : Int))).toNat * 1))) fun x30 =>
  ldS w2 ⟨b3, 1, none⟩ fun x34p x34l x34c =>
  ldS w2 ⟨b3, 1, none⟩ fun x36p x36l x36c =>
  slS x34p x34l x34c 1 none (some (w64 (((x36l : Nat) : Int) - (1 : Int)))) none fun q39p q39l q39c =>
  callJ Tryz.prog fn_edit_find #[.pointer d0, .slice q39p q39l q39c] w2 [.one .ptr, .one .bool] fun (r40_0 : Option Addr) (r40_1 : Bool) (w3 : World) =>
  withJ (fun (x71 : Bool) (w4 : World) =>
  condB x71 (
  J (35 : Int) w4) (
  withJ (fun (w5 : World) =>
  J (0 : Int) w5) fun J_0 =>
  ldI .i64 w4 ⟨b3, 0, none⟩ fun x73 =>
  condB (x73 == (1 : Int)) (
  nonNil r40_0 fun a86 =>
  ldS w4.drew ((a86.add 4)) fun x88p x88l x88c =>
  ldI .i64 w4.drew ⟨b3, 5, none⟩ fun x91_0 =>
  ldStr w4.drew ⟨b3, 6, none⟩ fun x91_1 =>
  ldStr w4.drew ⟨b3, 7, none⟩ fun x91_2 =>
  ldS w4.drew ⟨b3, 8, none⟩ fun x91_3p x91_3l x91_3c =>
  ldS w4.drew ⟨b3, 9, none⟩ fun x91_4p x91_4l x91_4c =>
  ldStr w4.drew ⟨b3, 10, none⟩ fun x91_5 =>
  callJ Tryz.prog fn_tree_Copy #[.agg ⟨[.int .i64 x91_0, .string x91_1, .string x91_2, .slice x91_3p x91_3l x91_3c, .slice x91_4p x91_4l x91_4c, .string x91_5]⟩] w4.drew [.agg [.int .i64, .str, .str, .slice, .slice, .str]] fun (r92_0 : Int) (r92_1 : ByteArray) (r92_2 : ByteArray) (r92_3p : Option Addr) (r92_3l : Nat) (r92_3c : Nat) (r92_4p : Option Addr) (r92_4l : Nat) (r92_4c : Nat) (r92_5 : ByteArray) (w6 : World) =>
  w6.cell? ((a86.add 4)) = some (.slice x88p x88l x88c) ∧
  Array.size (⟨[.int .i64 r92_0, .string r92_1, .string r92_2, .slice r92_3p r92_3l r92_3c, .slice r92_4p r92_4l r92_4c, .string r92_5]⟩ : Array Value) = 6 ∧
  newB w6 (.cells ⟨[.int .i64 r92_0, .string r92_1, .string r92_2, .slice r92_3p r92_3l r92_3c, .slice r92_4p r92_4l r92_4c, .string r92_5]⟩ T_api_Node) fun b93 w7 =>
  w7.cell? ((a86.add 4)) = some (.slice x88p x88l x88c) ∧
  callJ Tryz.prog fn_slices_Insert_sl_api_Node_api_Node #[.slice x88p x88l x88c, .int .i64 x30, .slice (some ⟨b93, 0, none⟩) 1 1] w7 [.one .slice] fun (r94p : Option Addr) (r94l : Nat) (r94c : Nat) (w8 : World) =>
  nonNil r40_0 fun a95 =>
  stV w8 ((a95.add 4)) (.slice r94p r94l r94c) fun w9 =>
  J_0 w9) (
  condB (x73 == (2 : Int)) (
  nonNil r40_0 fun a101 =>
  ldS w4 ((a101.add 4)) fun x103p x103l x103c =>
  callJ Tryz.prog fn_slices_Delete_sl_api_Node_api_Node #[.slice x103p x103l x103c, .int .i64 x30, .int .i64 (w64 (x30 + (1 : Int)))] w4 [.one .slice] fun (r107p : Option Addr) (r107l : Nat) (r107c : Nat) (w10 : World) =>
  nonNil r40_0 fun a108 =>
  stV w10 ((a108.add 4)) (.slice r107p r107l r107c) fun w11 =>
  J_0 w11) (
  condB (x73 == (3 : Int)) (
  nonNil r40_0 fun a113 =>
  ldS w4.drew ((a113.add 4)) fun x115p x115l x115c =>
  ldI .i64 w4.drew ⟨b3, 5, none⟩ fun x118_0 =>
  ldStr w4.drew ⟨b3, 6, none⟩ fun x118_1 =>
  ldStr w4.drew ⟨b3, 7, none⟩ fun x118_2 =>
  ldS w4.drew ⟨b3, 8, none⟩ fun x118_3p x118_3l x118_3c =>
  ldS w4.drew ⟨b3, 9, none⟩ fun x118_4p x118_4l x118_4c =>
  ldStr w4.drew ⟨b3, 10, none⟩ fun x118_5 =>
  callJ Tryz.prog fn_tree_Copy #[.agg ⟨[.int .i64 x118_0, .string x118_1, .string x118_2, .slice x118_3p x118_3l x118_3c, .slice x118_4p x118_4l x118_4c, .string x118_5]⟩] w4.drew [.agg [.int .i64, .str, .str, .slice, .slice, .str]] fun (r119_0 : Int) (r119_1 : ByteArray) (r119_2 : ByteArray) (r119_3p : Option Addr) (r119_3l : Nat) (r119_3c : Nat) (r119_4p : Option Addr) (r119_4l : Nat) (r119_4c : Nat) (r119_5 : ByteArray) (w12 : World) =>
  w12.cell? ((a113.add 4)) = some (.slice x115p x115l x115c) ∧
  idxA x115p x115l x30 fun a120 =>
  stN w12 ((a120.add (x30.toNat * 6))) ⟨[.int .i64 r119_0, .string r119_1, .string r119_2, .slice r119_3p r119_3l r119_3c, .slice r119_4p r119_4l r119_4c, .string r119_5]⟩ 6 fun w13 =>
  J_0 w13) (
  condB (x73 == (6 : Int)) (
  nonNil r40_0 fun a124 =>
  ldS w4 ((a124.add 4)) fun x126p x126l x126c =>
  idxA x126p x126l x30 fun a128 =>
  withJ (fun (x147 : Bool) (w14 : World) =>
  condB x147 (
  J (33 : Int) w14) (
  ldStr w14 ⟨b3, 4, none⟩ fun x150 =>
  stV w14 (((a128.add (x30.toNat * 6)).add 5)) (.string x150) fun w15 =>
  J_0 w15)) fun J_147 =>
  ldI .i64 w4 ((a128.add (x30.toNat * 6))) fun x132 =>
  condB (x132 != (3 : Int)) (
  ldI .i64 w4 ((a128.add (x30.toNat * 6))) fun x138 =>
  condB (x138 != (4 : Int)) (
  ldI .i64 w4 ((a128.add (x30.toNat * 6))) fun x145 =>
  J_147 (x145 != (5 : Int)) w4) (
  J_147 false w4)) (
  J_147 false w4)) (
  nonNil r40_0 fun a75 =>
  ldS w4.drew ((a75.add 4)) fun x77p x77l x77c =>
  idxA x77p x77l x30 fun a79 =>
  ldI .i64 w4.drew ⟨b3, 0, none⟩ fun x80_0 =>
  ldS w4.drew ⟨b3, 1, none⟩ fun x80_1p x80_1l x80_1c =>
  ldStr w4.drew ⟨b3, 2, none⟩ fun x80_2 =>
  ldStr w4.drew ⟨b3, 3, none⟩ fun x80_3 =>
  ldStr w4.drew ⟨b3, 4, none⟩ fun x80_4 =>
  ldI .i64 w4.drew ⟨b3, 5, none⟩ fun x80_5 =>
  ldStr w4.drew ⟨b3, 6, none⟩ fun x80_6 =>
  ldStr w4.drew ⟨b3, 7, none⟩ fun x80_7 =>
  ldS w4.drew ⟨b3, 8, none⟩ fun x80_8p x80_8l x80_8c =>
  ldS w4.drew ⟨b3, 9, none⟩ fun x80_9p x80_9l x80_9c =>
  ldStr w4.drew ⟨b3, 10, none⟩ fun x80_10 =>
  callJ Tryz.prog fn_edit_attr #[.pointer (some ((a79.add (x30.toNat * 6)))), .agg ⟨[.int .i64 x80_0, .slice x80_1p x80_1l x80_1c, .string x80_2, .string x80_3, .string x80_4, .int .i64 x80_5, .string x80_6, .string x80_7, .slice x80_8p x80_8l x80_8c, .slice x80_9p x80_9l x80_9c, .string x80_10]⟩] w4.drew [.one (.int .i64)] fun (r81 : Int) (w16 : World) =>
  J r81 w16)))))) fun J_71 =>
  condB (!r40_1) (
  J_71 true w3) (
  condB (decide (x30 < (0 : Int))) (
  J_71 true w3) (
  nonNil r40_0 fun a52 =>
  ldS w3 ((a52.add 4)) fun x54p x54l x54c =>
  condB (decide (x30 > ((x54l : Nat) : Int))) (
  J_71 true w3) (
  ldI .i64 w3 ⟨b3, 0, none⟩ fun x60 =>
  condB (x60 != (1 : Int)) (
  nonNil r40_0 fun a65 =>
  ldS w3 ((a65.add 4)) fun x67p x67l x67c =>
  J_71 (x30 == ((x67l : Nat) : Int)) w3) (
  J_71 false w3))))))) fun J_9 =>
  ldI .i64 w1 ⟨b3, 0, none⟩ fun x11 =>
  condB (decide (x11 < (1 : Int))) (
  J_9 true w1) (
  ldI .i64 w1 ⟨b3, 0, none⟩ fun x15 =>
  J_9 (decide (x15 > (6 : Int))) w1)
def ann_edit_do : Ann := .s (.o) (.s (.b (.j [(9, .bool)] (.o) (.c (.s (.o) (.o)) (.s (.o) (.c (.s (.o) (.o)) (.o)))))) (.s (.o) (.s (.o) (.s (.j [(71, .bool)] (.o) (.c (.s (.o) (.o)) (.o))) (.j [] (.s (.o) (.b (.s (.o) (.c (.d (.take 0 (.take 1 (.take 2 (.take 3 (.take 4 (.take 5 (.take 6 (.take 7 (.eff 8 (.eff 9 (.eff 10 (.take 11 (.take 12 (.eff 13 (.done) (.none)))) (.none)) (.none)) (.none))))))))))) (.s (.o) (.c (.o) (.s (.o) (.c (.d (.take 0 (.take 1 (.take 2 (.take 3 (.take 4 (.take 5 (.take 6 (.eff 7 (.take 8 (.eff 9 (.done) (.none))) (.none)))))))))) (.s (.o) (.c (.s (.o) (.s (.j [(147, .bool)] (.o) (.c (.s (.o) (.o)) (.o))) (.o))) (.s (.d (.take 0 (.take 1 (.take 2 (.take 3 (.take 4 (.take 5 (.take 6 (.eff 7 (.take 8 (.done)) (.none)))))))))) (.o)))))))))))) (.s (.o) (.o)))))))
theorem eq_edit_do (d0 : Option Addr) (e1_0 : Int) (e1_1p : Option Addr) (e1_1l : Nat) (e1_1c : Nat) (e1_2 : ByteArray) (e1_3 : ByteArray) (e1_4 : ByteArray) (e1_5 : Int) (e1_6 : ByteArray) (e1_7 : ByteArray) (e1_8p : Option Addr) (e1_8l : Nat) (e1_8c : Nat) (e1_9p : Option Addr) (e1_9l : Nat) (e1_9c : Nat) (e1_10 : ByteArray) (w : World) (J : Int → World → Prop) : vcFun Tryz.prog Tryz.f20 ann_edit_do [.one (.int .i64)] [.pointer d0, .agg ⟨[.int .i64 e1_0, .slice e1_1p e1_1l e1_1c, .string e1_2, .string e1_3, .string e1_4, .int .i64 e1_5, .string e1_6, .string e1_7, .slice e1_8p e1_8l e1_8c, .slice e1_9p e1_9l e1_9c, .string e1_10]⟩] w J = VC_edit_do d0 e1_0 e1_1p e1_1l e1_1c e1_2 e1_3 e1_4 e1_5 e1_6 e1_7 e1_8p e1_8l e1_8c e1_9p e1_9l e1_9c e1_10 w J := by kernel_rfl
theorem c_edit_do {d0 : Option Addr} {e1_0 : Int} {e1_1p : Option Addr} {e1_1l : Nat} {e1_1c : Nat} {e1_2 : ByteArray} {e1_3 : ByteArray} {e1_4 : ByteArray} {e1_5 : Int} {e1_6 : ByteArray} {e1_7 : ByteArray} {e1_8p : Option Addr} {e1_8l : Nat} {e1_8c : Nat} {e1_9p : Option Addr} {e1_9l : Nat} {e1_9c : Nat} {e1_10 : ByteArray} {w : World} {J : Int → World → Prop} (h : VC_edit_do d0 e1_0 e1_1p e1_1l e1_1c e1_2 e1_3 e1_4 e1_5 e1_6 e1_7 e1_8p e1_8l e1_8c e1_9p e1_9l e1_9c e1_10 w J) : callJ Tryz.prog fn_edit_do #[.pointer d0, .agg ⟨[.int .i64 e1_0, .slice e1_1p e1_1l e1_1c, .string e1_2, .string e1_3, .string e1_4, .int .i64 e1_5, .string e1_6, .string e1_7, .slice e1_8p e1_8l e1_8c, .slice e1_9p e1_9l e1_9c, .string e1_10]⟩] w [.one (.int .i64)] J := vc_calls Tryz.func20 ann_edit_do (Eq.mpr (eq_edit_do d0 e1_0 e1_1p e1_1l e1_1c e1_2 e1_3 e1_4 e1_5 e1_6 e1_7 e1_8p e1_8l e1_8c e1_9p e1_9l e1_9c e1_10 w J) h)

/-- lectern/edit.attr -/
def VC_edit_attr_n0 (n0 : Addr) (e1_0 : Int) (e1_1p : Option Addr) (e1_1l : Nat) (e1_1c : Nat) (e1_2 : ByteArray) (e1_3 : ByteArray) (e1_4 : ByteArray) (e1_5 : Int) (e1_6 : ByteArray) (e1_7 : ByteArray) (e1_8p : Option Addr) (e1_8l : Nat) (e1_8c : Nat) (e1_9p : Option Addr) (e1_9l : Nat) (e1_9c : Nat) (e1_10 : ByteArray) (w : World) (J : Int → World → Prop) : Prop :=
  newB w (.cells ⟨[.int .i64 e1_0, .slice e1_1p e1_1l e1_1c, .string e1_2, .string e1_3, .string e1_4, .int .i64 e1_5, .string e1_6, .string e1_7, .slice e1_8p e1_8l e1_8c, .slice e1_9p e1_9l e1_9c, .string e1_10]⟩ T_edit_Edit) fun b3 w1 =>
  ldI .i64 w1 n0 fun x10 =>
  condB (x10 != (2 : Int)) (
  J (33 : Int) w1) (
  ldS w1.drew ((n0.add 3)) fun x16p x16l x16c =>
  ldStr w1.drew ⟨b3, 2, none⟩ fun x18_0 =>
  ldStr w1.drew ⟨b3, 3, none⟩ fun x18_1 =>
  callJ Tryz.prog fn_slices_BinarySearchFunc_sl_api_Attr_api_Attr_api_Name #[.slice x16p x16l x16c, .agg ⟨[.string x18_0, .string x18_1]⟩, .func (.func 69) #[] #[]] w1.drew [.one (.int .i64), .one .bool] fun (r19_0 : Int) (r19_1 : Bool) (w2 : World) =>
  withJ (fun (w3 : World) =>
  J (0 : Int) w3) fun J_0 =>
  withJ (fun (x22 : Bool) (w4 : World) =>
  condB x22 (
  ldS w4.drew ((n0.add 3)) fun x32p x32l x32c =>
  ldStr w4.drew ⟨b3, 4, none⟩ fun x35 =>
  idxA x32p x32l r19_0 fun a36 =>
  stV w4.drew (((a36.add (r19_0.toNat * 3)).add 2)) (.string x35) fun w5 =>
  J_0 w5) (
  ldI .i64 w4 ⟨b3, 0, none⟩ fun x40 =>
  condB (x40 == (4 : Int)) (
  ldS w4.drew ((n0.add 3)) fun x46p x46l x46c =>
  ldStr w4.drew ⟨b3, 2, none⟩ fun x49_0 =>
  ldStr w4.drew ⟨b3, 3, none⟩ fun x49_1 =>
  ldStr w4.drew ⟨b3, 4, none⟩ fun x51 =>
  Array.size (⟨[.string x49_0, .string x49_1]⟩ : Array Value) = 2 ∧
  Array.size (⟨[.string x49_0, .string x49_1, .string x51]⟩ : Array Value) = 3 ∧
  newB w4.drew (.cells ⟨[.string x49_0, .string x49_1, .string x51]⟩ T_api_Attr) fun b53 w6 =>
  w6.cell? ((n0.add 3)) = some (.slice x46p x46l x46c) ∧
  callJ Tryz.prog fn_slices_Insert_sl_api_Attr_api_Attr #[.slice x46p x46l x46c, .int .i64 r19_0, .slice (some ⟨b53, 0, none⟩) 1 1] w6 [.one .slice] fun (r54p : Option Addr) (r54l : Nat) (r54c : Nat) (w7 : World) =>
  stV w7 ((n0.add 3)) (.slice r54p r54l r54c) fun w8 =>
  J_0 w8) (
  condB r19_1 (
  ldS w4 ((n0.add 3)) fun x63p x63l x63c =>
  callJ Tryz.prog fn_slices_Delete_sl_api_Attr_api_Attr #[.slice x63p x63l x63c, .int .i64 r19_0, .int .i64 (w64 (r19_0 + (1 : Int)))] w4 [.one .slice] fun (r67p : Option Addr) (r67l : Nat) (r67c : Nat) (w9 : World) =>
  stV w9 ((n0.add 3)) (.slice r67p r67l r67c) fun w10 =>
  J_0 w10) (
  J (7 : Int) w4)))) fun J_22 =>
  ldI .i64 w2 ⟨b3, 0, none⟩ fun x24 =>
  condB (x24 == (4 : Int)) (
  J_22 r19_1 w2) (
  J_22 false w2))
def ann_edit_attr_n0 : Ann := .s (.o) (.s (.s (.o) (.c (.s (.o) (.o)) (.o))) (.s (.d (.take 0 (.take 1 (.take 2 (.take 3 (.take 4 (.take 5 (.eff 6 (.take 7 (.take 8 (.take 9 (.take 10 (.take 11 (.done)))))) (.none))))))))) (.j [] (.b (.j [(22, .bool)] (.o) (.c (.d (.take 0 (.take 1 (.take 2 (.take 3 (.take 4 (.take 5 (.take 6 (.take 7 (.take 8 (.eff 9 (.done) (.none)))))))))))) (.s (.o) (.c (.d (.take 0 (.take 1 (.take 2 (.take 3 (.take 4 (.take 5 (.take 6 (.take 7 (.take 8 (.take 9 (.take 10 (.eff 11 (.eff 12 (.take 13 (.take 14 (.eff 15 (.done) (.none)))) (.none)) (.none)))))))))))))) (.s (.o) (.c (.o) (.s (.o) (.o))))))))) (.s (.o) (.o)))))
theorem eq_edit_attr_n0 (n0 : Addr) (e1_0 : Int) (e1_1p : Option Addr) (e1_1l : Nat) (e1_1c : Nat) (e1_2 : ByteArray) (e1_3 : ByteArray) (e1_4 : ByteArray) (e1_5 : Int) (e1_6 : ByteArray) (e1_7 : ByteArray) (e1_8p : Option Addr) (e1_8l : Nat) (e1_8c : Nat) (e1_9p : Option Addr) (e1_9l : Nat) (e1_9c : Nat) (e1_10 : ByteArray) (w : World) (J : Int → World → Prop) : vcFun Tryz.prog Tryz.f39 ann_edit_attr_n0 [.one (.int .i64)] [.pointer (some n0), .agg ⟨[.int .i64 e1_0, .slice e1_1p e1_1l e1_1c, .string e1_2, .string e1_3, .string e1_4, .int .i64 e1_5, .string e1_6, .string e1_7, .slice e1_8p e1_8l e1_8c, .slice e1_9p e1_9l e1_9c, .string e1_10]⟩] w J = VC_edit_attr_n0 n0 e1_0 e1_1p e1_1l e1_1c e1_2 e1_3 e1_4 e1_5 e1_6 e1_7 e1_8p e1_8l e1_8c e1_9p e1_9l e1_9c e1_10 w J := by kernel_rfl
theorem c_edit_attr_n0 {n0 : Addr} {e1_0 : Int} {e1_1p : Option Addr} {e1_1l : Nat} {e1_1c : Nat} {e1_2 : ByteArray} {e1_3 : ByteArray} {e1_4 : ByteArray} {e1_5 : Int} {e1_6 : ByteArray} {e1_7 : ByteArray} {e1_8p : Option Addr} {e1_8l : Nat} {e1_8c : Nat} {e1_9p : Option Addr} {e1_9l : Nat} {e1_9c : Nat} {e1_10 : ByteArray} {w : World} {J : Int → World → Prop} (h : VC_edit_attr_n0 n0 e1_0 e1_1p e1_1l e1_1c e1_2 e1_3 e1_4 e1_5 e1_6 e1_7 e1_8p e1_8l e1_8c e1_9p e1_9l e1_9c e1_10 w J) : callJ Tryz.prog fn_edit_attr #[.pointer (some n0), .agg ⟨[.int .i64 e1_0, .slice e1_1p e1_1l e1_1c, .string e1_2, .string e1_3, .string e1_4, .int .i64 e1_5, .string e1_6, .string e1_7, .slice e1_8p e1_8l e1_8c, .slice e1_9p e1_9l e1_9c, .string e1_10]⟩] w [.one (.int .i64)] J := vc_calls Tryz.func39 ann_edit_attr_n0 (Eq.mpr (eq_edit_attr_n0 n0 e1_0 e1_1p e1_1l e1_1c e1_2 e1_3 e1_4 e1_5 e1_6 e1_7 e1_8p e1_8l e1_8c e1_9p e1_9l e1_9c e1_10 w J) h)

end Go.Proofs.YtkgfbphdmnapdaaGreatDoor
