/- What the conditions of these functions are, reckoned by the reading; printed by program. -/
import Derived.Test.YtkgfbphdmnapdaaGreatDoorNm
import Derived.KernelRfl
set_option maxRecDepth 100000
set_option linter.unusedVariables false
namespace Go.Proofs.YtkgfbphdmnapdaaGreatDoor
open Go Go.Vc

/-- lectern/lecternlaw09.EditKeeps -/
def VC_law09_EditKeeps (d0_0 : Int) (d0_1 : ByteArray) (d0_2 : ByteArray) (d0_3p : Option Addr) (d0_3l : Nat) (d0_3c : Nat) (d0_4p : Option Addr) (d0_4l : Nat) (d0_4c : Nat) (d0_5 : ByteArray) (e1_0 : Int) (e1_1p : Option Addr) (e1_1l : Nat) (e1_1c : Nat) (e1_2 : ByteArray) (e1_3 : ByteArray) (e1_4 : ByteArray) (e1_5 : Int) (e1_6 : ByteArray) (e1_7 : ByteArray) (e1_8p : Option Addr) (e1_8l : Nat) (e1_8c : Nat) (e1_9p : Option Addr) (e1_9l : Nat) (e1_9c : Nat) (e1_10 : ByteArray) (w : World) (J : Bool → World → Prop) : Prop :=
  newB w (.cells ⟨[.int .i64 d0_0, .string d0_1, .string d0_2, .slice d0_3p d0_3l d0_3c, .slice d0_4p d0_4l d0_4c, .string d0_5]⟩ T_api_Node) fun b2 w1 =>
  newB w1 (.cells ⟨[.int .i64 e1_0, .slice e1_1p e1_1l e1_1c, .string e1_2, .string e1_3, .string e1_4, .int .i64 e1_5, .string e1_6, .string e1_7, .slice e1_8p e1_8l e1_8c, .slice e1_9p e1_9l e1_9c, .string e1_10]⟩ T_edit_Edit) fun b3 w2 =>
  callJ Tryz.prog fn_law09_awake #[] w2 [.one .bool] fun (r17 : Bool) (w3 : World) =>
  condB (!r17) (
  J false w3) (
  withJ (fun (was5 : Option Addr) (at6p : Option Addr) (at6l : Nat) (at6c : Nat) (node7 : Option Addr) (w4 : World) =>
  ldI .i64 w4 ⟨b2, 0, none⟩ fun x29_0 =>
  ldStr w4 ⟨b2, 1, none⟩ fun x29_1 =>
  ldStr w4 ⟨b2, 2, none⟩ fun x29_2 =>
  ldS w4 ⟨b2, 3, none⟩ fun x29_3p x29_3l x29_3c =>
  ldS w4 ⟨b2, 4, none⟩ fun x29_4p x29_4l x29_4c =>
  ldStr w4 ⟨b2, 5, none⟩ fun x29_5 =>
  ldI .i64 w4 ⟨b3, 0, none⟩ fun x30_0 =>
  ldS w4 ⟨b3, 1, none⟩ fun x30_1p x30_1l x30_1c =>
  ldStr w4 ⟨b3, 2, none⟩ fun x30_2 =>
  ldStr w4 ⟨b3, 3, none⟩ fun x30_3 =>
  ldStr w4 ⟨b3, 4, none⟩ fun x30_4 =>
  ldI .i64 w4 ⟨b3, 5, none⟩ fun x30_5 =>
  ldStr w4 ⟨b3, 6, none⟩ fun x30_6 =>
  ldStr w4 ⟨b3, 7, none⟩ fun x30_7 =>
  ldS w4 ⟨b3, 8, none⟩ fun x30_8p x30_8l x30_8c =>
  ldS w4 ⟨b3, 9, none⟩ fun x30_9p x30_9l x30_9c =>
  ldStr w4 ⟨b3, 10, none⟩ fun x30_10 =>
  callJ Tryz.prog fn_edit_Apply #[.agg ⟨[.int .i64 x29_0, .string x29_1, .string x29_2, .slice x29_3p x29_3l x29_3c, .slice x29_4p x29_4l x29_4c, .string x29_5]⟩, .agg ⟨[.int .i64 x30_0, .slice x30_1p x30_1l x30_1c, .string x30_2, .string x30_3, .string x30_4, .int .i64 x30_5, .string x30_6, .string x30_7, .slice x30_8p x30_8l x30_8c, .slice x30_9p x30_9l x30_9c, .string x30_10]⟩] w4 [.agg [.int .i64, .str, .str, .slice, .slice, .str], .one (.int .i64)] fun (r31_0_0 : Int) (r31_0_1 : ByteArray) (r31_0_2 : ByteArray) (r31_0_3p : Option Addr) (r31_0_3l : Nat) (r31_0_3c : Nat) (r31_0_4p : Option Addr) (r31_0_4l : Nat) (r31_0_4c : Nat) (r31_0_5 : ByteArray) (r31_1 : Int) (w5 : World) =>
  newB w5 (.cells (zeroC Tryz.prog T_api_Node) T_api_Node) fun b8 w6 =>
  stN w6 ⟨b8, 0, none⟩ ⟨[.int .i64 r31_0_0, .string r31_0_1, .string r31_0_2, .slice r31_0_3p r31_0_3l r31_0_3c, .slice r31_0_4p r31_0_4l r31_0_4c, .string r31_0_5]⟩ 6 fun w7 =>
  ldI .i64 w7 ⟨b2, 0, none⟩ fun x35_0 =>
  ldStr w7 ⟨b2, 1, none⟩ fun x35_1 =>
  ldStr w7 ⟨b2, 2, none⟩ fun x35_2 =>
  ldS w7 ⟨b2, 3, none⟩ fun x35_3p x35_3l x35_3c =>
  ldS w7 ⟨b2, 4, none⟩ fun x35_4p x35_4l x35_4c =>
  ldStr w7 ⟨b2, 5, none⟩ fun x35_5 =>
  ldI .i64 w7 ⟨b3, 0, none⟩ fun x36_0 =>
  ldS w7 ⟨b3, 1, none⟩ fun x36_1p x36_1l x36_1c =>
  ldStr w7 ⟨b3, 2, none⟩ fun x36_2 =>
  ldStr w7 ⟨b3, 3, none⟩ fun x36_3 =>
  ldStr w7 ⟨b3, 4, none⟩ fun x36_4 =>
  ldI .i64 w7 ⟨b3, 5, none⟩ fun x36_5 =>
  ldStr w7 ⟨b3, 6, none⟩ fun x36_6 =>
  ldStr w7 ⟨b3, 7, none⟩ fun x36_7 =>
  ldS w7 ⟨b3, 8, none⟩ fun x36_8p x36_8l x36_8c =>
  ldS w7 ⟨b3, 9, none⟩ fun x36_9p x36_9l x36_9c =>
  ldStr w7 ⟨b3, 10, none⟩ fun x36_10 =>
  callJ Tryz.prog fn_edit_Back #[.agg ⟨[.int .i64 x35_0, .string x35_1, .string x35_2, .slice x35_3p x35_3l x35_3c, .slice x35_4p x35_4l x35_4c, .string x35_5]⟩, .agg ⟨[.int .i64 x36_0, .slice x36_1p x36_1l x36_1c, .string x36_2, .string x36_3, .string x36_4, .int .i64 x36_5, .string x36_6, .string x36_7, .slice x36_8p x36_8l x36_8c, .slice x36_9p x36_9l x36_9c, .string x36_10]⟩] w7 [.agg [.int .i64, .slice, .str, .str, .str, .int .i64, .str, .str, .slice, .slice, .str], .one (.int .i64)] fun (r37_0_0 : Int) (r37_0_1p : Option Addr) (r37_0_1l : Nat) (r37_0_1c : Nat) (r37_0_2 : ByteArray) (r37_0_3 : ByteArray) (r37_0_4 : ByteArray) (r37_0_5 : Int) (r37_0_6 : ByteArray) (r37_0_7 : ByteArray) (r37_0_8p : Option Addr) (r37_0_8l : Nat) (r37_0_8c : Nat) (r37_0_9p : Option Addr) (r37_0_9l : Nat) (r37_0_9c : Nat) (r37_0_10 : ByteArray) (r37_1 : Int) (w8 : World) =>
  newB w8 (.cells (zeroC Tryz.prog T_edit_Edit) T_edit_Edit) fun b10 w9 =>
  stN w9 ⟨b10, 0, none⟩ ⟨[.int .i64 r37_0_0, .slice r37_0_1p r37_0_1l r37_0_1c, .string r37_0_2, .string r37_0_3, .string r37_0_4, .int .i64 r37_0_5, .string r37_0_6, .string r37_0_7, .slice r37_0_8p r37_0_8l r37_0_8c, .slice r37_0_9p r37_0_9l r37_0_9c, .string r37_0_10]⟩ 11 fun w10 =>
  ldI .i64 w10 ⟨b8, 0, none⟩ fun x40_0 =>
  ldStr w10 ⟨b8, 1, none⟩ fun x40_1 =>
  ldStr w10 ⟨b8, 2, none⟩ fun x40_2 =>
  ldS w10 ⟨b8, 3, none⟩ fun x40_3p x40_3l x40_3c =>
  ldS w10 ⟨b8, 4, none⟩ fun x40_4p x40_4l x40_4c =>
  ldStr w10 ⟨b8, 5, none⟩ fun x40_5 =>
  callJ Tryz.prog fn_law09_spoil #[.agg ⟨[.int .i64 x40_0, .string x40_1, .string x40_2, .slice x40_3p x40_3l x40_3c, .slice x40_4p x40_4l x40_4c, .string x40_5]⟩] w10 [] fun (w11 : World) =>
  ldI .i64 w11 ⟨b10, 5, none⟩ fun x43_0 =>
  ldStr w11 ⟨b10, 6, none⟩ fun x43_1 =>
  ldStr w11 ⟨b10, 7, none⟩ fun x43_2 =>
  ldS w11 ⟨b10, 8, none⟩ fun x43_3p x43_3l x43_3c =>
  ldS w11 ⟨b10, 9, none⟩ fun x43_4p x43_4l x43_4c =>
  ldStr w11 ⟨b10, 10, none⟩ fun x43_5 =>
  callJ Tryz.prog fn_law09_spoil #[.agg ⟨[.int .i64 x43_0, .string x43_1, .string x43_2, .slice x43_3p x43_3l x43_3c, .slice x43_4p x43_4l x43_4c, .string x43_5]⟩] w11 [] fun (w12 : World) =>
  ldS w12 ⟨b10, 1, none⟩ fun x46p x46l x46c =>
  ∃ I_48 : Int → World → Nat → Prop, (∃ m : Nat, I_48 (0 : Int) w12 m) ∧ ∀ (x48 : Int) (w13 : World) (m : Nat), I_48 x48 w13 m → (
  condB (decide (x48 < ((x46l : Nat) : Int))) (
  ldS w13 ⟨b10, 1, none⟩ fun x52p x52l x52c =>
  idxA x52p x52l x48 fun a54 =>
  stV w13 ((a54.add (x48.toNat * 1))) (.int .i64 (-1 : Int)) fun w14 =>
  ∃ m' : Nat, m' < m ∧ I_48 (w64 (x48 + (1 : Int))) w14 m') (
  ldI .i64 w13 ⟨b2, 0, none⟩ fun x57_0 =>
  ldStr w13 ⟨b2, 1, none⟩ fun x57_1 =>
  ldStr w13 ⟨b2, 2, none⟩ fun x57_2 =>
  ldS w13 ⟨b2, 3, none⟩ fun x57_3p x57_3l x57_3c =>
  ldS w13 ⟨b2, 4, none⟩ fun x57_4p x57_4l x57_4c =>
  ldStr w13 ⟨b2, 5, none⟩ fun x57_5 =>
  ldI .i64 w13 ⟨b3, 0, none⟩ fun x58_0 =>
  ldS w13 ⟨b3, 1, none⟩ fun x58_1p x58_1l x58_1c =>
  ldStr w13 ⟨b3, 2, none⟩ fun x58_2 =>
  ldStr w13 ⟨b3, 3, none⟩ fun x58_3 =>
  ldStr w13 ⟨b3, 4, none⟩ fun x58_4 =>
  ldI .i64 w13 ⟨b3, 5, none⟩ fun x58_5 =>
  ldStr w13 ⟨b3, 6, none⟩ fun x58_6 =>
  ldStr w13 ⟨b3, 7, none⟩ fun x58_7 =>
  ldS w13 ⟨b3, 8, none⟩ fun x58_8p x58_8l x58_8c =>
  ldS w13 ⟨b3, 9, none⟩ fun x58_9p x58_9l x58_9c =>
  ldStr w13 ⟨b3, 10, none⟩ fun x58_10 =>
  callJ Tryz.prog fn_edit_Apply #[.agg ⟨[.int .i64 x57_0, .string x57_1, .string x57_2, .slice x57_3p x57_3l x57_3c, .slice x57_4p x57_4l x57_4c, .string x57_5]⟩, .agg ⟨[.int .i64 x58_0, .slice x58_1p x58_1l x58_1c, .string x58_2, .string x58_3, .string x58_4, .int .i64 x58_5, .string x58_6, .string x58_7, .slice x58_8p x58_8l x58_8c, .slice x58_9p x58_9l x58_9c, .string x58_10]⟩] w13 [.agg [.int .i64, .str, .str, .slice, .slice, .str], .one (.int .i64)] fun (r59_0_0 : Int) (r59_0_1 : ByteArray) (r59_0_2 : ByteArray) (r59_0_3p : Option Addr) (r59_0_3l : Nat) (r59_0_3c : Nat) (r59_0_4p : Option Addr) (r59_0_4l : Nat) (r59_0_4c : Nat) (r59_0_5 : ByteArray) (r59_1 : Int) (w15 : World) =>
  newB w15 (.cells (zeroC Tryz.prog T_api_Node) T_api_Node) fun b13 w16 =>
  stN w16 ⟨b13, 0, none⟩ ⟨[.int .i64 r59_0_0, .string r59_0_1, .string r59_0_2, .slice r59_0_3p r59_0_3l r59_0_3c, .slice r59_0_4p r59_0_4l r59_0_4c, .string r59_0_5]⟩ 6 fun w17 =>
  nonNil was5 fun a63 =>
  ldI .i64 w17 a63 fun x63_0 =>
  ldStr w17 ((a63.add 1)) fun x63_1 =>
  ldStr w17 ((a63.add 2)) fun x63_2 =>
  ldS w17 ((a63.add 3)) fun x63_3p x63_3l x63_3c =>
  ldS w17 ((a63.add 4)) fun x63_4p x63_4l x63_4c =>
  ldStr w17 ((a63.add 5)) fun x63_5 =>
  ldI .i64 w17 ⟨b3, 0, none⟩ fun x65 =>
  ldStr w17 ⟨b3, 2, none⟩ fun x68_0 =>
  ldStr w17 ⟨b3, 3, none⟩ fun x68_1 =>
  ldStr w17 ⟨b3, 4, none⟩ fun x70 =>
  nonNil node7 fun a71 =>
  ldI .i64 w17 a71 fun x71_0 =>
  ldStr w17 ((a71.add 1)) fun x71_1 =>
  ldStr w17 ((a71.add 2)) fun x71_2 =>
  ldS w17 ((a71.add 3)) fun x71_3p x71_3l x71_3c =>
  ldS w17 ((a71.add 4)) fun x71_4p x71_4l x71_4c =>
  ldStr w17 ((a71.add 5)) fun x71_5 =>
  Array.size (⟨[.string x68_0, .string x68_1]⟩ : Array Value) = 2 ∧
  Array.size (⟨[.int .i64 x71_0, .string x71_1, .string x71_2, .slice x71_3p x71_3l x71_3c, .slice x71_4p x71_4l x71_4c, .string x71_5]⟩ : Array Value) = 6 ∧
  callJ Tryz.prog fn_ref09_Apply #[.agg ⟨[.int .i64 x63_0, .string x63_1, .string x63_2, .slice x63_3p x63_3l x63_3c, .slice x63_4p x63_4l x63_4c, .string x63_5]⟩, .agg ⟨[.int .i64 x65, .slice at6p at6l at6c, .string x68_0, .string x68_1, .string x70, .int .i64 x71_0, .string x71_1, .string x71_2, .slice x71_3p x71_3l x71_3c, .slice x71_4p x71_4l x71_4c, .string x71_5]⟩] w17 [.agg [.int .i64, .str, .str, .slice, .slice, .str], .one (.int .i64)] fun (r73_0_0 : Int) (r73_0_1 : ByteArray) (r73_0_2 : ByteArray) (r73_0_3p : Option Addr) (r73_0_3l : Nat) (r73_0_3c : Nat) (r73_0_4p : Option Addr) (r73_0_4l : Nat) (r73_0_4c : Nat) (r73_0_5 : ByteArray) (r73_1 : Int) (w18 : World) =>
  newB w18 (.cells (zeroC Tryz.prog T_api_Node) T_api_Node) fun b15 w19 =>
  stN w19 ⟨b15, 0, none⟩ ⟨[.int .i64 r73_0_0, .string r73_0_1, .string r73_0_2, .slice r73_0_3p r73_0_3l r73_0_3c, .slice r73_0_4p r73_0_4l r73_0_4c, .string r73_0_5]⟩ 6 fun w20 =>
  withJ (fun (x4 : Bool) (w21 : World) =>
  J x4 w21) fun J_4 =>
  condB (r31_1 == r37_1) (
  condB (r31_1 == r59_1) (
  condB (r31_1 == r73_1) (
  ldI .i64 w20 ⟨b13, 0, none⟩ fun x90_0 =>
  ldStr w20 ⟨b13, 1, none⟩ fun x90_1 =>
  ldStr w20 ⟨b13, 2, none⟩ fun x90_2 =>
  ldS w20 ⟨b13, 3, none⟩ fun x90_3p x90_3l x90_3c =>
  ldS w20 ⟨b13, 4, none⟩ fun x90_4p x90_4l x90_4c =>
  ldStr w20 ⟨b13, 5, none⟩ fun x90_5 =>
  ldI .i64 w20 ⟨b15, 0, none⟩ fun x91_0 =>
  ldStr w20 ⟨b15, 1, none⟩ fun x91_1 =>
  ldStr w20 ⟨b15, 2, none⟩ fun x91_2 =>
  ldS w20 ⟨b15, 3, none⟩ fun x91_3p x91_3l x91_3c =>
  ldS w20 ⟨b15, 4, none⟩ fun x91_4p x91_4l x91_4c =>
  ldStr w20 ⟨b15, 5, none⟩ fun x91_5 =>
  callJ Tryz.prog fn_ref05_Same #[.agg ⟨[.int .i64 x90_0, .string x90_1, .string x90_2, .slice x90_3p x90_3l x90_3c, .slice x90_4p x90_4l x90_4c, .string x90_5]⟩, .agg ⟨[.int .i64 x91_0, .string x91_1, .string x91_2, .slice x91_3p x91_3l x91_3c, .slice x91_4p x91_4l x91_4c, .string x91_5]⟩] w20 [.one .bool] fun (r92 : Bool) (w22 : World) =>
  condB r92 (
  ldI .i64 w22 ⟨b2, 0, none⟩ fun x95_0 =>
  ldStr w22 ⟨b2, 1, none⟩ fun x95_1 =>
  ldStr w22 ⟨b2, 2, none⟩ fun x95_2 =>
  ldS w22 ⟨b2, 3, none⟩ fun x95_3p x95_3l x95_3c =>
  ldS w22 ⟨b2, 4, none⟩ fun x95_4p x95_4l x95_4c =>
  ldStr w22 ⟨b2, 5, none⟩ fun x95_5 =>
  nonNil was5 fun a96 =>
  ldI .i64 w22 a96 fun x96_0 =>
  ldStr w22 ((a96.add 1)) fun x96_1 =>
  ldStr w22 ((a96.add 2)) fun x96_2 =>
  ldS w22 ((a96.add 3)) fun x96_3p x96_3l x96_3c =>
  ldS w22 ((a96.add 4)) fun x96_4p x96_4l x96_4c =>
  ldStr w22 ((a96.add 5)) fun x96_5 =>
  callJ Tryz.prog fn_ref05_Same #[.agg ⟨[.int .i64 x95_0, .string x95_1, .string x95_2, .slice x95_3p x95_3l x95_3c, .slice x95_4p x95_4l x95_4c, .string x95_5]⟩, .agg ⟨[.int .i64 x96_0, .string x96_1, .string x96_2, .slice x96_3p x96_3l x96_3c, .slice x96_4p x96_4l x96_4c, .string x96_5]⟩] w22 [.one .bool] fun (r97 : Bool) (w23 : World) =>
  condB r97 (
  ldS w23 ⟨b3, 1, none⟩ fun x101p x101l x101c =>
  callJ Tryz.prog fn_ref05_SameInts #[.slice x101p x101l x101c, .slice at6p at6l at6c] w23 [.one .bool] fun (r103 : Bool) (w24 : World) =>
  condB r103 (
  ldI .i64 w24 ⟨b3, 5, none⟩ fun x107_0 =>
  ldStr w24 ⟨b3, 6, none⟩ fun x107_1 =>
  ldStr w24 ⟨b3, 7, none⟩ fun x107_2 =>
  ldS w24 ⟨b3, 8, none⟩ fun x107_3p x107_3l x107_3c =>
  ldS w24 ⟨b3, 9, none⟩ fun x107_4p x107_4l x107_4c =>
  ldStr w24 ⟨b3, 10, none⟩ fun x107_5 =>
  nonNil node7 fun a108 =>
  ldI .i64 w24 a108 fun x108_0 =>
  ldStr w24 ((a108.add 1)) fun x108_1 =>
  ldStr w24 ((a108.add 2)) fun x108_2 =>
  ldS w24 ((a108.add 3)) fun x108_3p x108_3l x108_3c =>
  ldS w24 ((a108.add 4)) fun x108_4p x108_4l x108_4c =>
  ldStr w24 ((a108.add 5)) fun x108_5 =>
  callJ Tryz.prog fn_ref05_Same #[.agg ⟨[.int .i64 x107_0, .string x107_1, .string x107_2, .slice x107_3p x107_3l x107_3c, .slice x107_4p x107_4l x107_4c, .string x107_5]⟩, .agg ⟨[.int .i64 x108_0, .string x108_1, .string x108_2, .slice x108_3p x108_3l x108_3c, .slice x108_4p x108_4l x108_4c, .string x108_5]⟩] w24 [.one .bool] fun (r109 : Bool) (w25 : World) =>
  J_4 r109 w25) (
  J_4 false w24)) (
  J_4 false w23)) (
  J_4 false w22)) (
  J_4 false w20)) (
  J_4 false w20)) (
  J_4 false w20)))) fun J_5 =>
  ldI .i64 w3.drew ⟨b2, 0, none⟩ fun x19_0 =>
  ldStr w3.drew ⟨b2, 1, none⟩ fun x19_1 =>
  ldStr w3.drew ⟨b2, 2, none⟩ fun x19_2 =>
  ldS w3.drew ⟨b2, 3, none⟩ fun x19_3p x19_3l x19_3c =>
  ldS w3.drew ⟨b2, 4, none⟩ fun x19_4p x19_4l x19_4c =>
  ldStr w3.drew ⟨b2, 5, none⟩ fun x19_5 =>
  ldS w3.drew ⟨b3, 1, none⟩ fun x23p x23l x23c =>
  ldI .i64 w3.drew ⟨b3, 5, none⟩ fun x26_0 =>
  ldStr w3.drew ⟨b3, 6, none⟩ fun x26_1 =>
  ldStr w3.drew ⟨b3, 7, none⟩ fun x26_2 =>
  ldS w3.drew ⟨b3, 8, none⟩ fun x26_3p x26_3l x26_3c =>
  ldS w3.drew ⟨b3, 9, none⟩ fun x26_4p x26_4l x26_4c =>
  ldStr w3.drew ⟨b3, 10, none⟩ fun x26_5 =>
  (
  callJ Tryz.prog fn_ref05_Twin #[.agg ⟨[.int .i64 x19_0, .string x19_1, .string x19_2, .slice x19_3p x19_3l x19_3c, .slice x19_4p x19_4l x19_4c, .string x19_5]⟩] w3.drew [.agg [.int .i64, .str, .str, .slice, .slice, .str]] fun (r20_0 : Int) (r20_1 : ByteArray) (r20_2 : ByteArray) (r20_3p : Option Addr) (r20_3l : Nat) (r20_3c : Nat) (r20_4p : Option Addr) (r20_4l : Nat) (r20_4c : Nat) (r20_5 : ByteArray) (w26 : World) =>
  cellsAt w26 ⟨b3, 5, none⟩ [.int .i64 x26_0, .string x26_1, .string x26_2, .slice x26_3p x26_3l x26_3c, .slice x26_4p x26_4l x26_4c, .string x26_5] ∧
  w26.cell? ⟨b3, 1, none⟩ = some (.slice x23p x23l x23c) ∧
  (
  newB w26 (.cells ⟨[]⟩ T_int) fun b21 w27 =>
  cellsAt w27 ⟨b3, 5, none⟩ [.int .i64 x26_0, .string x26_1, .string x26_2, .slice x26_3p x26_3l x26_3c, .slice x26_4p x26_4l x26_4c, .string x26_5] ∧
  w27.cell? ⟨b3, 1, none⟩ = some (.slice x23p x23l x23c) ∧
  cellsAt w27 ⟨b2, 0, none⟩ [.int .i64 x19_0, .string x19_1, .string x19_2, .slice x19_3p x19_3l x19_3c, .slice x19_4p x19_4l x19_4c, .string x19_5] ∧
  (
  appJ Tryz.prog T_sl_int T_sl_int (.slice (some ⟨b21, 0, none⟩) 0 0) (.slice x23p x23l x23c) w27 fun q24p q24l q24c w28 =>
  cellsAt w28 ⟨b3, 5, none⟩ [.int .i64 x26_0, .string x26_1, .string x26_2, .slice x26_3p x26_3l x26_3c, .slice x26_4p x26_4l x26_4c, .string x26_5] ∧
  (
  callJ Tryz.prog fn_ref05_Twin #[.agg ⟨[.int .i64 x26_0, .string x26_1, .string x26_2, .slice x26_3p x26_3l x26_3c, .slice x26_4p x26_4l x26_4c, .string x26_5]⟩] w28 [.agg [.int .i64, .str, .str, .slice, .slice, .str]] fun (r27_0 : Int) (r27_1 : ByteArray) (r27_2 : ByteArray) (r27_3p : Option Addr) (r27_3l : Nat) (r27_3c : Nat) (r27_4p : Option Addr) (r27_4l : Nat) (r27_4c : Nat) (r27_5 : ByteArray) (w29 : World) =>
  (
  newB w29 (.cells (zeroC Tryz.prog T_api_Node) T_api_Node) fun b5 w30 =>
  cellsAt w30 ⟨b3, 5, none⟩ [.int .i64 x26_0, .string x26_1, .string x26_2, .slice x26_3p x26_3l x26_3c, .slice x26_4p x26_4l x26_4c, .string x26_5] ∧
  w30.cell? ⟨b3, 1, none⟩ = some (.slice x23p x23l x23c) ∧
  cellsAt w30 ⟨b2, 0, none⟩ [.int .i64 x19_0, .string x19_1, .string x19_2, .slice x19_3p x19_3l x19_3c, .slice x19_4p x19_4l x19_4c, .string x19_5] ∧
  newB w30 (.cells (zeroC Tryz.prog T_api_Node) T_api_Node) fun b7 w31 =>
  cellsAt w31 ⟨b3, 5, none⟩ [.int .i64 x26_0, .string x26_1, .string x26_2, .slice x26_3p x26_3l x26_3c, .slice x26_4p x26_4l x26_4c, .string x26_5] ∧
  w31.cell? ⟨b3, 1, none⟩ = some (.slice x23p x23l x23c) ∧
  cellsAt w31 ⟨b2, 0, none⟩ [.int .i64 x19_0, .string x19_1, .string x19_2, .slice x19_3p x19_3l x19_3c, .slice x19_4p x19_4l x19_4c, .string x19_5] ∧
  stN w31 ⟨b5, 0, none⟩ ⟨[.int .i64 r20_0, .string r20_1, .string r20_2, .slice r20_3p r20_3l r20_3c, .slice r20_4p r20_4l r20_4c, .string r20_5]⟩ 6 fun w32 =>
  stN w32 ⟨b7, 0, none⟩ ⟨[.int .i64 r27_0, .string r27_1, .string r27_2, .slice r27_3p r27_3l r27_3c, .slice r27_4p r27_4l r27_4c, .string r27_5]⟩ 6 fun w33 =>
  J_5 (some ⟨b5, 0, none⟩) q24p q24l q24c (some ⟨b7, 0, none⟩) w33) ∧ (
  newB w29 (.cells (zeroC Tryz.prog T_api_Node) T_api_Node) fun b7_1 w34 =>
  cellsAt w34 ⟨b3, 5, none⟩ [.int .i64 x26_0, .string x26_1, .string x26_2, .slice x26_3p x26_3l x26_3c, .slice x26_4p x26_4l x26_4c, .string x26_5] ∧
  w34.cell? ⟨b3, 1, none⟩ = some (.slice x23p x23l x23c) ∧
  cellsAt w34 ⟨b2, 0, none⟩ [.int .i64 x19_0, .string x19_1, .string x19_2, .slice x19_3p x19_3l x19_3c, .slice x19_4p x19_4l x19_4c, .string x19_5] ∧
  newB w34 (.cells (zeroC Tryz.prog T_api_Node) T_api_Node) fun b5_1 w35 =>
  cellsAt w35 ⟨b3, 5, none⟩ [.int .i64 x26_0, .string x26_1, .string x26_2, .slice x26_3p x26_3l x26_3c, .slice x26_4p x26_4l x26_4c, .string x26_5] ∧
  w35.cell? ⟨b3, 1, none⟩ = some (.slice x23p x23l x23c) ∧
  cellsAt w35 ⟨b2, 0, none⟩ [.int .i64 x19_0, .string x19_1, .string x19_2, .slice x19_3p x19_3l x19_3c, .slice x19_4p x19_4l x19_4c, .string x19_5] ∧
  stN w35 ⟨b5_1, 0, none⟩ ⟨[.int .i64 r20_0, .string r20_1, .string r20_2, .slice r20_3p r20_3l r20_3c, .slice r20_4p r20_4l r20_4c, .string r20_5]⟩ 6 fun w36 =>
  stN w36 ⟨b7_1, 0, none⟩ ⟨[.int .i64 r27_0, .string r27_1, .string r27_2, .slice r27_3p r27_3l r27_3c, .slice r27_4p r27_4l r27_4c, .string r27_5]⟩ 6 fun w37 =>
  J_5 (some ⟨b5_1, 0, none⟩) q24p q24l q24c (some ⟨b7_1, 0, none⟩) w37)) ∧ (
  (
  newB w28 (.cells (zeroC Tryz.prog T_api_Node) T_api_Node) fun b5_2 w38 =>
  cellsAt w38 ⟨b3, 5, none⟩ [.int .i64 x26_0, .string x26_1, .string x26_2, .slice x26_3p x26_3l x26_3c, .slice x26_4p x26_4l x26_4c, .string x26_5] ∧
  w38.cell? ⟨b3, 1, none⟩ = some (.slice x23p x23l x23c) ∧
  cellsAt w38 ⟨b2, 0, none⟩ [.int .i64 x19_0, .string x19_1, .string x19_2, .slice x19_3p x19_3l x19_3c, .slice x19_4p x19_4l x19_4c, .string x19_5] ∧
  (
  callJ Tryz.prog fn_ref05_Twin #[.agg ⟨[.int .i64 x26_0, .string x26_1, .string x26_2, .slice x26_3p x26_3l x26_3c, .slice x26_4p x26_4l x26_4c, .string x26_5]⟩] w38 [.agg [.int .i64, .str, .str, .slice, .slice, .str]] fun (r27_1_0 : Int) (r27_1_1 : ByteArray) (r27_1_2 : ByteArray) (r27_1_3p : Option Addr) (r27_1_3l : Nat) (r27_1_3c : Nat) (r27_1_4p : Option Addr) (r27_1_4l : Nat) (r27_1_4c : Nat) (r27_1_5 : ByteArray) (w39 : World) =>
  newB w39 (.cells (zeroC Tryz.prog T_api_Node) T_api_Node) fun b7_2 w40 =>
  cellsAt w40 ⟨b3, 5, none⟩ [.int .i64 x26_0, .string x26_1, .string x26_2, .slice x26_3p x26_3l x26_3c, .slice x26_4p x26_4l x26_4c, .string x26_5] ∧
  w40.cell? ⟨b3, 1, none⟩ = some (.slice x23p x23l x23c) ∧
  cellsAt w40 ⟨b2, 0, none⟩ [.int .i64 x19_0, .string x19_1, .string x19_2, .slice x19_3p x19_3l x19_3c, .slice x19_4p x19_4l x19_4c, .string x19_5] ∧
  stN w40 ⟨b5_2, 0, none⟩ ⟨[.int .i64 r20_0, .string r20_1, .string r20_2, .slice r20_3p r20_3l r20_3c, .slice r20_4p r20_4l r20_4c, .string r20_5]⟩ 6 fun w41 =>
  stN w41 ⟨b7_2, 0, none⟩ ⟨[.int .i64 r27_1_0, .string r27_1_1, .string r27_1_2, .slice r27_1_3p r27_1_3l r27_1_3c, .slice r27_1_4p r27_1_4l r27_1_4c, .string r27_1_5]⟩ 6 fun w42 =>
  J_5 (some ⟨b5_2, 0, none⟩) q24p q24l q24c (some ⟨b7_2, 0, none⟩) w42) ∧ (
  newB w38 (.cells (zeroC Tryz.prog T_api_Node) T_api_Node) fun b7_3 w43 =>
  cellsAt w43 ⟨b3, 5, none⟩ [.int .i64 x26_0, .string x26_1, .string x26_2, .slice x26_3p x26_3l x26_3c, .slice x26_4p x26_4l x26_4c, .string x26_5] ∧
  w43.cell? ⟨b3, 1, none⟩ = some (.slice x23p x23l x23c) ∧
  cellsAt w43 ⟨b2, 0, none⟩ [.int .i64 x19_0, .string x19_1, .string x19_2, .slice x19_3p x19_3l x19_3c, .slice x19_4p x19_4l x19_4c, .string x19_5] ∧
  callJ Tryz.prog fn_ref05_Twin #[.agg ⟨[.int .i64 x26_0, .string x26_1, .string x26_2, .slice x26_3p x26_3l x26_3c, .slice x26_4p x26_4l x26_4c, .string x26_5]⟩] w43 [.agg [.int .i64, .str, .str, .slice, .slice, .str]] fun (r27_2_0 : Int) (r27_2_1 : ByteArray) (r27_2_2 : ByteArray) (r27_2_3p : Option Addr) (r27_2_3l : Nat) (r27_2_3c : Nat) (r27_2_4p : Option Addr) (r27_2_4l : Nat) (r27_2_4c : Nat) (r27_2_5 : ByteArray) (w44 : World) =>
  stN w44 ⟨b5_2, 0, none⟩ ⟨[.int .i64 r20_0, .string r20_1, .string r20_2, .slice r20_3p r20_3l r20_3c, .slice r20_4p r20_4l r20_4c, .string r20_5]⟩ 6 fun w45 =>
  stN w45 ⟨b7_3, 0, none⟩ ⟨[.int .i64 r27_2_0, .string r27_2_1, .string r27_2_2, .slice r27_2_3p r27_2_3l r27_2_3c, .slice r27_2_4p r27_2_4l r27_2_4c, .string r27_2_5]⟩ 6 fun w46 =>
  J_5 (some ⟨b5_2, 0, none⟩) q24p q24l q24c (some ⟨b7_3, 0, none⟩) w46)) ∧ (
  newB w28 (.cells (zeroC Tryz.prog T_api_Node) T_api_Node) fun b7_4 w47 =>
  cellsAt w47 ⟨b3, 5, none⟩ [.int .i64 x26_0, .string x26_1, .string x26_2, .slice x26_3p x26_3l x26_3c, .slice x26_4p x26_4l x26_4c, .string x26_5] ∧
  w47.cell? ⟨b3, 1, none⟩ = some (.slice x23p x23l x23c) ∧
  cellsAt w47 ⟨b2, 0, none⟩ [.int .i64 x19_0, .string x19_1, .string x19_2, .slice x19_3p x19_3l x19_3c, .slice x19_4p x19_4l x19_4c, .string x19_5] ∧
  (
  callJ Tryz.prog fn_ref05_Twin #[.agg ⟨[.int .i64 x26_0, .string x26_1, .string x26_2, .slice x26_3p x26_3l x26_3c, .slice x26_4p x26_4l x26_4c, .string x26_5]⟩] w47 [.agg [.int .i64, .str, .str, .slice, .slice, .str]] fun (r27_3_0 : Int) (r27_3_1 : ByteArray) (r27_3_2 : ByteArray) (r27_3_3p : Option Addr) (r27_3_3l : Nat) (r27_3_3c : Nat) (r27_3_4p : Option Addr) (r27_3_4l : Nat) (r27_3_4c : Nat) (r27_3_5 : ByteArray) (w48 : World) =>
  newB w48 (.cells (zeroC Tryz.prog T_api_Node) T_api_Node) fun b5_3 w49 =>
  cellsAt w49 ⟨b3, 5, none⟩ [.int .i64 x26_0, .string x26_1, .string x26_2, .slice x26_3p x26_3l x26_3c, .slice x26_4p x26_4l x26_4c, .string x26_5] ∧
  w49.cell? ⟨b3, 1, none⟩ = some (.slice x23p x23l x23c) ∧
  cellsAt w49 ⟨b2, 0, none⟩ [.int .i64 x19_0, .string x19_1, .string x19_2, .slice x19_3p x19_3l x19_3c, .slice x19_4p x19_4l x19_4c, .string x19_5] ∧
  stN w49 ⟨b5_3, 0, none⟩ ⟨[.int .i64 r20_0, .string r20_1, .string r20_2, .slice r20_3p r20_3l r20_3c, .slice r20_4p r20_4l r20_4c, .string r20_5]⟩ 6 fun w50 =>
  stN w50 ⟨b7_4, 0, none⟩ ⟨[.int .i64 r27_3_0, .string r27_3_1, .string r27_3_2, .slice r27_3_3p r27_3_3l r27_3_3c, .slice r27_3_4p r27_3_4l r27_3_4c, .string r27_3_5]⟩ 6 fun w51 =>
  J_5 (some ⟨b5_3, 0, none⟩) q24p q24l q24c (some ⟨b7_4, 0, none⟩) w51) ∧ (
  newB w47 (.cells (zeroC Tryz.prog T_api_Node) T_api_Node) fun b5_4 w52 =>
  cellsAt w52 ⟨b3, 5, none⟩ [.int .i64 x26_0, .string x26_1, .string x26_2, .slice x26_3p x26_3l x26_3c, .slice x26_4p x26_4l x26_4c, .string x26_5] ∧
  w52.cell? ⟨b3, 1, none⟩ = some (.slice x23p x23l x23c) ∧
  cellsAt w52 ⟨b2, 0, none⟩ [.int .i64 x19_0, .string x19_1, .string x19_2, .slice x19_3p x19_3l x19_3c, .slice x19_4p x19_4l x19_4c, .string x19_5] ∧
  callJ Tryz.prog fn_ref05_Twin #[.agg ⟨[.int .i64 x26_0, .string x26_1, .string x26_2, .slice x26_3p x26_3l x26_3c, .slice x26_4p x26_4l x26_4c, .string x26_5]⟩] w52 [.agg [.int .i64, .str, .str, .slice, .slice, .str]] fun (r27_4_0 : Int) (r27_4_1 : ByteArray) (r27_4_2 : ByteArray) (r27_4_3p : Option Addr) (r27_4_3l : Nat) (r27_4_3c : Nat) (r27_4_4p : Option Addr) (r27_4_4l : Nat) (r27_4_4c : Nat) (r27_4_5 : ByteArray) (w53 : World) =>
  stN w53 ⟨b5_4, 0, none⟩ ⟨[.int .i64 r20_0, .string r20_1, .string r20_2, .slice r20_3p r20_3l r20_3c, .slice r20_4p r20_4l r20_4c, .string r20_5]⟩ 6 fun w54 =>
  stN w54 ⟨b7_4, 0, none⟩ ⟨[.int .i64 r27_4_0, .string r27_4_1, .string r27_4_2, .slice r27_4_3p r27_4_3l r27_4_3c, .slice r27_4_4p r27_4_4l r27_4_4c, .string r27_4_5]⟩ 6 fun w55 =>
  J_5 (some ⟨b5_4, 0, none⟩) q24p q24l q24c (some ⟨b7_4, 0, none⟩) w55)))) ∧ (
  (
  newB w27 (.cells (zeroC Tryz.prog T_api_Node) T_api_Node) fun b5_5 w56 =>
  cellsAt w56 ⟨b3, 5, none⟩ [.int .i64 x26_0, .string x26_1, .string x26_2, .slice x26_3p x26_3l x26_3c, .slice x26_4p x26_4l x26_4c, .string x26_5] ∧
  w56.cell? ⟨b3, 1, none⟩ = some (.slice x23p x23l x23c) ∧
  cellsAt w56 ⟨b2, 0, none⟩ [.int .i64 x19_0, .string x19_1, .string x19_2, .slice x19_3p x19_3l x19_3c, .slice x19_4p x19_4l x19_4c, .string x19_5] ∧
  (
  appJ Tryz.prog T_sl_int T_sl_int (.slice (some ⟨b21, 0, none⟩) 0 0) (.slice x23p x23l x23c) w56 fun q24_1p q24_1l q24_1c w57 =>
  cellsAt w57 ⟨b3, 5, none⟩ [.int .i64 x26_0, .string x26_1, .string x26_2, .slice x26_3p x26_3l x26_3c, .slice x26_4p x26_4l x26_4c, .string x26_5] ∧
  (
  callJ Tryz.prog fn_ref05_Twin #[.agg ⟨[.int .i64 x26_0, .string x26_1, .string x26_2, .slice x26_3p x26_3l x26_3c, .slice x26_4p x26_4l x26_4c, .string x26_5]⟩] w57 [.agg [.int .i64, .str, .str, .slice, .slice, .str]] fun (r27_5_0 : Int) (r27_5_1 : ByteArray) (r27_5_2 : ByteArray) (r27_5_3p : Option Addr) (r27_5_3l : Nat) (r27_5_3c : Nat) (r27_5_4p : Option Addr) (r27_5_4l : Nat) (r27_5_4c : Nat) (r27_5_5 : ByteArray) (w58 : World) =>
  newB w58 (.cells (zeroC Tryz.prog T_api_Node) T_api_Node) fun b7_5 w59 =>
  cellsAt w59 ⟨b3, 5, none⟩ [.int .i64 x26_0, .string x26_1, .string x26_2, .slice x26_3p x26_3l x26_3c, .slice x26_4p x26_4l x26_4c, .string x26_5] ∧
  w59.cell? ⟨b3, 1, none⟩ = some (.slice x23p x23l x23c) ∧
  cellsAt w59 ⟨b2, 0, none⟩ [.int .i64 x19_0, .string x19_1, .string x19_2, .slice x19_3p x19_3l x19_3c, .slice x19_4p x19_4l x19_4c, .string x19_5] ∧
  stN w59 ⟨b5_5, 0, none⟩ ⟨[.int .i64 r20_0, .string r20_1, .string r20_2, .slice r20_3p r20_3l r20_3c, .slice r20_4p r20_4l r20_4c, .string r20_5]⟩ 6 fun w60 =>
  stN w60 ⟨b7_5, 0, none⟩ ⟨[.int .i64 r27_5_0, .string r27_5_1, .string r27_5_2, .slice r27_5_3p r27_5_3l r27_5_3c, .slice r27_5_4p r27_5_4l r27_5_4c, .string r27_5_5]⟩ 6 fun w61 =>
  J_5 (some ⟨b5_5, 0, none⟩) q24_1p q24_1l q24_1c (some ⟨b7_5, 0, none⟩) w61) ∧ (
  newB w57 (.cells (zeroC Tryz.prog T_api_Node) T_api_Node) fun b7_6 w62 =>
  cellsAt w62 ⟨b3, 5, none⟩ [.int .i64 x26_0, .string x26_1, .string x26_2, .slice x26_3p x26_3l x26_3c, .slice x26_4p x26_4l x26_4c, .string x26_5] ∧
  w62.cell? ⟨b3, 1, none⟩ = some (.slice x23p x23l x23c) ∧
  cellsAt w62 ⟨b2, 0, none⟩ [.int .i64 x19_0, .string x19_1, .string x19_2, .slice x19_3p x19_3l x19_3c, .slice x19_4p x19_4l x19_4c, .string x19_5] ∧
  callJ Tryz.prog fn_ref05_Twin #[.agg ⟨[.int .i64 x26_0, .string x26_1, .string x26_2, .slice x26_3p x26_3l x26_3c, .slice x26_4p x26_4l x26_4c, .string x26_5]⟩] w62 [.agg [.int .i64, .str, .str, .slice, .slice, .str]] fun (r27_6_0 : Int) (r27_6_1 : ByteArray) (r27_6_2 : ByteArray) (r27_6_3p : Option Addr) (r27_6_3l : Nat) (r27_6_3c : Nat) (r27_6_4p : Option Addr) (r27_6_4l : Nat) (r27_6_4c : Nat) (r27_6_5 : ByteArray) (w63 : World) =>
  stN w63 ⟨b5_5, 0, none⟩ ⟨[.int .i64 r20_0, .string r20_1, .string r20_2, .slice r20_3p r20_3l r20_3c, .slice r20_4p r20_4l r20_4c, .string r20_5]⟩ 6 fun w64 =>
  stN w64 ⟨b7_6, 0, none⟩ ⟨[.int .i64 r27_6_0, .string r27_6_1, .string r27_6_2, .slice r27_6_3p r27_6_3l r27_6_3c, .slice r27_6_4p r27_6_4l r27_6_4c, .string r27_6_5]⟩ 6 fun w65 =>
  J_5 (some ⟨b5_5, 0, none⟩) q24_1p q24_1l q24_1c (some ⟨b7_6, 0, none⟩) w65)) ∧ (
  newB w56 (.cells (zeroC Tryz.prog T_api_Node) T_api_Node) fun b7_7 w66 =>
  cellsAt w66 ⟨b3, 5, none⟩ [.int .i64 x26_0, .string x26_1, .string x26_2, .slice x26_3p x26_3l x26_3c, .slice x26_4p x26_4l x26_4c, .string x26_5] ∧
  w66.cell? ⟨b3, 1, none⟩ = some (.slice x23p x23l x23c) ∧
  cellsAt w66 ⟨b2, 0, none⟩ [.int .i64 x19_0, .string x19_1, .string x19_2, .slice x19_3p x19_3l x19_3c, .slice x19_4p x19_4l x19_4c, .string x19_5] ∧
  appJ Tryz.prog T_sl_int T_sl_int (.slice (some ⟨b21, 0, none⟩) 0 0) (.slice x23p x23l x23c) w66 fun q24_2p q24_2l q24_2c w67 =>
  cellsAt w67 ⟨b3, 5, none⟩ [.int .i64 x26_0, .string x26_1, .string x26_2, .slice x26_3p x26_3l x26_3c, .slice x26_4p x26_4l x26_4c, .string x26_5] ∧
  callJ Tryz.prog fn_ref05_Twin #[.agg ⟨[.int .i64 x26_0, .string x26_1, .string x26_2, .slice x26_3p x26_3l x26_3c, .slice x26_4p x26_4l x26_4c, .string x26_5]⟩] w67 [.agg [.int .i64, .str, .str, .slice, .slice, .str]] fun (r27_7_0 : Int) (r27_7_1 : ByteArray) (r27_7_2 : ByteArray) (r27_7_3p : Option Addr) (r27_7_3l : Nat) (r27_7_3c : Nat) (r27_7_4p : Option Addr) (r27_7_4l : Nat) (r27_7_4c : Nat) (r27_7_5 : ByteArray) (w68 : World) =>
  stN w68 ⟨b5_5, 0, none⟩ ⟨[.int .i64 r20_0, .string r20_1, .string r20_2, .slice r20_3p r20_3l r20_3c, .slice r20_4p r20_4l r20_4c, .string r20_5]⟩ 6 fun w69 =>
  stN w69 ⟨b7_7, 0, none⟩ ⟨[.int .i64 r27_7_0, .string r27_7_1, .string r27_7_2, .slice r27_7_3p r27_7_3l r27_7_3c, .slice r27_7_4p r27_7_4l r27_7_4c, .string r27_7_5]⟩ 6 fun w70 =>
  J_5 (some ⟨b5_5, 0, none⟩) q24_2p q24_2l q24_2c (some ⟨b7_7, 0, none⟩) w70)) ∧ (
  newB w27 (.cells (zeroC Tryz.prog T_api_Node) T_api_Node) fun b7_8 w71 =>
  cellsAt w71 ⟨b3, 5, none⟩ [.int .i64 x26_0, .string x26_1, .string x26_2, .slice x26_3p x26_3l x26_3c, .slice x26_4p x26_4l x26_4c, .string x26_5] ∧
  w71.cell? ⟨b3, 1, none⟩ = some (.slice x23p x23l x23c) ∧
  cellsAt w71 ⟨b2, 0, none⟩ [.int .i64 x19_0, .string x19_1, .string x19_2, .slice x19_3p x19_3l x19_3c, .slice x19_4p x19_4l x19_4c, .string x19_5] ∧
  (
  appJ Tryz.prog T_sl_int T_sl_int (.slice (some ⟨b21, 0, none⟩) 0 0) (.slice x23p x23l x23c) w71 fun q24_3p q24_3l q24_3c w72 =>
  cellsAt w72 ⟨b3, 5, none⟩ [.int .i64 x26_0, .string x26_1, .string x26_2, .slice x26_3p x26_3l x26_3c, .slice x26_4p x26_4l x26_4c, .string x26_5] ∧
  (
  callJ Tryz.prog fn_ref05_Twin #[.agg ⟨[.int .i64 x26_0, .string x26_1, .string x26_2, .slice x26_3p x26_3l x26_3c, .slice x26_4p x26_4l x26_4c, .string x26_5]⟩] w72 [.agg [.int .i64, .str, .str, .slice, .slice, .str]] fun (r27_8_0 : Int) (r27_8_1 : ByteArray) (r27_8_2 : ByteArray) (r27_8_3p : Option Addr) (r27_8_3l : Nat) (r27_8_3c : Nat) (r27_8_4p : Option Addr) (r27_8_4l : Nat) (r27_8_4c : Nat) (r27_8_5 : ByteArray) (w73 : World) =>
  newB w73 (.cells (zeroC Tryz.prog T_api_Node) T_api_Node) fun b5_6 w74 =>
  cellsAt w74 ⟨b3, 5, none⟩ [.int .i64 x26_0, .string x26_1, .string x26_2, .slice x26_3p x26_3l x26_3c, .slice x26_4p x26_4l x26_4c, .string x26_5] ∧
  w74.cell? ⟨b3, 1, none⟩ = some (.slice x23p x23l x23c) ∧
  cellsAt w74 ⟨b2, 0, none⟩ [.int .i64 x19_0, .string x19_1, .string x19_2, .slice x19_3p x19_3l x19_3c, .slice x19_4p x19_4l x19_4c, .string x19_5] ∧
  stN w74 ⟨b5_6, 0, none⟩ ⟨[.int .i64 r20_0, .string r20_1, .string r20_2, .slice r20_3p r20_3l r20_3c, .slice r20_4p r20_4l r20_4c, .string r20_5]⟩ 6 fun w75 =>
  stN w75 ⟨b7_8, 0, none⟩ ⟨[.int .i64 r27_8_0, .string r27_8_1, .string r27_8_2, .slice r27_8_3p r27_8_3l r27_8_3c, .slice r27_8_4p r27_8_4l r27_8_4c, .string r27_8_5]⟩ 6 fun w76 =>
  J_5 (some ⟨b5_6, 0, none⟩) q24_3p q24_3l q24_3c (some ⟨b7_8, 0, none⟩) w76) ∧ (
  newB w72 (.cells (zeroC Tryz.prog T_api_Node) T_api_Node) fun b5_7 w77 =>
  cellsAt w77 ⟨b3, 5, none⟩ [.int .i64 x26_0, .string x26_1, .string x26_2, .slice x26_3p x26_3l x26_3c, .slice x26_4p x26_4l x26_4c, .string x26_5] ∧
  w77.cell? ⟨b3, 1, none⟩ = some (.slice x23p x23l x23c) ∧
  cellsAt w77 ⟨b2, 0, none⟩ [.int .i64 x19_0, .string x19_1, .string x19_2, .slice x19_3p x19_3l x19_3c, .slice x19_4p x19_4l x19_4c, .string x19_5] ∧
  callJ Tryz.prog fn_ref05_Twin #[.agg ⟨[.int .i64 x26_0, .string x26_1, .string x26_2, .slice x26_3p x26_3l x26_3c, .slice x26_4p x26_4l x26_4c, .string x26_5]⟩] w77 [.agg [.int .i64, .str, .str, .slice, .slice, .str]] fun (r27_9_0 : Int) (r27_9_1 : ByteArray) (r27_9_2 : ByteArray) (r27_9_3p : Option Addr) (r27_9_3l : Nat) (r27_9_3c : Nat) (r27_9_4p : Option Addr) (r27_9_4l : Nat) (r27_9_4c : Nat) (r27_9_5 : ByteArray) (w78 : World) =>
  stN w78 ⟨b5_7, 0, none⟩ ⟨[.int .i64 r20_0, .string r20_1, .string r20_2, .slice r20_3p r20_3l r20_3c, .slice r20_4p r20_4l r20_4c, .string r20_5]⟩ 6 fun w79 =>
  stN w79 ⟨b7_8, 0, none⟩ ⟨[.int .i64 r27_9_0, .string r27_9_1, .string r27_9_2, .slice r27_9_3p r27_9_3l r27_9_3c, .slice r27_9_4p r27_9_4l r27_9_4c, .string r27_9_5]⟩ 6 fun w80 =>
  J_5 (some ⟨b5_7, 0, none⟩) q24_3p q24_3l q24_3c (some ⟨b7_8, 0, none⟩) w80)) ∧ (
  newB w71 (.cells (zeroC Tryz.prog T_api_Node) T_api_Node) fun b5_8 w81 =>
  cellsAt w81 ⟨b3, 5, none⟩ [.int .i64 x26_0, .string x26_1, .string x26_2, .slice x26_3p x26_3l x26_3c, .slice x26_4p x26_4l x26_4c, .string x26_5] ∧
  w81.cell? ⟨b3, 1, none⟩ = some (.slice x23p x23l x23c) ∧
  cellsAt w81 ⟨b2, 0, none⟩ [.int .i64 x19_0, .string x19_1, .string x19_2, .slice x19_3p x19_3l x19_3c, .slice x19_4p x19_4l x19_4c, .string x19_5] ∧
  appJ Tryz.prog T_sl_int T_sl_int (.slice (some ⟨b21, 0, none⟩) 0 0) (.slice x23p x23l x23c) w81 fun q24_4p q24_4l q24_4c w82 =>
  cellsAt w82 ⟨b3, 5, none⟩ [.int .i64 x26_0, .string x26_1, .string x26_2, .slice x26_3p x26_3l x26_3c, .slice x26_4p x26_4l x26_4c, .string x26_5] ∧
  callJ Tryz.prog fn_ref05_Twin #[.agg ⟨[.int .i64 x26_0, .string x26_1, .string x26_2, .slice x26_3p x26_3l x26_3c, .slice x26_4p x26_4l x26_4c, .string x26_5]⟩] w82 [.agg [.int .i64, .str, .str, .slice, .slice, .str]] fun (r27_10_0 : Int) (r27_10_1 : ByteArray) (r27_10_2 : ByteArray) (r27_10_3p : Option Addr) (r27_10_3l : Nat) (r27_10_3c : Nat) (r27_10_4p : Option Addr) (r27_10_4l : Nat) (r27_10_4c : Nat) (r27_10_5 : ByteArray) (w83 : World) =>
  stN w83 ⟨b5_8, 0, none⟩ ⟨[.int .i64 r20_0, .string r20_1, .string r20_2, .slice r20_3p r20_3l r20_3c, .slice r20_4p r20_4l r20_4c, .string r20_5]⟩ 6 fun w84 =>
  stN w84 ⟨b7_8, 0, none⟩ ⟨[.int .i64 r27_10_0, .string r27_10_1, .string r27_10_2, .slice r27_10_3p r27_10_3l r27_10_3c, .slice r27_10_4p r27_10_4l r27_10_4c, .string r27_10_5]⟩ 6 fun w85 =>
  J_5 (some ⟨b5_8, 0, none⟩) q24_4p q24_4l q24_4c (some ⟨b7_8, 0, none⟩) w85)))) ∧ (
  (
  newB w26 (.cells (zeroC Tryz.prog T_api_Node) T_api_Node) fun b5_9 w86 =>
  cellsAt w86 ⟨b3, 5, none⟩ [.int .i64 x26_0, .string x26_1, .string x26_2, .slice x26_3p x26_3l x26_3c, .slice x26_4p x26_4l x26_4c, .string x26_5] ∧
  w86.cell? ⟨b3, 1, none⟩ = some (.slice x23p x23l x23c) ∧
  cellsAt w86 ⟨b2, 0, none⟩ [.int .i64 x19_0, .string x19_1, .string x19_2, .slice x19_3p x19_3l x19_3c, .slice x19_4p x19_4l x19_4c, .string x19_5] ∧
  (
  newB w86 (.cells ⟨[]⟩ T_int) fun b21_1 w87 =>
  cellsAt w87 ⟨b3, 5, none⟩ [.int .i64 x26_0, .string x26_1, .string x26_2, .slice x26_3p x26_3l x26_3c, .slice x26_4p x26_4l x26_4c, .string x26_5] ∧
  w87.cell? ⟨b3, 1, none⟩ = some (.slice x23p x23l x23c) ∧
  cellsAt w87 ⟨b2, 0, none⟩ [.int .i64 x19_0, .string x19_1, .string x19_2, .slice x19_3p x19_3l x19_3c, .slice x19_4p x19_4l x19_4c, .string x19_5] ∧
  (
  appJ Tryz.prog T_sl_int T_sl_int (.slice (some ⟨b21_1, 0, none⟩) 0 0) (.slice x23p x23l x23c) w87 fun q24_5p q24_5l q24_5c w88 =>
  cellsAt w88 ⟨b3, 5, none⟩ [.int .i64 x26_0, .string x26_1, .string x26_2, .slice x26_3p x26_3l x26_3c, .slice x26_4p x26_4l x26_4c, .string x26_5] ∧
  (
  callJ Tryz.prog fn_ref05_Twin #[.agg ⟨[.int .i64 x26_0, .string x26_1, .string x26_2, .slice x26_3p x26_3l x26_3c, .slice x26_4p x26_4l x26_4c, .string x26_5]⟩] w88 [.agg [.int .i64, .str, .str, .slice, .slice, .str]] fun (r27_11_0 : Int) (r27_11_1 : ByteArray) (r27_11_2 : ByteArray) (r27_11_3p : Option Addr) (r27_11_3l : Nat) (r27_11_3c : Nat) (r27_11_4p : Option Addr) (r27_11_4l : Nat) (r27_11_4c : Nat) (r27_11_5 : ByteArray) (w89 : World) =>
  newB w89 (.cells (zeroC Tryz.prog T_api_Node) T_api_Node) fun b7_9 w90 =>
  cellsAt w90 ⟨b3, 5, none⟩ [.int .i64 x26_0, .string x26_1, .string x26_2, .slice x26_3p x26_3l x26_3c, .slice x26_4p x26_4l x26_4c, .string x26_5] ∧
  w90.cell? ⟨b3, 1, none⟩ = some (.slice x23p x23l x23c) ∧
  cellsAt w90 ⟨b2, 0, none⟩ [.int .i64 x19_0, .string x19_1, .string x19_2, .slice x19_3p x19_3l x19_3c, .slice x19_4p x19_4l x19_4c, .string x19_5] ∧
  stN w90 ⟨b5_9, 0, none⟩ ⟨[.int .i64 r20_0, .string r20_1, .string r20_2, .slice r20_3p r20_3l r20_3c, .slice r20_4p r20_4l r20_4c, .string r20_5]⟩ 6 fun w91 =>
  stN w91 ⟨b7_9, 0, none⟩ ⟨[.int .i64 r27_11_0, .string r27_11_1, .string r27_11_2, .slice r27_11_3p r27_11_3l r27_11_3c, .slice r27_11_4p r27_11_4l r27_11_4c, .string r27_11_5]⟩ 6 fun w92 =>
  J_5 (some ⟨b5_9, 0, none⟩) q24_5p q24_5l q24_5c (some ⟨b7_9, 0, none⟩) w92) ∧ (
  newB w88 (.cells (zeroC Tryz.prog T_api_Node) T_api_Node) fun b7_10 w93 =>
  cellsAt w93 ⟨b3, 5, none⟩ [.int .i64 x26_0, .string x26_1, .string x26_2, .slice x26_3p x26_3l x26_3c, .slice x26_4p x26_4l x26_4c, .string x26_5] ∧
  w93.cell? ⟨b3, 1, none⟩ = some (.slice x23p x23l x23c) ∧
  cellsAt w93 ⟨b2, 0, none⟩ [.int .i64 x19_0, .string x19_1, .string x19_2, .slice x19_3p x19_3l x19_3c, .slice x19_4p x19_4l x19_4c, .string x19_5] ∧
  callJ Tryz.prog fn_ref05_Twin #[.agg ⟨[.int .i64 x26_0, .string x26_1, .string x26_2, .slice x26_3p x26_3l x26_3c, .slice x26_4p x26_4l x26_4c, .string x26_5]⟩] w93 [.agg [.int .i64, .str, .str, .slice, .slice, .str]] fun (r27_12_0 : Int) (r27_12_1 : ByteArray) (r27_12_2 : ByteArray) (r27_12_3p : Option Addr) (r27_12_3l : Nat) (r27_12_3c : Nat) (r27_12_4p : Option Addr) (r27_12_4l : Nat) (r27_12_4c : Nat) (r27_12_5 : ByteArray) (w94 : World) =>
  stN w94 ⟨b5_9, 0, none⟩ ⟨[.int .i64 r20_0, .string r20_1, .string r20_2, .slice r20_3p r20_3l r20_3c, .slice r20_4p r20_4l r20_4c, .string r20_5]⟩ 6 fun w95 =>
  stN w95 ⟨b7_10, 0, none⟩ ⟨[.int .i64 r27_12_0, .string r27_12_1, .string r27_12_2, .slice r27_12_3p r27_12_3l r27_12_3c, .slice r27_12_4p r27_12_4l r27_12_4c, .string r27_12_5]⟩ 6 fun w96 =>
  J_5 (some ⟨b5_9, 0, none⟩) q24_5p q24_5l q24_5c (some ⟨b7_10, 0, none⟩) w96)) ∧ (
  newB w87 (.cells (zeroC Tryz.prog T_api_Node) T_api_Node) fun b7_11 w97 =>
  cellsAt w97 ⟨b3, 5, none⟩ [.int .i64 x26_0, .string x26_1, .string x26_2, .slice x26_3p x26_3l x26_3c, .slice x26_4p x26_4l x26_4c, .string x26_5] ∧
  w97.cell? ⟨b3, 1, none⟩ = some (.slice x23p x23l x23c) ∧
  cellsAt w97 ⟨b2, 0, none⟩ [.int .i64 x19_0, .string x19_1, .string x19_2, .slice x19_3p x19_3l x19_3c, .slice x19_4p x19_4l x19_4c, .string x19_5] ∧
  appJ Tryz.prog T_sl_int T_sl_int (.slice (some ⟨b21_1, 0, none⟩) 0 0) (.slice x23p x23l x23c) w97 fun q24_6p q24_6l q24_6c w98 =>
  cellsAt w98 ⟨b3, 5, none⟩ [.int .i64 x26_0, .string x26_1, .string x26_2, .slice x26_3p x26_3l x26_3c, .slice x26_4p x26_4l x26_4c, .string x26_5] ∧
  callJ Tryz.prog fn_ref05_Twin #[.agg ⟨[.int .i64 x26_0, .string x26_1, .string x26_2, .slice x26_3p x26_3l x26_3c, .slice x26_4p x26_4l x26_4c, .string x26_5]⟩] w98 [.agg [.int .i64, .str, .str, .slice, .slice, .str]] fun (r27_13_0 : Int) (r27_13_1 : ByteArray) (r27_13_2 : ByteArray) (r27_13_3p : Option Addr) (r27_13_3l : Nat) (r27_13_3c : Nat) (r27_13_4p : Option Addr) (r27_13_4l : Nat) (r27_13_4c : Nat) (r27_13_5 : ByteArray) (w99 : World) =>
  stN w99 ⟨b5_9, 0, none⟩ ⟨[.int .i64 r20_0, .string r20_1, .string r20_2, .slice r20_3p r20_3l r20_3c, .slice r20_4p r20_4l r20_4c, .string r20_5]⟩ 6 fun w100 =>
  stN w100 ⟨b7_11, 0, none⟩ ⟨[.int .i64 r27_13_0, .string r27_13_1, .string r27_13_2, .slice r27_13_3p r27_13_3l r27_13_3c, .slice r27_13_4p r27_13_4l r27_13_4c, .string r27_13_5]⟩ 6 fun w101 =>
  J_5 (some ⟨b5_9, 0, none⟩) q24_6p q24_6l q24_6c (some ⟨b7_11, 0, none⟩) w101)) ∧ (
  newB w86 (.cells (zeroC Tryz.prog T_api_Node) T_api_Node) fun b7_12 w102 =>
  cellsAt w102 ⟨b3, 5, none⟩ [.int .i64 x26_0, .string x26_1, .string x26_2, .slice x26_3p x26_3l x26_3c, .slice x26_4p x26_4l x26_4c, .string x26_5] ∧
  w102.cell? ⟨b3, 1, none⟩ = some (.slice x23p x23l x23c) ∧
  cellsAt w102 ⟨b2, 0, none⟩ [.int .i64 x19_0, .string x19_1, .string x19_2, .slice x19_3p x19_3l x19_3c, .slice x19_4p x19_4l x19_4c, .string x19_5] ∧
  newB w102 (.cells ⟨[]⟩ T_int) fun b21_2 w103 =>
  cellsAt w103 ⟨b3, 5, none⟩ [.int .i64 x26_0, .string x26_1, .string x26_2, .slice x26_3p x26_3l x26_3c, .slice x26_4p x26_4l x26_4c, .string x26_5] ∧
  w103.cell? ⟨b3, 1, none⟩ = some (.slice x23p x23l x23c) ∧
  cellsAt w103 ⟨b2, 0, none⟩ [.int .i64 x19_0, .string x19_1, .string x19_2, .slice x19_3p x19_3l x19_3c, .slice x19_4p x19_4l x19_4c, .string x19_5] ∧
  appJ Tryz.prog T_sl_int T_sl_int (.slice (some ⟨b21_2, 0, none⟩) 0 0) (.slice x23p x23l x23c) w103 fun q24_7p q24_7l q24_7c w104 =>
  cellsAt w104 ⟨b3, 5, none⟩ [.int .i64 x26_0, .string x26_1, .string x26_2, .slice x26_3p x26_3l x26_3c, .slice x26_4p x26_4l x26_4c, .string x26_5] ∧
  callJ Tryz.prog fn_ref05_Twin #[.agg ⟨[.int .i64 x26_0, .string x26_1, .string x26_2, .slice x26_3p x26_3l x26_3c, .slice x26_4p x26_4l x26_4c, .string x26_5]⟩] w104 [.agg [.int .i64, .str, .str, .slice, .slice, .str]] fun (r27_14_0 : Int) (r27_14_1 : ByteArray) (r27_14_2 : ByteArray) (r27_14_3p : Option Addr) (r27_14_3l : Nat) (r27_14_3c : Nat) (r27_14_4p : Option Addr) (r27_14_4l : Nat) (r27_14_4c : Nat) (r27_14_5 : ByteArray) (w105 : World) =>
  stN w105 ⟨b5_9, 0, none⟩ ⟨[.int .i64 r20_0, .string r20_1, .string r20_2, .slice r20_3p r20_3l r20_3c, .slice r20_4p r20_4l r20_4c, .string r20_5]⟩ 6 fun w106 =>
  stN w106 ⟨b7_12, 0, none⟩ ⟨[.int .i64 r27_14_0, .string r27_14_1, .string r27_14_2, .slice r27_14_3p r27_14_3l r27_14_3c, .slice r27_14_4p r27_14_4l r27_14_4c, .string r27_14_5]⟩ 6 fun w107 =>
  J_5 (some ⟨b5_9, 0, none⟩) q24_7p q24_7l q24_7c (some ⟨b7_12, 0, none⟩) w107)) ∧ (
  newB w26 (.cells (zeroC Tryz.prog T_api_Node) T_api_Node) fun b7_13 w108 =>
  cellsAt w108 ⟨b3, 5, none⟩ [.int .i64 x26_0, .string x26_1, .string x26_2, .slice x26_3p x26_3l x26_3c, .slice x26_4p x26_4l x26_4c, .string x26_5] ∧
  w108.cell? ⟨b3, 1, none⟩ = some (.slice x23p x23l x23c) ∧
  cellsAt w108 ⟨b2, 0, none⟩ [.int .i64 x19_0, .string x19_1, .string x19_2, .slice x19_3p x19_3l x19_3c, .slice x19_4p x19_4l x19_4c, .string x19_5] ∧
  (
  newB w108 (.cells ⟨[]⟩ T_int) fun b21_3 w109 =>
  cellsAt w109 ⟨b3, 5, none⟩ [.int .i64 x26_0, .string x26_1, .string x26_2, .slice x26_3p x26_3l x26_3c, .slice x26_4p x26_4l x26_4c, .string x26_5] ∧
  w109.cell? ⟨b3, 1, none⟩ = some (.slice x23p x23l x23c) ∧
  cellsAt w109 ⟨b2, 0, none⟩ [.int .i64 x19_0, .string x19_1, .string x19_2, .slice x19_3p x19_3l x19_3c, .slice x19_4p x19_4l x19_4c, .string x19_5] ∧
  (
  appJ Tryz.prog T_sl_int T_sl_int (.slice (some ⟨b21_3, 0, none⟩) 0 0) (.slice x23p x23l x23c) w109 fun q24_8p q24_8l q24_8c w110 =>
  cellsAt w110 ⟨b3, 5, none⟩ [.int .i64 x26_0, .string x26_1, .string x26_2, .slice x26_3p x26_3l x26_3c, .slice x26_4p x26_4l x26_4c, .string x26_5] ∧
  (
  callJ Tryz.prog fn_ref05_Twin #[.agg ⟨[.int .i64 x26_0, .string x26_1, .string x26_2, .slice x26_3p x26_3l x26_3c, .slice x26_4p x26_4l x26_4c, .string x26_5]⟩] w110 [.agg [.int .i64, .str, .str, .slice, .slice, .str]] fun (r27_15_0 : Int) (r27_15_1 : ByteArray) (r27_15_2 : ByteArray) (r27_15_3p : Option Addr) (r27_15_3l : Nat) (r27_15_3c : Nat) (r27_15_4p : Option Addr) (r27_15_4l : Nat) (r27_15_4c : Nat) (r27_15_5 : ByteArray) (w111 : World) =>
  newB w111 (.cells (zeroC Tryz.prog T_api_Node) T_api_Node) fun b5_10 w112 =>
  cellsAt w112 ⟨b3, 5, none⟩ [.int .i64 x26_0, .string x26_1, .string x26_2, .slice x26_3p x26_3l x26_3c, .slice x26_4p x26_4l x26_4c, .string x26_5] ∧
  w112.cell? ⟨b3, 1, none⟩ = some (.slice x23p x23l x23c) ∧
  cellsAt w112 ⟨b2, 0, none⟩ [.int .i64 x19_0, .string x19_1, .string x19_2, .slice x19_3p x19_3l x19_3c, .slice x19_4p x19_4l x19_4c, .string x19_5] ∧
  stN w112 ⟨b5_10, 0, none⟩ ⟨[.int .i64 r20_0, .string r20_1, .string r20_2, .slice r20_3p r20_3l r20_3c, .slice r20_4p r20_4l r20_4c, .string r20_5]⟩ 6 fun w113 =>
  stN w113 ⟨b7_13, 0, none⟩ ⟨[.int .i64 r27_15_0, .string r27_15_1, .string r27_15_2, .slice r27_15_3p r27_15_3l r27_15_3c, .slice r27_15_4p r27_15_4l r27_15_4c, .string r27_15_5]⟩ 6 fun w114 =>
  J_5 (some ⟨b5_10, 0, none⟩) q24_8p q24_8l q24_8c (some ⟨b7_13, 0, none⟩) w114) ∧ (
  newB w110 (.cells (zeroC Tryz.prog T_api_Node) T_api_Node) fun b5_11 w115 =>
  cellsAt w115 ⟨b3, 5, none⟩ [.int .i64 x26_0, .string x26_1, .string x26_2, .slice x26_3p x26_3l x26_3c, .slice x26_4p x26_4l x26_4c, .string x26_5] ∧
  w115.cell? ⟨b3, 1, none⟩ = some (.slice x23p x23l x23c) ∧
  cellsAt w115 ⟨b2, 0, none⟩ [.int .i64 x19_0, .string x19_1, .string x19_2, .slice x19_3p x19_3l x19_3c, .slice x19_4p x19_4l x19_4c, .string x19_5] ∧
  callJ Tryz.prog fn_ref05_Twin #[.agg ⟨[.int .i64 x26_0, .string x26_1, .string x26_2, .slice x26_3p x26_3l x26_3c, .slice x26_4p x26_4l x26_4c, .string x26_5]⟩] w115 [.agg [.int .i64, .str, .str, .slice, .slice, .str]] fun (r27_16_0 : Int) (r27_16_1 : ByteArray) (r27_16_2 : ByteArray) (r27_16_3p : Option Addr) (r27_16_3l : Nat) (r27_16_3c : Nat) (r27_16_4p : Option Addr) (r27_16_4l : Nat) (r27_16_4c : Nat) (r27_16_5 : ByteArray) (w116 : World) =>
  stN w116 ⟨b5_11, 0, none⟩ ⟨[.int .i64 r20_0, .string r20_1, .string r20_2, .slice r20_3p r20_3l r20_3c, .slice r20_4p r20_4l r20_4c, .string r20_5]⟩ 6 fun w117 =>
  stN w117 ⟨b7_13, 0, none⟩ ⟨[.int .i64 r27_16_0, .string r27_16_1, .string r27_16_2, .slice r27_16_3p r27_16_3l r27_16_3c, .slice r27_16_4p r27_16_4l r27_16_4c, .string r27_16_5]⟩ 6 fun w118 =>
  J_5 (some ⟨b5_11, 0, none⟩) q24_8p q24_8l q24_8c (some ⟨b7_13, 0, none⟩) w118)) ∧ (
  newB w109 (.cells (zeroC Tryz.prog T_api_Node) T_api_Node) fun b5_12 w119 =>
  cellsAt w119 ⟨b3, 5, none⟩ [.int .i64 x26_0, .string x26_1, .string x26_2, .slice x26_3p x26_3l x26_3c, .slice x26_4p x26_4l x26_4c, .string x26_5] ∧
  w119.cell? ⟨b3, 1, none⟩ = some (.slice x23p x23l x23c) ∧
  cellsAt w119 ⟨b2, 0, none⟩ [.int .i64 x19_0, .string x19_1, .string x19_2, .slice x19_3p x19_3l x19_3c, .slice x19_4p x19_4l x19_4c, .string x19_5] ∧
  appJ Tryz.prog T_sl_int T_sl_int (.slice (some ⟨b21_3, 0, none⟩) 0 0) (.slice x23p x23l x23c) w119 fun q24_9p q24_9l q24_9c w120 =>
  cellsAt w120 ⟨b3, 5, none⟩ [.int .i64 x26_0, .string x26_1, .string x26_2, .slice x26_3p x26_3l x26_3c, .slice x26_4p x26_4l x26_4c, .string x26_5] ∧
  callJ Tryz.prog fn_ref05_Twin #[.agg ⟨[.int .i64 x26_0, .string x26_1, .string x26_2, .slice x26_3p x26_3l x26_3c, .slice x26_4p x26_4l x26_4c, .string x26_5]⟩] w120 [.agg [.int .i64, .str, .str, .slice, .slice, .str]] fun (r27_17_0 : Int) (r27_17_1 : ByteArray) (r27_17_2 : ByteArray) (r27_17_3p : Option Addr) (r27_17_3l : Nat) (r27_17_3c : Nat) (r27_17_4p : Option Addr) (r27_17_4l : Nat) (r27_17_4c : Nat) (r27_17_5 : ByteArray) (w121 : World) =>
  stN w121 ⟨b5_12, 0, none⟩ ⟨[.int .i64 r20_0, .string r20_1, .string r20_2, .slice r20_3p r20_3l r20_3c, .slice r20_4p r20_4l r20_4c, .string r20_5]⟩ 6 fun w122 =>
  stN w122 ⟨b7_13, 0, none⟩ ⟨[.int .i64 r27_17_0, .string r27_17_1, .string r27_17_2, .slice r27_17_3p r27_17_3l r27_17_3c, .slice r27_17_4p r27_17_4l r27_17_4c, .string r27_17_5]⟩ 6 fun w123 =>
  J_5 (some ⟨b5_12, 0, none⟩) q24_9p q24_9l q24_9c (some ⟨b7_13, 0, none⟩) w123)) ∧ (
  newB w108 (.cells (zeroC Tryz.prog T_api_Node) T_api_Node) fun b5_13 w124 =>
  cellsAt w124 ⟨b3, 5, none⟩ [.int .i64 x26_0, .string x26_1, .string x26_2, .slice x26_3p x26_3l x26_3c, .slice x26_4p x26_4l x26_4c, .string x26_5] ∧
  w124.cell? ⟨b3, 1, none⟩ = some (.slice x23p x23l x23c) ∧
  cellsAt w124 ⟨b2, 0, none⟩ [.int .i64 x19_0, .string x19_1, .string x19_2, .slice x19_3p x19_3l x19_3c, .slice x19_4p x19_4l x19_4c, .string x19_5] ∧
  newB w124 (.cells ⟨[]⟩ T_int) fun b21_4 w125 =>
  cellsAt w125 ⟨b3, 5, none⟩ [.int .i64 x26_0, .string x26_1, .string x26_2, .slice x26_3p x26_3l x26_3c, .slice x26_4p x26_4l x26_4c, .string x26_5] ∧
  w125.cell? ⟨b3, 1, none⟩ = some (.slice x23p x23l x23c) ∧
  cellsAt w125 ⟨b2, 0, none⟩ [.int .i64 x19_0, .string x19_1, .string x19_2, .slice x19_3p x19_3l x19_3c, .slice x19_4p x19_4l x19_4c, .string x19_5] ∧
  appJ Tryz.prog T_sl_int T_sl_int (.slice (some ⟨b21_4, 0, none⟩) 0 0) (.slice x23p x23l x23c) w125 fun q24_10p q24_10l q24_10c w126 =>
  cellsAt w126 ⟨b3, 5, none⟩ [.int .i64 x26_0, .string x26_1, .string x26_2, .slice x26_3p x26_3l x26_3c, .slice x26_4p x26_4l x26_4c, .string x26_5] ∧
  callJ Tryz.prog fn_ref05_Twin #[.agg ⟨[.int .i64 x26_0, .string x26_1, .string x26_2, .slice x26_3p x26_3l x26_3c, .slice x26_4p x26_4l x26_4c, .string x26_5]⟩] w126 [.agg [.int .i64, .str, .str, .slice, .slice, .str]] fun (r27_18_0 : Int) (r27_18_1 : ByteArray) (r27_18_2 : ByteArray) (r27_18_3p : Option Addr) (r27_18_3l : Nat) (r27_18_3c : Nat) (r27_18_4p : Option Addr) (r27_18_4l : Nat) (r27_18_4c : Nat) (r27_18_5 : ByteArray) (w127 : World) =>
  stN w127 ⟨b5_13, 0, none⟩ ⟨[.int .i64 r20_0, .string r20_1, .string r20_2, .slice r20_3p r20_3l r20_3c, .slice r20_4p r20_4l r20_4c, .string r20_5]⟩ 6 fun w128 =>
  stN w128 ⟨b7_13, 0, none⟩ ⟨[.int .i64 r27_18_0, .string r27_18_1, .string r27_18_2, .slice r27_18_3p r27_18_3l r27_18_3c, .slice r27_18_4p r27_18_4l r27_18_4c, .string r27_18_5]⟩ 6 fun w129 =>
  J_5 (some ⟨b5_13, 0, none⟩) q24_10p q24_10l q24_10c (some ⟨b7_13, 0, none⟩) w129)))) ∧ (
  (
  newB w3.drew (.cells ⟨[]⟩ T_int) fun b21_5 w130 =>
  cellsAt w130 ⟨b3, 5, none⟩ [.int .i64 x26_0, .string x26_1, .string x26_2, .slice x26_3p x26_3l x26_3c, .slice x26_4p x26_4l x26_4c, .string x26_5] ∧
  w130.cell? ⟨b3, 1, none⟩ = some (.slice x23p x23l x23c) ∧
  cellsAt w130 ⟨b2, 0, none⟩ [.int .i64 x19_0, .string x19_1, .string x19_2, .slice x19_3p x19_3l x19_3c, .slice x19_4p x19_4l x19_4c, .string x19_5] ∧
  (
  callJ Tryz.prog fn_ref05_Twin #[.agg ⟨[.int .i64 x19_0, .string x19_1, .string x19_2, .slice x19_3p x19_3l x19_3c, .slice x19_4p x19_4l x19_4c, .string x19_5]⟩] w130 [.agg [.int .i64, .str, .str, .slice, .slice, .str]] fun (r20_1_0 : Int) (r20_1_1 : ByteArray) (r20_1_2 : ByteArray) (r20_1_3p : Option Addr) (r20_1_3l : Nat) (r20_1_3c : Nat) (r20_1_4p : Option Addr) (r20_1_4l : Nat) (r20_1_4c : Nat) (r20_1_5 : ByteArray) (w131 : World) =>
  cellsAt w131 ⟨b3, 5, none⟩ [.int .i64 x26_0, .string x26_1, .string x26_2, .slice x26_3p x26_3l x26_3c, .slice x26_4p x26_4l x26_4c, .string x26_5] ∧
  w131.cell? ⟨b3, 1, none⟩ = some (.slice x23p x23l x23c) ∧
  (
  appJ Tryz.prog T_sl_int T_sl_int (.slice (some ⟨b21_5, 0, none⟩) 0 0) (.slice x23p x23l x23c) w131 fun q24_11p q24_11l q24_11c w132 =>
  cellsAt w132 ⟨b3, 5, none⟩ [.int .i64 x26_0, .string x26_1, .string x26_2, .slice x26_3p x26_3l x26_3c, .slice x26_4p x26_4l x26_4c, .string x26_5] ∧
  (
  callJ Tryz.prog fn_ref05_Twin #[.agg ⟨[.int .i64 x26_0, .string x26_1, .string x26_2, .slice x26_3p x26_3l x26_3c, .slice x26_4p x26_4l x26_4c, .string x26_5]⟩] w132 [.agg [.int .i64, .str, .str, .slice, .slice, .str]] fun (r27_19_0 : Int) (r27_19_1 : ByteArray) (r27_19_2 : ByteArray) (r27_19_3p : Option Addr) (r27_19_3l : Nat) (r27_19_3c : Nat) (r27_19_4p : Option Addr) (r27_19_4l : Nat) (r27_19_4c : Nat) (r27_19_5 : ByteArray) (w133 : World) =>
  (
  newB w133 (.cells (zeroC Tryz.prog T_api_Node) T_api_Node) fun b5_14 w134 =>
  cellsAt w134 ⟨b3, 5, none⟩ [.int .i64 x26_0, .string x26_1, .string x26_2, .slice x26_3p x26_3l x26_3c, .slice x26_4p x26_4l x26_4c, .string x26_5] ∧
  w134.cell? ⟨b3, 1, none⟩ = some (.slice x23p x23l x23c) ∧
  cellsAt w134 ⟨b2, 0, none⟩ [.int .i64 x19_0, .string x19_1, .string x19_2, .slice x19_3p x19_3l x19_3c, .slice x19_4p x19_4l x19_4c, .string x19_5] ∧
  newB w134 (.cells (zeroC Tryz.prog T_api_Node) T_api_Node) fun b7_14 w135 =>
  cellsAt w135 ⟨b3, 5, none⟩ [.int .i64 x26_0, .string x26_1, .string x26_2, .slice x26_3p x26_3l x26_3c, .slice x26_4p x26_4l x26_4c, .string x26_5] ∧
  w135.cell? ⟨b3, 1, none⟩ = some (.slice x23p x23l x23c) ∧
  cellsAt w135 ⟨b2, 0, none⟩ [.int .i64 x19_0, .string x19_1, .string x19_2, .slice x19_3p x19_3l x19_3c, .slice x19_4p x19_4l x19_4c, .string x19_5] ∧
  stN w135 ⟨b5_14, 0, none⟩ ⟨[.int .i64 r20_1_0, .string r20_1_1, .string r20_1_2, .slice r20_1_3p r20_1_3l r20_1_3c, .slice r20_1_4p r20_1_4l r20_1_4c, .string r20_1_5]⟩ 6 fun w136 =>
  stN w136 ⟨b7_14, 0, none⟩ ⟨[.int .i64 r27_19_0, .string r27_19_1, .string r27_19_2, .slice r27_19_3p r27_19_3l r27_19_3c, .slice r27_19_4p r27_19_4l r27_19_4c, .string r27_19_5]⟩ 6 fun w137 =>
  J_5 (some ⟨b5_14, 0, none⟩) q24_11p q24_11l q24_11c (some ⟨b7_14, 0, none⟩) w137) ∧ (
  newB w133 (.cells (zeroC Tryz.prog T_api_Node) T_api_Node) fun b7_15 w138 =>
  cellsAt w138 ⟨b3, 5, none⟩ [.int .i64 x26_0, .string x26_1, .string x26_2, .slice x26_3p x26_3l x26_3c, .slice x26_4p x26_4l x26_4c, .string x26_5] ∧
  w138.cell? ⟨b3, 1, none⟩ = some (.slice x23p x23l x23c) ∧
  cellsAt w138 ⟨b2, 0, none⟩ [.int .i64 x19_0, .string x19_1, .string x19_2, .slice x19_3p x19_3l x19_3c, .slice x19_4p x19_4l x19_4c, .string x19_5] ∧
  newB w138 (.cells (zeroC Tryz.prog T_api_Node) T_api_Node) fun b5_15 w139 =>
  cellsAt w139 ⟨b3, 5, none⟩ [.int .i64 x26_0, .string x26_1, .string x26_2, .slice x26_3p x26_3l x26_3c, .slice x26_4p x26_4l x26_4c, .string x26_5] ∧
  w139.cell? ⟨b3, 1, none⟩ = some (.slice x23p x23l x23c) ∧
  cellsAt w139 ⟨b2, 0, none⟩ [.int .i64 x19_0, .string x19_1, .string x19_2, .slice x19_3p x19_3l x19_3c, .slice x19_4p x19_4l x19_4c, .string x19_5] ∧
  stN w139 ⟨b5_15, 0, none⟩ ⟨[.int .i64 r20_1_0, .string r20_1_1, .string r20_1_2, .slice r20_1_3p r20_1_3l r20_1_3c, .slice r20_1_4p r20_1_4l r20_1_4c, .string r20_1_5]⟩ 6 fun w140 =>
  stN w140 ⟨b7_15, 0, none⟩ ⟨[.int .i64 r27_19_0, .string r27_19_1, .string r27_19_2, .slice r27_19_3p r27_19_3l r27_19_3c, .slice r27_19_4p r27_19_4l r27_19_4c, .string r27_19_5]⟩ 6 fun w141 =>
  J_5 (some ⟨b5_15, 0, none⟩) q24_11p q24_11l q24_11c (some ⟨b7_15, 0, none⟩) w141)) ∧ (
  (
  newB w132 (.cells (zeroC Tryz.prog T_api_Node) T_api_Node) fun b5_16 w142 =>
  cellsAt w142 ⟨b3, 5, none⟩ [.int .i64 x26_0, .string x26_1, .string x26_2, .slice x26_3p x26_3l x26_3c, .slice x26_4p x26_4l x26_4c, .string x26_5] ∧
  w142.cell? ⟨b3, 1, none⟩ = some (.slice x23p x23l x23c) ∧
  cellsAt w142 ⟨b2, 0, none⟩ [.int .i64 x19_0, .string x19_1, .string x19_2, .slice x19_3p x19_3l x19_3c, .slice x19_4p x19_4l x19_4c, .string x19_5] ∧
  (
  callJ Tryz.prog fn_ref05_Twin #[.agg ⟨[.int .i64 x26_0, .string x26_1, .string x26_2, .slice x26_3p x26_3l x26_3c, .slice x26_4p x26_4l x26_4c, .string x26_5]⟩] w142 [.agg [.int .i64, .str, .str, .slice, .slice, .str]] fun (r27_20_0 : Int) (r27_20_1 : ByteArray) (r27_20_2 : ByteArray) (r27_20_3p : Option Addr) (r27_20_3l : Nat) (r27_20_3c : Nat) (r27_20_4p : Option Addr) (r27_20_4l : Nat) (r27_20_4c : Nat) (r27_20_5 : ByteArray) (w143 : World) =>
  newB w143 (.cells (zeroC Tryz.prog T_api_Node) T_api_Node) fun b7_16 w144 =>
  cellsAt w144 ⟨b3, 5, none⟩ [.int .i64 x26_0, .string x26_1, .string x26_2, .slice x26_3p x26_3l x26_3c, .slice x26_4p x26_4l x26_4c, .string x26_5] ∧
  w144.cell? ⟨b3, 1, none⟩ = some (.slice x23p x23l x23c) ∧
  cellsAt w144 ⟨b2, 0, none⟩ [.int .i64 x19_0, .string x19_1, .string x19_2, .slice x19_3p x19_3l x19_3c, .slice x19_4p x19_4l x19_4c, .string x19_5] ∧
  stN w144 ⟨b5_16, 0, none⟩ ⟨[.int .i64 r20_1_0, .string r20_1_1, .string r20_1_2, .slice r20_1_3p r20_1_3l r20_1_3c, .slice r20_1_4p r20_1_4l r20_1_4c, .string r20_1_5]⟩ 6 fun w145 =>
  stN w145 ⟨b7_16, 0, none⟩ ⟨[.int .i64 r27_20_0, .string r27_20_1, .string r27_20_2, .slice r27_20_3p r27_20_3l r27_20_3c, .slice r27_20_4p r27_20_4l r27_20_4c, .string r27_20_5]⟩ 6 fun w146 =>
  J_5 (some ⟨b5_16, 0, none⟩) q24_11p q24_11l q24_11c (some ⟨b7_16, 0, none⟩) w146) ∧ (
  newB w142 (.cells (zeroC Tryz.prog T_api_Node) T_api_Node) fun b7_17 w147 =>
  cellsAt w147 ⟨b3, 5, none⟩ [.int .i64 x26_0, .string x26_1, .string x26_2, .slice x26_3p x26_3l x26_3c, .slice x26_4p x26_4l x26_4c, .string x26_5] ∧
  w147.cell? ⟨b3, 1, none⟩ = some (.slice x23p x23l x23c) ∧
  cellsAt w147 ⟨b2, 0, none⟩ [.int .i64 x19_0, .string x19_1, .string x19_2, .slice x19_3p x19_3l x19_3c, .slice x19_4p x19_4l x19_4c, .string x19_5] ∧
  callJ Tryz.prog fn_ref05_Twin #[.agg ⟨[.int .i64 x26_0, .string x26_1, .string x26_2, .slice x26_3p x26_3l x26_3c, .slice x26_4p x26_4l x26_4c, .string x26_5]⟩] w147 [.agg [.int .i64, .str, .str, .slice, .slice, .str]] fun (r27_21_0 : Int) (r27_21_1 : ByteArray) (r27_21_2 : ByteArray) (r27_21_3p : Option Addr) (r27_21_3l : Nat) (r27_21_3c : Nat) (r27_21_4p : Option Addr) (r27_21_4l : Nat) (r27_21_4c : Nat) (r27_21_5 : ByteArray) (w148 : World) =>
  stN w148 ⟨b5_16, 0, none⟩ ⟨[.int .i64 r20_1_0, .string r20_1_1, .string r20_1_2, .slice r20_1_3p r20_1_3l r20_1_3c, .slice r20_1_4p r20_1_4l r20_1_4c, .string r20_1_5]⟩ 6 fun w149 =>
  stN w149 ⟨b7_17, 0, none⟩ ⟨[.int .i64 r27_21_0, .string r27_21_1, .string r27_21_2, .slice r27_21_3p r27_21_3l r27_21_3c, .slice r27_21_4p r27_21_4l r27_21_4c, .string r27_21_5]⟩ 6 fun w150 =>
  J_5 (some ⟨b5_16, 0, none⟩) q24_11p q24_11l q24_11c (some ⟨b7_17, 0, none⟩) w150)) ∧ (
  newB w132 (.cells (zeroC Tryz.prog T_api_Node) T_api_Node) fun b7_18 w151 =>
  cellsAt w151 ⟨b3, 5, none⟩ [.int .i64 x26_0, .string x26_1, .string x26_2, .slice x26_3p x26_3l x26_3c, .slice x26_4p x26_4l x26_4c, .string x26_5] ∧
  w151.cell? ⟨b3, 1, none⟩ = some (.slice x23p x23l x23c) ∧
  cellsAt w151 ⟨b2, 0, none⟩ [.int .i64 x19_0, .string x19_1, .string x19_2, .slice x19_3p x19_3l x19_3c, .slice x19_4p x19_4l x19_4c, .string x19_5] ∧
  (
  callJ Tryz.prog fn_ref05_Twin #[.agg ⟨[.int .i64 x26_0, .string x26_1, .string x26_2, .slice x26_3p x26_3l x26_3c, .slice x26_4p x26_4l x26_4c, .string x26_5]⟩] w151 [.agg [.int .i64, .str, .str, .slice, .slice, .str]] fun (r27_22_0 : Int) (r27_22_1 : ByteArray) (r27_22_2 : ByteArray) (r27_22_3p : Option Addr) (r27_22_3l : Nat) (r27_22_3c : Nat) (r27_22_4p : Option Addr) (r27_22_4l : Nat) (r27_22_4c : Nat) (r27_22_5 : ByteArray) (w152 : World) =>
  newB w152 (.cells (zeroC Tryz.prog T_api_Node) T_api_Node) fun b5_17 w153 =>
  cellsAt w153 ⟨b3, 5, none⟩ [.int .i64 x26_0, .string x26_1, .string x26_2, .slice x26_3p x26_3l x26_3c, .slice x26_4p x26_4l x26_4c, .string x26_5] ∧
  w153.cell? ⟨b3, 1, none⟩ = some (.slice x23p x23l x23c) ∧
  cellsAt w153 ⟨b2, 0, none⟩ [.int .i64 x19_0, .string x19_1, .string x19_2, .slice x19_3p x19_3l x19_3c, .slice x19_4p x19_4l x19_4c, .string x19_5] ∧
  stN w153 ⟨b5_17, 0, none⟩ ⟨[.int .i64 r20_1_0, .string r20_1_1, .string r20_1_2, .slice r20_1_3p r20_1_3l r20_1_3c, .slice r20_1_4p r20_1_4l r20_1_4c, .string r20_1_5]⟩ 6 fun w154 =>
  stN w154 ⟨b7_18, 0, none⟩ ⟨[.int .i64 r27_22_0, .string r27_22_1, .string r27_22_2, .slice r27_22_3p r27_22_3l r27_22_3c, .slice r27_22_4p r27_22_4l r27_22_4c, .string r27_22_5]⟩ 6 fun w155 =>
  J_5 (some ⟨b5_17, 0, none⟩) q24_11p q24_11l q24_11c (some ⟨b7_18, 0, none⟩) w155) ∧ (
  newB w151 (.cells (zeroC Tryz.prog T_api_Node) T_api_Node) fun b5_18 w156 =>
  cellsAt w156 ⟨b3, 5, none⟩ [.int .i64 x26_0, .string x26_1, .string x26_2, .slice x26_3p x26_3l x26_3c, .slice x26_4p x26_4l x26_4c, .string x26_5] ∧
  w156.cell? ⟨b3, 1, none⟩ = some (.slice x23p x23l x23c) ∧
  cellsAt w156 ⟨b2, 0, none⟩ [.int .i64 x19_0, .string x19_1, .string x19_2, .slice x19_3p x19_3l x19_3c, .slice x19_4p x19_4l x19_4c, .string x19_5] ∧
  callJ Tryz.prog fn_ref05_Twin #[.agg ⟨[.int .i64 x26_0, .string x26_1, .string x26_2, .slice x26_3p x26_3l x26_3c, .slice x26_4p x26_4l x26_4c, .string x26_5]⟩] w156 [.agg [.int .i64, .str, .str, .slice, .slice, .str]] fun (r27_23_0 : Int) (r27_23_1 : ByteArray) (r27_23_2 : ByteArray) (r27_23_3p : Option Addr) (r27_23_3l : Nat) (r27_23_3c : Nat) (r27_23_4p : Option Addr) (r27_23_4l : Nat) (r27_23_4c : Nat) (r27_23_5 : ByteArray) (w157 : World) =>
  stN w157 ⟨b5_18, 0, none⟩ ⟨[.int .i64 r20_1_0, .string r20_1_1, .string r20_1_2, .slice r20_1_3p r20_1_3l r20_1_3c, .slice r20_1_4p r20_1_4l r20_1_4c, .string r20_1_5]⟩ 6 fun w158 =>
  stN w158 ⟨b7_18, 0, none⟩ ⟨[.int .i64 r27_23_0, .string r27_23_1, .string r27_23_2, .slice r27_23_3p r27_23_3l r27_23_3c, .slice r27_23_4p r27_23_4l r27_23_4c, .string r27_23_5]⟩ 6 fun w159 =>
  J_5 (some ⟨b5_18, 0, none⟩) q24_11p q24_11l q24_11c (some ⟨b7_18, 0, none⟩) w159)))) ∧ (
  (
  newB w131 (.cells (zeroC Tryz.prog T_api_Node) T_api_Node) fun b5_19 w160 =>
  cellsAt w160 ⟨b3, 5, none⟩ [.int .i64 x26_0, .string x26_1, .string x26_2, .slice x26_3p x26_3l x26_3c, .slice x26_4p x26_4l x26_4c, .string x26_5] ∧
  w160.cell? ⟨b3, 1, none⟩ = some (.slice x23p x23l x23c) ∧
  cellsAt w160 ⟨b2, 0, none⟩ [.int .i64 x19_0, .string x19_1, .string x19_2, .slice x19_3p x19_3l x19_3c, .slice x19_4p x19_4l x19_4c, .string x19_5] ∧
  (
  appJ Tryz.prog T_sl_int T_sl_int (.slice (some ⟨b21_5, 0, none⟩) 0 0) (.slice x23p x23l x23c) w160 fun q24_12p q24_12l q24_12c w161 =>
  cellsAt w161 ⟨b3, 5, none⟩ [.int .i64 x26_0, .string x26_1, .string x26_2, .slice x26_3p x26_3l x26_3c, .slice x26_4p x26_4l x26_4c, .string x26_5] ∧
  (
  callJ Tryz.prog fn_ref05_Twin #[.agg ⟨[.int .i64 x26_0, .string x26_1, .string x26_2, .slice x26_3p x26_3l x26_3c, .slice x26_4p x26_4l x26_4c, .string x26_5]⟩] w161 [.agg [.int .i64, .str, .str, .slice, .slice, .str]] fun (r27_24_0 : Int) (r27_24_1 : ByteArray) (r27_24_2 : ByteArray) (r27_24_3p : Option Addr) (r27_24_3l : Nat) (r27_24_3c : Nat) (r27_24_4p : Option Addr) (r27_24_4l : Nat) (r27_24_4c : Nat) (r27_24_5 : ByteArray) (w162 : World) =>
  newB w162 (.cells (zeroC Tryz.prog T_api_Node) T_api_Node) fun b7_19 w163 =>
  cellsAt w163 ⟨b3, 5, none⟩ [.int .i64 x26_0, .string x26_1, .string x26_2, .slice x26_3p x26_3l x26_3c, .slice x26_4p x26_4l x26_4c, .string x26_5] ∧
  w163.cell? ⟨b3, 1, none⟩ = some (.slice x23p x23l x23c) ∧
  cellsAt w163 ⟨b2, 0, none⟩ [.int .i64 x19_0, .string x19_1, .string x19_2, .slice x19_3p x19_3l x19_3c, .slice x19_4p x19_4l x19_4c, .string x19_5] ∧
  stN w163 ⟨b5_19, 0, none⟩ ⟨[.int .i64 r20_1_0, .string r20_1_1, .string r20_1_2, .slice r20_1_3p r20_1_3l r20_1_3c, .slice r20_1_4p r20_1_4l r20_1_4c, .string r20_1_5]⟩ 6 fun w164 =>
  stN w164 ⟨b7_19, 0, none⟩ ⟨[.int .i64 r27_24_0, .string r27_24_1, .string r27_24_2, .slice r27_24_3p r27_24_3l r27_24_3c, .slice r27_24_4p r27_24_4l r27_24_4c, .string r27_24_5]⟩ 6 fun w165 =>
  J_5 (some ⟨b5_19, 0, none⟩) q24_12p q24_12l q24_12c (some ⟨b7_19, 0, none⟩) w165) ∧ (
  newB w161 (.cells (zeroC Tryz.prog T_api_Node) T_api_Node) fun b7_20 w166 =>
  cellsAt w166 ⟨b3, 5, none⟩ [.int .i64 x26_0, .string x26_1, .string x26_2, .slice x26_3p x26_3l x26_3c, .slice x26_4p x26_4l x26_4c, .string x26_5] ∧
  w166.cell? ⟨b3, 1, none⟩ = some (.slice x23p x23l x23c) ∧
  cellsAt w166 ⟨b2, 0, none⟩ [.int .i64 x19_0, .string x19_1, .string x19_2, .slice x19_3p x19_3l x19_3c, .slice x19_4p x19_4l x19_4c, .string x19_5] ∧
  callJ Tryz.prog fn_ref05_Twin #[.agg ⟨[.int .i64 x26_0, .string x26_1, .string x26_2, .slice x26_3p x26_3l x26_3c, .slice x26_4p x26_4l x26_4c, .string x26_5]⟩] w166 [.agg [.int .i64, .str, .str, .slice, .slice, .str]] fun (r27_25_0 : Int) (r27_25_1 : ByteArray) (r27_25_2 : ByteArray) (r27_25_3p : Option Addr) (r27_25_3l : Nat) (r27_25_3c : Nat) (r27_25_4p : Option Addr) (r27_25_4l : Nat) (r27_25_4c : Nat) (r27_25_5 : ByteArray) (w167 : World) =>
  stN w167 ⟨b5_19, 0, none⟩ ⟨[.int .i64 r20_1_0, .string r20_1_1, .string r20_1_2, .slice r20_1_3p r20_1_3l r20_1_3c, .slice r20_1_4p r20_1_4l r20_1_4c, .string r20_1_5]⟩ 6 fun w168 =>
  stN w168 ⟨b7_20, 0, none⟩ ⟨[.int .i64 r27_25_0, .string r27_25_1, .string r27_25_2, .slice r27_25_3p r27_25_3l r27_25_3c, .slice r27_25_4p r27_25_4l r27_25_4c, .string r27_25_5]⟩ 6 fun w169 =>
  J_5 (some ⟨b5_19, 0, none⟩) q24_12p q24_12l q24_12c (some ⟨b7_20, 0, none⟩) w169)) ∧ (
  newB w160 (.cells (zeroC Tryz.prog T_api_Node) T_api_Node) fun b7_21 w170 =>
  cellsAt w170 ⟨b3, 5, none⟩ [.int .i64 x26_0, .string x26_1, .string x26_2, .slice x26_3p x26_3l x26_3c, .slice x26_4p x26_4l x26_4c, .string x26_5] ∧
  w170.cell? ⟨b3, 1, none⟩ = some (.slice x23p x23l x23c) ∧
  cellsAt w170 ⟨b2, 0, none⟩ [.int .i64 x19_0, .string x19_1, .string x19_2, .slice x19_3p x19_3l x19_3c, .slice x19_4p x19_4l x19_4c, .string x19_5] ∧
  appJ Tryz.prog T_sl_int T_sl_int (.slice (some ⟨b21_5, 0, none⟩) 0 0) (.slice x23p x23l x23c) w170 fun q24_13p q24_13l q24_13c w171 =>
  cellsAt w171 ⟨b3, 5, none⟩ [.int .i64 x26_0, .string x26_1, .string x26_2, .slice x26_3p x26_3l x26_3c, .slice x26_4p x26_4l x26_4c, .string x26_5] ∧
  callJ Tryz.prog fn_ref05_Twin #[.agg ⟨[.int .i64 x26_0, .string x26_1, .string x26_2, .slice x26_3p x26_3l x26_3c, .slice x26_4p x26_4l x26_4c, .string x26_5]⟩] w171 [.agg [.int .i64, .str, .str, .slice, .slice, .str]] fun (r27_26_0 : Int) (r27_26_1 : ByteArray) (r27_26_2 : ByteArray) (r27_26_3p : Option Addr) (r27_26_3l : Nat) (r27_26_3c : Nat) (r27_26_4p : Option Addr) (r27_26_4l : Nat) (r27_26_4c : Nat) (r27_26_5 : ByteArray) (w172 : World) =>
  stN w172 ⟨b5_19, 0, none⟩ ⟨[.int .i64 r20_1_0, .string r20_1_1, .string r20_1_2, .slice r20_1_3p r20_1_3l r20_1_3c, .slice r20_1_4p r20_1_4l r20_1_4c, .string r20_1_5]⟩ 6 fun w173 =>
  stN w173 ⟨b7_21, 0, none⟩ ⟨[.int .i64 r27_26_0, .string r27_26_1, .string r27_26_2, .slice r27_26_3p r27_26_3l r27_26_3c, .slice r27_26_4p r27_26_4l r27_26_4c, .string r27_26_5]⟩ 6 fun w174 =>
  J_5 (some ⟨b5_19, 0, none⟩) q24_13p q24_13l q24_13c (some ⟨b7_21, 0, none⟩) w174)) ∧ (
  newB w131 (.cells (zeroC Tryz.prog T_api_Node) T_api_Node) fun b7_22 w175 =>
  cellsAt w175 ⟨b3, 5, none⟩ [.int .i64 x26_0, .string x26_1, .string x26_2, .slice x26_3p x26_3l x26_3c, .slice x26_4p x26_4l x26_4c, .string x26_5] ∧
  w175.cell? ⟨b3, 1, none⟩ = some (.slice x23p x23l x23c) ∧
  cellsAt w175 ⟨b2, 0, none⟩ [.int .i64 x19_0, .string x19_1, .string x19_2, .slice x19_3p x19_3l x19_3c, .slice x19_4p x19_4l x19_4c, .string x19_5] ∧
  (
  appJ Tryz.prog T_sl_int T_sl_int (.slice (some ⟨b21_5, 0, none⟩) 0 0) (.slice x23p x23l x23c) w175 fun q24_14p q24_14l q24_14c w176 =>
  cellsAt w176 ⟨b3, 5, none⟩ [.int .i64 x26_0, .string x26_1, .string x26_2, .slice x26_3p x26_3l x26_3c, .slice x26_4p x26_4l x26_4c, .string x26_5] ∧
  (
  callJ Tryz.prog fn_ref05_Twin #[.agg ⟨[.int .i64 x26_0, .string x26_1, .string x26_2, .slice x26_3p x26_3l x26_3c, .slice x26_4p x26_4l x26_4c, .string x26_5]⟩] w176 [.agg [.int .i64, .str, .str, .slice, .slice, .str]] fun (r27_27_0 : Int) (r27_27_1 : ByteArray) (r27_27_2 : ByteArray) (r27_27_3p : Option Addr) (r27_27_3l : Nat) (r27_27_3c : Nat) (r27_27_4p : Option Addr) (r27_27_4l : Nat) (r27_27_4c : Nat) (r27_27_5 : ByteArray) (w177 : World) =>
  newB w177 (.cells (zeroC Tryz.prog T_api_Node) T_api_Node) fun b5_20 w178 =>
  cellsAt w178 ⟨b3, 5, none⟩ [.int .i64 x26_0, .string x26_1, .string x26_2, .slice x26_3p x26_3l x26_3c, .slice x26_4p x26_4l x26_4c, .string x26_5] ∧
  w178.cell? ⟨b3, 1, none⟩ = some (.slice x23p x23l x23c) ∧
  cellsAt w178 ⟨b2, 0, none⟩ [.int .i64 x19_0, .string x19_1, .string x19_2, .slice x19_3p x19_3l x19_3c, .slice x19_4p x19_4l x19_4c, .string x19_5] ∧
  stN w178 ⟨b5_20, 0, none⟩ ⟨[.int .i64 r20_1_0, .string r20_1_1, .string r20_1_2, .slice r20_1_3p r20_1_3l r20_1_3c, .slice r20_1_4p r20_1_4l r20_1_4c, .string r20_1_5]⟩ 6 fun w179 =>
  stN w179 ⟨b7_22, 0, none⟩ ⟨[.int .i64 r27_27_0, .string r27_27_1, .string r27_27_2, .slice r27_27_3p r27_27_3l r27_27_3c, .slice r27_27_4p r27_27_4l r27_27_4c, .string r27_27_5]⟩ 6 fun w180 =>
  J_5 (some ⟨b5_20, 0, none⟩) q24_14p q24_14l q24_14c (some ⟨b7_22, 0, none⟩) w180) ∧ (
  newB w176 (.cells (zeroC Tryz.prog T_api_Node) T_api_Node) fun b5_21 w181 =>
  cellsAt w181 ⟨b3, 5, none⟩ [.int .i64 x26_0, .string x26_1, .string x26_2, .slice x26_3p x26_3l x26_3c, .slice x26_4p x26_4l x26_4c, .string x26_5] ∧
  w181.cell? ⟨b3, 1, none⟩ = some (.slice x23p x23l x23c) ∧
  cellsAt w181 ⟨b2, 0, none⟩ [.int .i64 x19_0, .string x19_1, .string x19_2, .slice x19_3p x19_3l x19_3c, .slice x19_4p x19_4l x19_4c, .string x19_5] ∧
  callJ Tryz.prog fn_ref05_Twin #[.agg ⟨[.int .i64 x26_0, .string x26_1, .string x26_2, .slice x26_3p x26_3l x26_3c, .slice x26_4p x26_4l x26_4c, .string x26_5]⟩] w181 [.agg [.int .i64, .str, .str, .slice, .slice, .str]] fun (r27_28_0 : Int) (r27_28_1 : ByteArray) (r27_28_2 : ByteArray) (r27_28_3p : Option Addr) (r27_28_3l : Nat) (r27_28_3c : Nat) (r27_28_4p : Option Addr) (r27_28_4l : Nat) (r27_28_4c : Nat) (r27_28_5 : ByteArray) (w182 : World) =>
  stN w182 ⟨b5_21, 0, none⟩ ⟨[.int .i64 r20_1_0, .string r20_1_1, .string r20_1_2, .slice r20_1_3p r20_1_3l r20_1_3c, .slice r20_1_4p r20_1_4l r20_1_4c, .string r20_1_5]⟩ 6 fun w183 =>
  stN w183 ⟨b7_22, 0, none⟩ ⟨[.int .i64 r27_28_0, .string r27_28_1, .string r27_28_2, .slice r27_28_3p r27_28_3l r27_28_3c, .slice r27_28_4p r27_28_4l r27_28_4c, .string r27_28_5]⟩ 6 fun w184 =>
  J_5 (some ⟨b5_21, 0, none⟩) q24_14p q24_14l q24_14c (some ⟨b7_22, 0, none⟩) w184)) ∧ (
  newB w175 (.cells (zeroC Tryz.prog T_api_Node) T_api_Node) fun b5_22 w185 =>
  cellsAt w185 ⟨b3, 5, none⟩ [.int .i64 x26_0, .string x26_1, .string x26_2, .slice x26_3p x26_3l x26_3c, .slice x26_4p x26_4l x26_4c, .string x26_5] ∧
  w185.cell? ⟨b3, 1, none⟩ = some (.slice x23p x23l x23c) ∧
  cellsAt w185 ⟨b2, 0, none⟩ [.int .i64 x19_0, .string x19_1, .string x19_2, .slice x19_3p x19_3l x19_3c, .slice x19_4p x19_4l x19_4c, .string x19_5] ∧
  appJ Tryz.prog T_sl_int T_sl_int (.slice (some ⟨b21_5, 0, none⟩) 0 0) (.slice x23p x23l x23c) w185 fun q24_15p q24_15l q24_15c w186 =>
  cellsAt w186 ⟨b3, 5, none⟩ [.int .i64 x26_0, .string x26_1, .string x26_2, .slice x26_3p x26_3l x26_3c, .slice x26_4p x26_4l x26_4c, .string x26_5] ∧
  callJ Tryz.prog fn_ref05_Twin #[.agg ⟨[.int .i64 x26_0, .string x26_1, .string x26_2, .slice x26_3p x26_3l x26_3c, .slice x26_4p x26_4l x26_4c, .string x26_5]⟩] w186 [.agg [.int .i64, .str, .str, .slice, .slice, .str]] fun (r27_29_0 : Int) (r27_29_1 : ByteArray) (r27_29_2 : ByteArray) (r27_29_3p : Option Addr) (r27_29_3l : Nat) (r27_29_3c : Nat) (r27_29_4p : Option Addr) (r27_29_4l : Nat) (r27_29_4c : Nat) (r27_29_5 : ByteArray) (w187 : World) =>
  stN w187 ⟨b5_22, 0, none⟩ ⟨[.int .i64 r20_1_0, .string r20_1_1, .string r20_1_2, .slice r20_1_3p r20_1_3l r20_1_3c, .slice r20_1_4p r20_1_4l r20_1_4c, .string r20_1_5]⟩ 6 fun w188 =>
  stN w188 ⟨b7_22, 0, none⟩ ⟨[.int .i64 r27_29_0, .string r27_29_1, .string r27_29_2, .slice r27_29_3p r27_29_3l r27_29_3c, .slice r27_29_4p r27_29_4l r27_29_4c, .string r27_29_5]⟩ 6 fun w189 =>
  J_5 (some ⟨b5_22, 0, none⟩) q24_15p q24_15l q24_15c (some ⟨b7_22, 0, none⟩) w189)))) ∧ (
  (
  newB w130 (.cells (zeroC Tryz.prog T_api_Node) T_api_Node) fun b5_23 w190 =>
  cellsAt w190 ⟨b3, 5, none⟩ [.int .i64 x26_0, .string x26_1, .string x26_2, .slice x26_3p x26_3l x26_3c, .slice x26_4p x26_4l x26_4c, .string x26_5] ∧
  w190.cell? ⟨b3, 1, none⟩ = some (.slice x23p x23l x23c) ∧
  cellsAt w190 ⟨b2, 0, none⟩ [.int .i64 x19_0, .string x19_1, .string x19_2, .slice x19_3p x19_3l x19_3c, .slice x19_4p x19_4l x19_4c, .string x19_5] ∧
  (
  callJ Tryz.prog fn_ref05_Twin #[.agg ⟨[.int .i64 x19_0, .string x19_1, .string x19_2, .slice x19_3p x19_3l x19_3c, .slice x19_4p x19_4l x19_4c, .string x19_5]⟩] w190 [.agg [.int .i64, .str, .str, .slice, .slice, .str]] fun (r20_2_0 : Int) (r20_2_1 : ByteArray) (r20_2_2 : ByteArray) (r20_2_3p : Option Addr) (r20_2_3l : Nat) (r20_2_3c : Nat) (r20_2_4p : Option Addr) (r20_2_4l : Nat) (r20_2_4c : Nat) (r20_2_5 : ByteArray) (w191 : World) =>
  cellsAt w191 ⟨b3, 5, none⟩ [.int .i64 x26_0, .string x26_1, .string x26_2, .slice x26_3p x26_3l x26_3c, .slice x26_4p x26_4l x26_4c, .string x26_5] ∧
  w191.cell? ⟨b3, 1, none⟩ = some (.slice x23p x23l x23c) ∧
  (
  appJ Tryz.prog T_sl_int T_sl_int (.slice (some ⟨b21_5, 0, none⟩) 0 0) (.slice x23p x23l x23c) w191 fun q24_16p q24_16l q24_16c w192 =>
  cellsAt w192 ⟨b3, 5, none⟩ [.int .i64 x26_0, .string x26_1, .string x26_2, .slice x26_3p x26_3l x26_3c, .slice x26_4p x26_4l x26_4c, .string x26_5] ∧
  (
  callJ Tryz.prog fn_ref05_Twin #[.agg ⟨[.int .i64 x26_0, .string x26_1, .string x26_2, .slice x26_3p x26_3l x26_3c, .slice x26_4p x26_4l x26_4c, .string x26_5]⟩] w192 [.agg [.int .i64, .str, .str, .slice, .slice, .str]] fun (r27_30_0 : Int) (r27_30_1 : ByteArray) (r27_30_2 : ByteArray) (r27_30_3p : Option Addr) (r27_30_3l : Nat) (r27_30_3c : Nat) (r27_30_4p : Option Addr) (r27_30_4l : Nat) (r27_30_4c : Nat) (r27_30_5 : ByteArray) (w193 : World) =>
  newB w193 (.cells (zeroC Tryz.prog T_api_Node) T_api_Node) fun b7_23 w194 =>
  cellsAt w194 ⟨b3, 5, none⟩ [.int .i64 x26_0, .string x26_1, .string x26_2, .slice x26_3p x26_3l x26_3c, .slice x26_4p x26_4l x26_4c, .string x26_5] ∧
  w194.cell? ⟨b3, 1, none⟩ = some (.slice x23p x23l x23c) ∧
  cellsAt w194 ⟨b2, 0, none⟩ [.int .i64 x19_0, .string x19_1, .string x19_2, .slice x19_3p x19_3l x19_3c, .slice x19_4p x19_4l x19_4c, .string x19_5] ∧
  stN w194 ⟨b5_23, 0, none⟩ ⟨[.int .i64 r20_2_0, .string r20_2_1, .string r20_2_2, .slice r20_2_3p r20_2_3l r20_2_3c, .slice r20_2_4p r20_2_4l r20_2_4c, .string r20_2_5]⟩ 6 fun w195 =>
  stN w195 ⟨b7_23, 0, none⟩ ⟨[.int .i64 r27_30_0, .string r27_30_1, .string r27_30_2, .slice r27_30_3p r27_30_3l r27_30_3c, .slice r27_30_4p r27_30_4l r27_30_4c, .string r27_30_5]⟩ 6 fun w196 =>
  J_5 (some ⟨b5_23, 0, none⟩) q24_16p q24_16l q24_16c (some ⟨b7_23, 0, none⟩) w196) ∧ (
  newB w192 (.cells (zeroC Tryz.prog T_api_Node) T_api_Node) fun b7_24 w197 =>
  cellsAt w197 ⟨b3, 5, none⟩ [.int .i64 x26_0, .string x26_1, .string x26_2, .slice x26_3p x26_3l x26_3c, .slice x26_4p x26_4l x26_4c, .string x26_5] ∧
  w197.cell? ⟨b3, 1, none⟩ = some (.slice x23p x23l x23c) ∧
  cellsAt w197 ⟨b2, 0, none⟩ [.int .i64 x19_0, .string x19_1, .string x19_2, .slice x19_3p x19_3l x19_3c, .slice x19_4p x19_4l x19_4c, .string x19_5] ∧
  callJ Tryz.prog fn_ref05_Twin #[.agg ⟨[.int .i64 x26_0, .string x26_1, .string x26_2, .slice x26_3p x26_3l x26_3c, .slice x26_4p x26_4l x26_4c, .string x26_5]⟩] w197 [.agg [.int .i64, .str, .str, .slice, .slice, .str]] fun (r27_31_0 : Int) (r27_31_1 : ByteArray) (r27_31_2 : ByteArray) (r27_31_3p : Option Addr) (r27_31_3l : Nat) (r27_31_3c : Nat) (r27_31_4p : Option Addr) (r27_31_4l : Nat) (r27_31_4c : Nat) (r27_31_5 : ByteArray) (w198 : World) =>
  stN w198 ⟨b5_23, 0, none⟩ ⟨[.int .i64 r20_2_0, .string r20_2_1, .string r20_2_2, .slice r20_2_3p r20_2_3l r20_2_3c, .slice r20_2_4p r20_2_4l r20_2_4c, .string r20_2_5]⟩ 6 fun w199 =>
  stN w199 ⟨b7_24, 0, none⟩ ⟨[.int .i64 r27_31_0, .string r27_31_1, .string r27_31_2, .slice r27_31_3p r27_31_3l r27_31_3c, .slice r27_31_4p r27_31_4l r27_31_4c, .string r27_31_5]⟩ 6 fun w200 =>
  J_5 (some ⟨b5_23, 0, none⟩) q24_16p q24_16l q24_16c (some ⟨b7_24, 0, none⟩) w200)) ∧ (
  newB w191 (.cells (zeroC Tryz.prog T_api_Node) T_api_Node) fun b7_25 w201 =>
  cellsAt w201 ⟨b3, 5, none⟩ [.int .i64 x26_0, .string x26_1, .string x26_2, .slice x26_3p x26_3l x26_3c, .slice x26_4p x26_4l x26_4c, .string x26_5] ∧
  w201.cell? ⟨b3, 1, none⟩ = some (.slice x23p x23l x23c) ∧
  cellsAt w201 ⟨b2, 0, none⟩ [.int .i64 x19_0, .string x19_1, .string x19_2, .slice x19_3p x19_3l x19_3c, .slice x19_4p x19_4l x19_4c, .string x19_5] ∧
  appJ Tryz.prog T_sl_int T_sl_int (.slice (some ⟨b21_5, 0, none⟩) 0 0) (.slice x23p x23l x23c) w201 fun q24_17p q24_17l q24_17c w202 =>
  cellsAt w202 ⟨b3, 5, none⟩ [.int .i64 x26_0, .string x26_1, .string x26_2, .slice x26_3p x26_3l x26_3c, .slice x26_4p x26_4l x26_4c, .string x26_5] ∧
  callJ Tryz.prog fn_ref05_Twin #[.agg ⟨[.int .i64 x26_0, .string x26_1, .string x26_2, .slice x26_3p x26_3l x26_3c, .slice x26_4p x26_4l x26_4c, .string x26_5]⟩] w202 [.agg [.int .i64, .str, .str, .slice, .slice, .str]] fun (r27_32_0 : Int) (r27_32_1 : ByteArray) (r27_32_2 : ByteArray) (r27_32_3p : Option Addr) (r27_32_3l : Nat) (r27_32_3c : Nat) (r27_32_4p : Option Addr) (r27_32_4l : Nat) (r27_32_4c : Nat) (r27_32_5 : ByteArray) (w203 : World) =>
  stN w203 ⟨b5_23, 0, none⟩ ⟨[.int .i64 r20_2_0, .string r20_2_1, .string r20_2_2, .slice r20_2_3p r20_2_3l r20_2_3c, .slice r20_2_4p r20_2_4l r20_2_4c, .string r20_2_5]⟩ 6 fun w204 =>
  stN w204 ⟨b7_25, 0, none⟩ ⟨[.int .i64 r27_32_0, .string r27_32_1, .string r27_32_2, .slice r27_32_3p r27_32_3l r27_32_3c, .slice r27_32_4p r27_32_4l r27_32_4c, .string r27_32_5]⟩ 6 fun w205 =>
  J_5 (some ⟨b5_23, 0, none⟩) q24_17p q24_17l q24_17c (some ⟨b7_25, 0, none⟩) w205)) ∧ (
  newB w190 (.cells (zeroC Tryz.prog T_api_Node) T_api_Node) fun b7_26 w206 =>
  cellsAt w206 ⟨b3, 5, none⟩ [.int .i64 x26_0, .string x26_1, .string x26_2, .slice x26_3p x26_3l x26_3c, .slice x26_4p x26_4l x26_4c, .string x26_5] ∧
  w206.cell? ⟨b3, 1, none⟩ = some (.slice x23p x23l x23c) ∧
  cellsAt w206 ⟨b2, 0, none⟩ [.int .i64 x19_0, .string x19_1, .string x19_2, .slice x19_3p x19_3l x19_3c, .slice x19_4p x19_4l x19_4c, .string x19_5] ∧
  callJ Tryz.prog fn_ref05_Twin #[.agg ⟨[.int .i64 x19_0, .string x19_1, .string x19_2, .slice x19_3p x19_3l x19_3c, .slice x19_4p x19_4l x19_4c, .string x19_5]⟩] w206 [.agg [.int .i64, .str, .str, .slice, .slice, .str]] fun (r20_3_0 : Int) (r20_3_1 : ByteArray) (r20_3_2 : ByteArray) (r20_3_3p : Option Addr) (r20_3_3l : Nat) (r20_3_3c : Nat) (r20_3_4p : Option Addr) (r20_3_4l : Nat) (r20_3_4c : Nat) (r20_3_5 : ByteArray) (w207 : World) =>
  cellsAt w207 ⟨b3, 5, none⟩ [.int .i64 x26_0, .string x26_1, .string x26_2, .slice x26_3p x26_3l x26_3c, .slice x26_4p x26_4l x26_4c, .string x26_5] ∧
  w207.cell? ⟨b3, 1, none⟩ = some (.slice x23p x23l x23c) ∧
  appJ Tryz.prog T_sl_int T_sl_int (.slice (some ⟨b21_5, 0, none⟩) 0 0) (.slice x23p x23l x23c) w207 fun q24_18p q24_18l q24_18c w208 =>
  cellsAt w208 ⟨b3, 5, none⟩ [.int .i64 x26_0, .string x26_1, .string x26_2, .slice x26_3p x26_3l x26_3c, .slice x26_4p x26_4l x26_4c, .string x26_5] ∧
  callJ Tryz.prog fn_ref05_Twin #[.agg ⟨[.int .i64 x26_0, .string x26_1, .string x26_2, .slice x26_3p x26_3l x26_3c, .slice x26_4p x26_4l x26_4c, .string x26_5]⟩] w208 [.agg [.int .i64, .str, .str, .slice, .slice, .str]] fun (r27_33_0 : Int) (r27_33_1 : ByteArray) (r27_33_2 : ByteArray) (r27_33_3p : Option Addr) (r27_33_3l : Nat) (r27_33_3c : Nat) (r27_33_4p : Option Addr) (r27_33_4l : Nat) (r27_33_4c : Nat) (r27_33_5 : ByteArray) (w209 : World) =>
  stN w209 ⟨b5_23, 0, none⟩ ⟨[.int .i64 r20_3_0, .string r20_3_1, .string r20_3_2, .slice r20_3_3p r20_3_3l r20_3_3c, .slice r20_3_4p r20_3_4l r20_3_4c, .string r20_3_5]⟩ 6 fun w210 =>
  stN w210 ⟨b7_26, 0, none⟩ ⟨[.int .i64 r27_33_0, .string r27_33_1, .string r27_33_2, .slice r27_33_3p r27_33_3l r27_33_3c, .slice r27_33_4p r27_33_4l r27_33_4c, .string r27_33_5]⟩ 6 fun w211 =>
  J_5 (some ⟨b5_23, 0, none⟩) q24_18p q24_18l q24_18c (some ⟨b7_26, 0, none⟩) w211)) ∧ (
  newB w130 (.cells (zeroC Tryz.prog T_api_Node) T_api_Node) fun b7_27 w212 =>
  cellsAt w212 ⟨b3, 5, none⟩ [.int .i64 x26_0, .string x26_1, .string x26_2, .slice x26_3p x26_3l x26_3c, .slice x26_4p x26_4l x26_4c, .string x26_5] ∧
  w212.cell? ⟨b3, 1, none⟩ = some (.slice x23p x23l x23c) ∧
  cellsAt w212 ⟨b2, 0, none⟩ [.int .i64 x19_0, .string x19_1, .string x19_2, .slice x19_3p x19_3l x19_3c, .slice x19_4p x19_4l x19_4c, .string x19_5] ∧
  (
  callJ Tryz.prog fn_ref05_Twin #[.agg ⟨[.int .i64 x19_0, .string x19_1, .string x19_2, .slice x19_3p x19_3l x19_3c, .slice x19_4p x19_4l x19_4c, .string x19_5]⟩] w212 [.agg [.int .i64, .str, .str, .slice, .slice, .str]] fun (r20_4_0 : Int) (r20_4_1 : ByteArray) (r20_4_2 : ByteArray) (r20_4_3p : Option Addr) (r20_4_3l : Nat) (r20_4_3c : Nat) (r20_4_4p : Option Addr) (r20_4_4l : Nat) (r20_4_4c : Nat) (r20_4_5 : ByteArray) (w213 : World) =>
  cellsAt w213 ⟨b3, 5, none⟩ [.int .i64 x26_0, .string x26_1, .string x26_2, .slice x26_3p x26_3l x26_3c, .slice x26_4p x26_4l x26_4c, .string x26_5] ∧
  w213.cell? ⟨b3, 1, none⟩ = some (.slice x23p x23l x23c) ∧
  (
  appJ Tryz.prog T_sl_int T_sl_int (.slice (some ⟨b21_5, 0, none⟩) 0 0) (.slice x23p x23l x23c) w213 fun q24_19p q24_19l q24_19c w214 =>
  cellsAt w214 ⟨b3, 5, none⟩ [.int .i64 x26_0, .string x26_1, .string x26_2, .slice x26_3p x26_3l x26_3c, .slice x26_4p x26_4l x26_4c, .string x26_5] ∧
  (
  callJ Tryz.prog fn_ref05_Twin #[.agg ⟨[.int .i64 x26_0, .string x26_1, .string x26_2, .slice x26_3p x26_3l x26_3c, .slice x26_4p x26_4l x26_4c, .string x26_5]⟩] w214 [.agg [.int .i64, .str, .str, .slice, .slice, .str]] fun (r27_34_0 : Int) (r27_34_1 : ByteArray) (r27_34_2 : ByteArray) (r27_34_3p : Option Addr) (r27_34_3l : Nat) (r27_34_3c : Nat) (r27_34_4p : Option Addr) (r27_34_4l : Nat) (r27_34_4c : Nat) (r27_34_5 : ByteArray) (w215 : World) =>
  newB w215 (.cells (zeroC Tryz.prog T_api_Node) T_api_Node) fun b5_24 w216 =>
  cellsAt w216 ⟨b3, 5, none⟩ [.int .i64 x26_0, .string x26_1, .string x26_2, .slice x26_3p x26_3l x26_3c, .slice x26_4p x26_4l x26_4c, .string x26_5] ∧
  w216.cell? ⟨b3, 1, none⟩ = some (.slice x23p x23l x23c) ∧
  cellsAt w216 ⟨b2, 0, none⟩ [.int .i64 x19_0, .string x19_1, .string x19_2, .slice x19_3p x19_3l x19_3c, .slice x19_4p x19_4l x19_4c, .string x19_5] ∧
  stN w216 ⟨b5_24, 0, none⟩ ⟨[.int .i64 r20_4_0, .string r20_4_1, .string r20_4_2, .slice r20_4_3p r20_4_3l r20_4_3c, .slice r20_4_4p r20_4_4l r20_4_4c, .string r20_4_5]⟩ 6 fun w217 =>
  stN w217 ⟨b7_27, 0, none⟩ ⟨[.int .i64 r27_34_0, .string r27_34_1, .string r27_34_2, .slice r27_34_3p r27_34_3l r27_34_3c, .slice r27_34_4p r27_34_4l r27_34_4c, .string r27_34_5]⟩ 6 fun w218 =>
  J_5 (some ⟨b5_24, 0, none⟩) q24_19p q24_19l q24_19c (some ⟨b7_27, 0, none⟩) w218) ∧ (
  newB w214 (.cells (zeroC Tryz.prog T_api_Node) T_api_Node) fun b5_25 w219 =>
  cellsAt w219 ⟨b3, 5, none⟩ [.int .i64 x26_0, .string x26_1, .string x26_2, .slice x26_3p x26_3l x26_3c, .slice x26_4p x26_4l x26_4c, .string x26_5] ∧
  w219.cell? ⟨b3, 1, none⟩ = some (.slice x23p x23l x23c) ∧
  cellsAt w219 ⟨b2, 0, none⟩ [.int .i64 x19_0, .string x19_1, .string x19_2, .slice x19_3p x19_3l x19_3c, .slice x19_4p x19_4l x19_4c, .string x19_5] ∧
  callJ Tryz.prog fn_ref05_Twin #[.agg ⟨[.int .i64 x26_0, .string x26_1, .string x26_2, .slice x26_3p x26_3l x26_3c, .slice x26_4p x26_4l x26_4c, .string x26_5]⟩] w219 [.agg [.int .i64, .str, .str, .slice, .slice, .str]] fun (r27_35_0 : Int) (r27_35_1 : ByteArray) (r27_35_2 : ByteArray) (r27_35_3p : Option Addr) (r27_35_3l : Nat) (r27_35_3c : Nat) (r27_35_4p : Option Addr) (r27_35_4l : Nat) (r27_35_4c : Nat) (r27_35_5 : ByteArray) (w220 : World) =>
  stN w220 ⟨b5_25, 0, none⟩ ⟨[.int .i64 r20_4_0, .string r20_4_1, .string r20_4_2, .slice r20_4_3p r20_4_3l r20_4_3c, .slice r20_4_4p r20_4_4l r20_4_4c, .string r20_4_5]⟩ 6 fun w221 =>
  stN w221 ⟨b7_27, 0, none⟩ ⟨[.int .i64 r27_35_0, .string r27_35_1, .string r27_35_2, .slice r27_35_3p r27_35_3l r27_35_3c, .slice r27_35_4p r27_35_4l r27_35_4c, .string r27_35_5]⟩ 6 fun w222 =>
  J_5 (some ⟨b5_25, 0, none⟩) q24_19p q24_19l q24_19c (some ⟨b7_27, 0, none⟩) w222)) ∧ (
  newB w213 (.cells (zeroC Tryz.prog T_api_Node) T_api_Node) fun b5_26 w223 =>
  cellsAt w223 ⟨b3, 5, none⟩ [.int .i64 x26_0, .string x26_1, .string x26_2, .slice x26_3p x26_3l x26_3c, .slice x26_4p x26_4l x26_4c, .string x26_5] ∧
  w223.cell? ⟨b3, 1, none⟩ = some (.slice x23p x23l x23c) ∧
  cellsAt w223 ⟨b2, 0, none⟩ [.int .i64 x19_0, .string x19_1, .string x19_2, .slice x19_3p x19_3l x19_3c, .slice x19_4p x19_4l x19_4c, .string x19_5] ∧
  appJ Tryz.prog T_sl_int T_sl_int (.slice (some ⟨b21_5, 0, none⟩) 0 0) (.slice x23p x23l x23c) w223 fun q24_20p q24_20l q24_20c w224 =>
  cellsAt w224 ⟨b3, 5, none⟩ [.int .i64 x26_0, .string x26_1, .string x26_2, .slice x26_3p x26_3l x26_3c, .slice x26_4p x26_4l x26_4c, .string x26_5] ∧
  callJ Tryz.prog fn_ref05_Twin #[.agg ⟨[.int .i64 x26_0, .string x26_1, .string x26_2, .slice x26_3p x26_3l x26_3c, .slice x26_4p x26_4l x26_4c, .string x26_5]⟩] w224 [.agg [.int .i64, .str, .str, .slice, .slice, .str]] fun (r27_36_0 : Int) (r27_36_1 : ByteArray) (r27_36_2 : ByteArray) (r27_36_3p : Option Addr) (r27_36_3l : Nat) (r27_36_3c : Nat) (r27_36_4p : Option Addr) (r27_36_4l : Nat) (r27_36_4c : Nat) (r27_36_5 : ByteArray) (w225 : World) =>
  stN w225 ⟨b5_26, 0, none⟩ ⟨[.int .i64 r20_4_0, .string r20_4_1, .string r20_4_2, .slice r20_4_3p r20_4_3l r20_4_3c, .slice r20_4_4p r20_4_4l r20_4_4c, .string r20_4_5]⟩ 6 fun w226 =>
  stN w226 ⟨b7_27, 0, none⟩ ⟨[.int .i64 r27_36_0, .string r27_36_1, .string r27_36_2, .slice r27_36_3p r27_36_3l r27_36_3c, .slice r27_36_4p r27_36_4l r27_36_4c, .string r27_36_5]⟩ 6 fun w227 =>
  J_5 (some ⟨b5_26, 0, none⟩) q24_20p q24_20l q24_20c (some ⟨b7_27, 0, none⟩) w227)) ∧ (
  newB w212 (.cells (zeroC Tryz.prog T_api_Node) T_api_Node) fun b5_27 w228 =>
  cellsAt w228 ⟨b3, 5, none⟩ [.int .i64 x26_0, .string x26_1, .string x26_2, .slice x26_3p x26_3l x26_3c, .slice x26_4p x26_4l x26_4c, .string x26_5] ∧
  w228.cell? ⟨b3, 1, none⟩ = some (.slice x23p x23l x23c) ∧
  cellsAt w228 ⟨b2, 0, none⟩ [.int .i64 x19_0, .string x19_1, .string x19_2, .slice x19_3p x19_3l x19_3c, .slice x19_4p x19_4l x19_4c, .string x19_5] ∧
  callJ Tryz.prog fn_ref05_Twin #[.agg ⟨[.int .i64 x19_0, .string x19_1, .string x19_2, .slice x19_3p x19_3l x19_3c, .slice x19_4p x19_4l x19_4c, .string x19_5]⟩] w228 [.agg [.int .i64, .str, .str, .slice, .slice, .str]] fun (r20_5_0 : Int) (r20_5_1 : ByteArray) (r20_5_2 : ByteArray) (r20_5_3p : Option Addr) (r20_5_3l : Nat) (r20_5_3c : Nat) (r20_5_4p : Option Addr) (r20_5_4l : Nat) (r20_5_4c : Nat) (r20_5_5 : ByteArray) (w229 : World) =>
  cellsAt w229 ⟨b3, 5, none⟩ [.int .i64 x26_0, .string x26_1, .string x26_2, .slice x26_3p x26_3l x26_3c, .slice x26_4p x26_4l x26_4c, .string x26_5] ∧
  w229.cell? ⟨b3, 1, none⟩ = some (.slice x23p x23l x23c) ∧
  appJ Tryz.prog T_sl_int T_sl_int (.slice (some ⟨b21_5, 0, none⟩) 0 0) (.slice x23p x23l x23c) w229 fun q24_21p q24_21l q24_21c w230 =>
  cellsAt w230 ⟨b3, 5, none⟩ [.int .i64 x26_0, .string x26_1, .string x26_2, .slice x26_3p x26_3l x26_3c, .slice x26_4p x26_4l x26_4c, .string x26_5] ∧
  callJ Tryz.prog fn_ref05_Twin #[.agg ⟨[.int .i64 x26_0, .string x26_1, .string x26_2, .slice x26_3p x26_3l x26_3c, .slice x26_4p x26_4l x26_4c, .string x26_5]⟩] w230 [.agg [.int .i64, .str, .str, .slice, .slice, .str]] fun (r27_37_0 : Int) (r27_37_1 : ByteArray) (r27_37_2 : ByteArray) (r27_37_3p : Option Addr) (r27_37_3l : Nat) (r27_37_3c : Nat) (r27_37_4p : Option Addr) (r27_37_4l : Nat) (r27_37_4c : Nat) (r27_37_5 : ByteArray) (w231 : World) =>
  stN w231 ⟨b5_27, 0, none⟩ ⟨[.int .i64 r20_5_0, .string r20_5_1, .string r20_5_2, .slice r20_5_3p r20_5_3l r20_5_3c, .slice r20_5_4p r20_5_4l r20_5_4c, .string r20_5_5]⟩ 6 fun w232 =>
  stN w232 ⟨b7_27, 0, none⟩ ⟨[.int .i64 r27_37_0, .string r27_37_1, .string r27_37_2, .slice r27_37_3p r27_37_3l r27_37_3c, .slice r27_37_4p r27_37_4l r27_37_4c, .string r27_37_5]⟩ 6 fun w233 =>
  J_5 (some ⟨b5_27, 0, none⟩) q24_21p q24_21l q24_21c (some ⟨b7_27, 0, none⟩) w233)))) ∧ (
  (
  newB w3.drew (.cells (zeroC Tryz.prog T_api_Node) T_api_Node) fun b5_28 w234 =>
  cellsAt w234 ⟨b3, 5, none⟩ [.int .i64 x26_0, .string x26_1, .string x26_2, .slice x26_3p x26_3l x26_3c, .slice x26_4p x26_4l x26_4c, .string x26_5] ∧
  w234.cell? ⟨b3, 1, none⟩ = some (.slice x23p x23l x23c) ∧
  cellsAt w234 ⟨b2, 0, none⟩ [.int .i64 x19_0, .string x19_1, .string x19_2, .slice x19_3p x19_3l x19_3c, .slice x19_4p x19_4l x19_4c, .string x19_5] ∧
  (
  callJ Tryz.prog fn_ref05_Twin #[.agg ⟨[.int .i64 x19_0, .string x19_1, .string x19_2, .slice x19_3p x19_3l x19_3c, .slice x19_4p x19_4l x19_4c, .string x19_5]⟩] w234 [.agg [.int .i64, .str, .str, .slice, .slice, .str]] fun (r20_6_0 : Int) (r20_6_1 : ByteArray) (r20_6_2 : ByteArray) (r20_6_3p : Option Addr) (r20_6_3l : Nat) (r20_6_3c : Nat) (r20_6_4p : Option Addr) (r20_6_4l : Nat) (r20_6_4c : Nat) (r20_6_5 : ByteArray) (w235 : World) =>
  cellsAt w235 ⟨b3, 5, none⟩ [.int .i64 x26_0, .string x26_1, .string x26_2, .slice x26_3p x26_3l x26_3c, .slice x26_4p x26_4l x26_4c, .string x26_5] ∧
  w235.cell? ⟨b3, 1, none⟩ = some (.slice x23p x23l x23c) ∧
  (
  newB w235 (.cells ⟨[]⟩ T_int) fun b21_6 w236 =>
  cellsAt w236 ⟨b3, 5, none⟩ [.int .i64 x26_0, .string x26_1, .string x26_2, .slice x26_3p x26_3l x26_3c, .slice x26_4p x26_4l x26_4c, .string x26_5] ∧
  w236.cell? ⟨b3, 1, none⟩ = some (.slice x23p x23l x23c) ∧
  cellsAt w236 ⟨b2, 0, none⟩ [.int .i64 x19_0, .string x19_1, .string x19_2, .slice x19_3p x19_3l x19_3c, .slice x19_4p x19_4l x19_4c, .string x19_5] ∧
  (
  appJ Tryz.prog T_sl_int T_sl_int (.slice (some ⟨b21_6, 0, none⟩) 0 0) (.slice x23p x23l x23c) w236 fun q24_22p q24_22l q24_22c w237 =>
  cellsAt w237 ⟨b3, 5, none⟩ [.int .i64 x26_0, .string x26_1, .string x26_2, .slice x26_3p x26_3l x26_3c, .slice x26_4p x26_4l x26_4c, .string x26_5] ∧
  (
  callJ Tryz.prog fn_ref05_Twin #[.agg ⟨[.int .i64 x26_0, .string x26_1, .string x26_2, .slice x26_3p x26_3l x26_3c, .slice x26_4p x26_4l x26_4c, .string x26_5]⟩] w237 [.agg [.int .i64, .str, .str, .slice, .slice, .str]] fun (r27_38_0 : Int) (r27_38_1 : ByteArray) (r27_38_2 : ByteArray) (r27_38_3p : Option Addr) (r27_38_3l : Nat) (r27_38_3c : Nat) (r27_38_4p : Option Addr) (r27_38_4l : Nat) (r27_38_4c : Nat) (r27_38_5 : ByteArray) (w238 : World) =>
  newB w238 (.cells (zeroC Tryz.prog T_api_Node) T_api_Node) fun b7_28 w239 =>
  cellsAt w239 ⟨b3, 5, none⟩ [.int .i64 x26_0, .string x26_1, .string x26_2, .slice x26_3p x26_3l x26_3c, .slice x26_4p x26_4l x26_4c, .string x26_5] ∧
  w239.cell? ⟨b3, 1, none⟩ = some (.slice x23p x23l x23c) ∧
  cellsAt w239 ⟨b2, 0, none⟩ [.int .i64 x19_0, .string x19_1, .string x19_2, .slice x19_3p x19_3l x19_3c, .slice x19_4p x19_4l x19_4c, .string x19_5] ∧
  stN w239 ⟨b5_28, 0, none⟩ ⟨[.int .i64 r20_6_0, .string r20_6_1, .string r20_6_2, .slice r20_6_3p r20_6_3l r20_6_3c, .slice r20_6_4p r20_6_4l r20_6_4c, .string r20_6_5]⟩ 6 fun w240 =>
  stN w240 ⟨b7_28, 0, none⟩ ⟨[.int .i64 r27_38_0, .string r27_38_1, .string r27_38_2, .slice r27_38_3p r27_38_3l r27_38_3c, .slice r27_38_4p r27_38_4l r27_38_4c, .string r27_38_5]⟩ 6 fun w241 =>
  J_5 (some ⟨b5_28, 0, none⟩) q24_22p q24_22l q24_22c (some ⟨b7_28, 0, none⟩) w241) ∧ (
  newB w237 (.cells (zeroC Tryz.prog T_api_Node) T_api_Node) fun b7_29 w242 =>
  cellsAt w242 ⟨b3, 5, none⟩ [.int .i64 x26_0, .string x26_1, .string x26_2, .slice x26_3p x26_3l x26_3c, .slice x26_4p x26_4l x26_4c, .string x26_5] ∧
  w242.cell? ⟨b3, 1, none⟩ = some (.slice x23p x23l x23c) ∧
  cellsAt w242 ⟨b2, 0, none⟩ [.int .i64 x19_0, .string x19_1, .string x19_2, .slice x19_3p x19_3l x19_3c, .slice x19_4p x19_4l x19_4c, .string x19_5] ∧
  callJ Tryz.prog fn_ref05_Twin #[.agg ⟨[.int .i64 x26_0, .string x26_1, .string x26_2, .slice x26_3p x26_3l x26_3c, .slice x26_4p x26_4l x26_4c, .string x26_5]⟩] w242 [.agg [.int .i64, .str, .str, .slice, .slice, .str]] fun (r27_39_0 : Int) (r27_39_1 : ByteArray) (r27_39_2 : ByteArray) (r27_39_3p : Option Addr) (r27_39_3l : Nat) (r27_39_3c : Nat) (r27_39_4p : Option Addr) (r27_39_4l : Nat) (r27_39_4c : Nat) (r27_39_5 : ByteArray) (w243 : World) =>
  stN w243 ⟨b5_28, 0, none⟩ ⟨[.int .i64 r20_6_0, .string r20_6_1, .string r20_6_2, .slice r20_6_3p r20_6_3l r20_6_3c, .slice r20_6_4p r20_6_4l r20_6_4c, .string r20_6_5]⟩ 6 fun w244 =>
  stN w244 ⟨b7_29, 0, none⟩ ⟨[.int .i64 r27_39_0, .string r27_39_1, .string r27_39_2, .slice r27_39_3p r27_39_3l r27_39_3c, .slice r27_39_4p r27_39_4l r27_39_4c, .string r27_39_5]⟩ 6 fun w245 =>
  J_5 (some ⟨b5_28, 0, none⟩) q24_22p q24_22l q24_22c (some ⟨b7_29, 0, none⟩) w245)) ∧ (
  newB w236 (.cells (zeroC Tryz.prog T_api_Node) T_api_Node) fun b7_30 w246 =>
  cellsAt w246 ⟨b3, 5, none⟩ [.int .i64 x26_0, .string x26_1, .string x26_2, .slice x26_3p x26_3l x26_3c, .slice x26_4p x26_4l x26_4c, .string x26_5] ∧
  w246.cell? ⟨b3, 1, none⟩ = some (.slice x23p x23l x23c) ∧
  cellsAt w246 ⟨b2, 0, none⟩ [.int .i64 x19_0, .string x19_1, .string x19_2, .slice x19_3p x19_3l x19_3c, .slice x19_4p x19_4l x19_4c, .string x19_5] ∧
  appJ Tryz.prog T_sl_int T_sl_int (.slice (some ⟨b21_6, 0, none⟩) 0 0) (.slice x23p x23l x23c) w246 fun q24_23p q24_23l q24_23c w247 =>
  cellsAt w247 ⟨b3, 5, none⟩ [.int .i64 x26_0, .string x26_1, .string x26_2, .slice x26_3p x26_3l x26_3c, .slice x26_4p x26_4l x26_4c, .string x26_5] ∧
  callJ Tryz.prog fn_ref05_Twin #[.agg ⟨[.int .i64 x26_0, .string x26_1, .string x26_2, .slice x26_3p x26_3l x26_3c, .slice x26_4p x26_4l x26_4c, .string x26_5]⟩] w247 [.agg [.int .i64, .str, .str, .slice, .slice, .str]] fun (r27_40_0 : Int) (r27_40_1 : ByteArray) (r27_40_2 : ByteArray) (r27_40_3p : Option Addr) (r27_40_3l : Nat) (r27_40_3c : Nat) (r27_40_4p : Option Addr) (r27_40_4l : Nat) (r27_40_4c : Nat) (r27_40_5 : ByteArray) (w248 : World) =>
  stN w248 ⟨b5_28, 0, none⟩ ⟨[.int .i64 r20_6_0, .string r20_6_1, .string r20_6_2, .slice r20_6_3p r20_6_3l r20_6_3c, .slice r20_6_4p r20_6_4l r20_6_4c, .string r20_6_5]⟩ 6 fun w249 =>
  stN w249 ⟨b7_30, 0, none⟩ ⟨[.int .i64 r27_40_0, .string r27_40_1, .string r27_40_2, .slice r27_40_3p r27_40_3l r27_40_3c, .slice r27_40_4p r27_40_4l r27_40_4c, .string r27_40_5]⟩ 6 fun w250 =>
  J_5 (some ⟨b5_28, 0, none⟩) q24_23p q24_23l q24_23c (some ⟨b7_30, 0, none⟩) w250)) ∧ (
  newB w235 (.cells (zeroC Tryz.prog T_api_Node) T_api_Node) fun b7_31 w251 =>
  cellsAt w251 ⟨b3, 5, none⟩ [.int .i64 x26_0, .string x26_1, .string x26_2, .slice x26_3p x26_3l x26_3c, .slice x26_4p x26_4l x26_4c, .string x26_5] ∧
  w251.cell? ⟨b3, 1, none⟩ = some (.slice x23p x23l x23c) ∧
  cellsAt w251 ⟨b2, 0, none⟩ [.int .i64 x19_0, .string x19_1, .string x19_2, .slice x19_3p x19_3l x19_3c, .slice x19_4p x19_4l x19_4c, .string x19_5] ∧
  newB w251 (.cells ⟨[]⟩ T_int) fun b21_7 w252 =>
  cellsAt w252 ⟨b3, 5, none⟩ [.int .i64 x26_0, .string x26_1, .string x26_2, .slice x26_3p x26_3l x26_3c, .slice x26_4p x26_4l x26_4c, .string x26_5] ∧
  w252.cell? ⟨b3, 1, none⟩ = some (.slice x23p x23l x23c) ∧
  cellsAt w252 ⟨b2, 0, none⟩ [.int .i64 x19_0, .string x19_1, .string x19_2, .slice x19_3p x19_3l x19_3c, .slice x19_4p x19_4l x19_4c, .string x19_5] ∧
  appJ Tryz.prog T_sl_int T_sl_int (.slice (some ⟨b21_7, 0, none⟩) 0 0) (.slice x23p x23l x23c) w252 fun q24_24p q24_24l q24_24c w253 =>
  cellsAt w253 ⟨b3, 5, none⟩ [.int .i64 x26_0, .string x26_1, .string x26_2, .slice x26_3p x26_3l x26_3c, .slice x26_4p x26_4l x26_4c, .string x26_5] ∧
  callJ Tryz.prog fn_ref05_Twin #[.agg ⟨[.int .i64 x26_0, .string x26_1, .string x26_2, .slice x26_3p x26_3l x26_3c, .slice x26_4p x26_4l x26_4c, .string x26_5]⟩] w253 [.agg [.int .i64, .str, .str, .slice, .slice, .str]] fun (r27_41_0 : Int) (r27_41_1 : ByteArray) (r27_41_2 : ByteArray) (r27_41_3p : Option Addr) (r27_41_3l : Nat) (r27_41_3c : Nat) (r27_41_4p : Option Addr) (r27_41_4l : Nat) (r27_41_4c : Nat) (r27_41_5 : ByteArray) (w254 : World) =>
  stN w254 ⟨b5_28, 0, none⟩ ⟨[.int .i64 r20_6_0, .string r20_6_1, .string r20_6_2, .slice r20_6_3p r20_6_3l r20_6_3c, .slice r20_6_4p r20_6_4l r20_6_4c, .string r20_6_5]⟩ 6 fun w255 =>
  stN w255 ⟨b7_31, 0, none⟩ ⟨[.int .i64 r27_41_0, .string r27_41_1, .string r27_41_2, .slice r27_41_3p r27_41_3l r27_41_3c, .slice r27_41_4p r27_41_4l r27_41_4c, .string r27_41_5]⟩ 6 fun w256 =>
  J_5 (some ⟨b5_28, 0, none⟩) q24_24p q24_24l q24_24c (some ⟨b7_31, 0, none⟩) w256)) ∧ (
  (
  newB w234 (.cells ⟨[]⟩ T_int) fun b21_8 w257 =>
  cellsAt w257 ⟨b3, 5, none⟩ [.int .i64 x26_0, .string x26_1, .string x26_2, .slice x26_3p x26_3l x26_3c, .slice x26_4p x26_4l x26_4c, .string x26_5] ∧
  w257.cell? ⟨b3, 1, none⟩ = some (.slice x23p x23l x23c) ∧
  cellsAt w257 ⟨b2, 0, none⟩ [.int .i64 x19_0, .string x19_1, .string x19_2, .slice x19_3p x19_3l x19_3c, .slice x19_4p x19_4l x19_4c, .string x19_5] ∧
  (
  callJ Tryz.prog fn_ref05_Twin #[.agg ⟨[.int .i64 x19_0, .string x19_1, .string x19_2, .slice x19_3p x19_3l x19_3c, .slice x19_4p x19_4l x19_4c, .string x19_5]⟩] w257 [.agg [.int .i64, .str, .str, .slice, .slice, .str]] fun (r20_7_0 : Int) (r20_7_1 : ByteArray) (r20_7_2 : ByteArray) (r20_7_3p : Option Addr) (r20_7_3l : Nat) (r20_7_3c : Nat) (r20_7_4p : Option Addr) (r20_7_4l : Nat) (r20_7_4c : Nat) (r20_7_5 : ByteArray) (w258 : World) =>
  cellsAt w258 ⟨b3, 5, none⟩ [.int .i64 x26_0, .string x26_1, .string x26_2, .slice x26_3p x26_3l x26_3c, .slice x26_4p x26_4l x26_4c, .string x26_5] ∧
  w258.cell? ⟨b3, 1, none⟩ = some (.slice x23p x23l x23c) ∧
  (
  appJ Tryz.prog T_sl_int T_sl_int (.slice (some ⟨b21_8, 0, none⟩) 0 0) (.slice x23p x23l x23c) w258 fun q24_25p q24_25l q24_25c w259 =>
  cellsAt w259 ⟨b3, 5, none⟩ [.int .i64 x26_0, .string x26_1, .string x26_2, .slice x26_3p x26_3l x26_3c, .slice x26_4p x26_4l x26_4c, .string x26_5] ∧
  (
  callJ Tryz.prog fn_ref05_Twin #[.agg ⟨[.int .i64 x26_0, .string x26_1, .string x26_2, .slice x26_3p x26_3l x26_3c, .slice x26_4p x26_4l x26_4c, .string x26_5]⟩] w259 [.agg [.int .i64, .str, .str, .slice, .slice, .str]] fun (r27_42_0 : Int) (r27_42_1 : ByteArray) (r27_42_2 : ByteArray) (r27_42_3p : Option Addr) (r27_42_3l : Nat) (r27_42_3c : Nat) (r27_42_4p : Option Addr) (r27_42_4l : Nat) (r27_42_4c : Nat) (r27_42_5 : ByteArray) (w260 : World) =>
  newB w260 (.cells (zeroC Tryz.prog T_api_Node) T_api_Node) fun b7_32 w261 =>
  cellsAt w261 ⟨b3, 5, none⟩ [.int .i64 x26_0, .string x26_1, .string x26_2, .slice x26_3p x26_3l x26_3c, .slice x26_4p x26_4l x26_4c, .string x26_5] ∧
  w261.cell? ⟨b3, 1, none⟩ = some (.slice x23p x23l x23c) ∧
  cellsAt w261 ⟨b2, 0, none⟩ [.int .i64 x19_0, .string x19_1, .string x19_2, .slice x19_3p x19_3l x19_3c, .slice x19_4p x19_4l x19_4c, .string x19_5] ∧
  stN w261 ⟨b5_28, 0, none⟩ ⟨[.int .i64 r20_7_0, .string r20_7_1, .string r20_7_2, .slice r20_7_3p r20_7_3l r20_7_3c, .slice r20_7_4p r20_7_4l r20_7_4c, .string r20_7_5]⟩ 6 fun w262 =>
  stN w262 ⟨b7_32, 0, none⟩ ⟨[.int .i64 r27_42_0, .string r27_42_1, .string r27_42_2, .slice r27_42_3p r27_42_3l r27_42_3c, .slice r27_42_4p r27_42_4l r27_42_4c, .string r27_42_5]⟩ 6 fun w263 =>
  J_5 (some ⟨b5_28, 0, none⟩) q24_25p q24_25l q24_25c (some ⟨b7_32, 0, none⟩) w263) ∧ (
  newB w259 (.cells (zeroC Tryz.prog T_api_Node) T_api_Node) fun b7_33 w264 =>
  cellsAt w264 ⟨b3, 5, none⟩ [.int .i64 x26_0, .string x26_1, .string x26_2, .slice x26_3p x26_3l x26_3c, .slice x26_4p x26_4l x26_4c, .string x26_5] ∧
  w264.cell? ⟨b3, 1, none⟩ = some (.slice x23p x23l x23c) ∧
  cellsAt w264 ⟨b2, 0, none⟩ [.int .i64 x19_0, .string x19_1, .string x19_2, .slice x19_3p x19_3l x19_3c, .slice x19_4p x19_4l x19_4c, .string x19_5] ∧
  callJ Tryz.prog fn_ref05_Twin #[.agg ⟨[.int .i64 x26_0, .string x26_1, .string x26_2, .slice x26_3p x26_3l x26_3c, .slice x26_4p x26_4l x26_4c, .string x26_5]⟩] w264 [.agg [.int .i64, .str, .str, .slice, .slice, .str]] fun (r27_43_0 : Int) (r27_43_1 : ByteArray) (r27_43_2 : ByteArray) (r27_43_3p : Option Addr) (r27_43_3l : Nat) (r27_43_3c : Nat) (r27_43_4p : Option Addr) (r27_43_4l : Nat) (r27_43_4c : Nat) (r27_43_5 : ByteArray) (w265 : World) =>
  stN w265 ⟨b5_28, 0, none⟩ ⟨[.int .i64 r20_7_0, .string r20_7_1, .string r20_7_2, .slice r20_7_3p r20_7_3l r20_7_3c, .slice r20_7_4p r20_7_4l r20_7_4c, .string r20_7_5]⟩ 6 fun w266 =>
  stN w266 ⟨b7_33, 0, none⟩ ⟨[.int .i64 r27_43_0, .string r27_43_1, .string r27_43_2, .slice r27_43_3p r27_43_3l r27_43_3c, .slice r27_43_4p r27_43_4l r27_43_4c, .string r27_43_5]⟩ 6 fun w267 =>
  J_5 (some ⟨b5_28, 0, none⟩) q24_25p q24_25l q24_25c (some ⟨b7_33, 0, none⟩) w267)) ∧ (
  newB w258 (.cells (zeroC Tryz.prog T_api_Node) T_api_Node) fun b7_34 w268 =>
  cellsAt w268 ⟨b3, 5, none⟩ [.int .i64 x26_0, .string x26_1, .string x26_2, .slice x26_3p x26_3l x26_3c, .slice x26_4p x26_4l x26_4c, .string x26_5] ∧
  w268.cell? ⟨b3, 1, none⟩ = some (.slice x23p x23l x23c) ∧
  cellsAt w268 ⟨b2, 0, none⟩ [.int .i64 x19_0, .string x19_1, .string x19_2, .slice x19_3p x19_3l x19_3c, .slice x19_4p x19_4l x19_4c, .string x19_5] ∧
  appJ Tryz.prog T_sl_int T_sl_int (.slice (some ⟨b21_8, 0, none⟩) 0 0) (.slice x23p x23l x23c) w268 fun q24_26p q24_26l q24_26c w269 =>
  cellsAt w269 ⟨b3, 5, none⟩ [.int .i64 x26_0, .string x26_1, .string x26_2, .slice x26_3p x26_3l x26_3c, .slice x26_4p x26_4l x26_4c, .string x26_5] ∧
  callJ Tryz.prog fn_ref05_Twin #[.agg ⟨[.int .i64 x26_0, .string x26_1, .string x26_2, .slice x26_3p x26_3l x26_3c, .slice x26_4p x26_4l x26_4c, .string x26_5]⟩] w269 [.agg [.int .i64, .str, .str, .slice, .slice, .str]] fun (r27_44_0 : Int) (r27_44_1 : ByteArray) (r27_44_2 : ByteArray) (r27_44_3p : Option Addr) (r27_44_3l : Nat) (r27_44_3c : Nat) (r27_44_4p : Option Addr) (r27_44_4l : Nat) (r27_44_4c : Nat) (r27_44_5 : ByteArray) (w270 : World) =>
  stN w270 ⟨b5_28, 0, none⟩ ⟨[.int .i64 r20_7_0, .string r20_7_1, .string r20_7_2, .slice r20_7_3p r20_7_3l r20_7_3c, .slice r20_7_4p r20_7_4l r20_7_4c, .string r20_7_5]⟩ 6 fun w271 =>
  stN w271 ⟨b7_34, 0, none⟩ ⟨[.int .i64 r27_44_0, .string r27_44_1, .string r27_44_2, .slice r27_44_3p r27_44_3l r27_44_3c, .slice r27_44_4p r27_44_4l r27_44_4c, .string r27_44_5]⟩ 6 fun w272 =>
  J_5 (some ⟨b5_28, 0, none⟩) q24_26p q24_26l q24_26c (some ⟨b7_34, 0, none⟩) w272)) ∧ (
  newB w257 (.cells (zeroC Tryz.prog T_api_Node) T_api_Node) fun b7_35 w273 =>
  cellsAt w273 ⟨b3, 5, none⟩ [.int .i64 x26_0, .string x26_1, .string x26_2, .slice x26_3p x26_3l x26_3c, .slice x26_4p x26_4l x26_4c, .string x26_5] ∧
  w273.cell? ⟨b3, 1, none⟩ = some (.slice x23p x23l x23c) ∧
  cellsAt w273 ⟨b2, 0, none⟩ [.int .i64 x19_0, .string x19_1, .string x19_2, .slice x19_3p x19_3l x19_3c, .slice x19_4p x19_4l x19_4c, .string x19_5] ∧
  callJ Tryz.prog fn_ref05_Twin #[.agg ⟨[.int .i64 x19_0, .string x19_1, .string x19_2, .slice x19_3p x19_3l x19_3c, .slice x19_4p x19_4l x19_4c, .string x19_5]⟩] w273 [.agg [.int .i64, .str, .str, .slice, .slice, .str]] fun (r20_8_0 : Int) (r20_8_1 : ByteArray) (r20_8_2 : ByteArray) (r20_8_3p : Option Addr) (r20_8_3l : Nat) (r20_8_3c : Nat) (r20_8_4p : Option Addr) (r20_8_4l : Nat) (r20_8_4c : Nat) (r20_8_5 : ByteArray) (w274 : World) =>
  cellsAt w274 ⟨b3, 5, none⟩ [.int .i64 x26_0, .string x26_1, .string x26_2, .slice x26_3p x26_3l x26_3c, .slice x26_4p x26_4l x26_4c, .string x26_5] ∧
  w274.cell? ⟨b3, 1, none⟩ = some (.slice x23p x23l x23c) ∧
  appJ Tryz.prog T_sl_int T_sl_int (.slice (some ⟨b21_8, 0, none⟩) 0 0) (.slice x23p x23l x23c) w274 fun q24_27p q24_27l q24_27c w275 =>
  cellsAt w275 ⟨b3, 5, none⟩ [.int .i64 x26_0, .string x26_1, .string x26_2, .slice x26_3p x26_3l x26_3c, .slice x26_4p x26_4l x26_4c, .string x26_5] ∧
  callJ Tryz.prog fn_ref05_Twin #[.agg ⟨[.int .i64 x26_0, .string x26_1, .string x26_2, .slice x26_3p x26_3l x26_3c, .slice x26_4p x26_4l x26_4c, .string x26_5]⟩] w275 [.agg [.int .i64, .str, .str, .slice, .slice, .str]] fun (r27_45_0 : Int) (r27_45_1 : ByteArray) (r27_45_2 : ByteArray) (r27_45_3p : Option Addr) (r27_45_3l : Nat) (r27_45_3c : Nat) (r27_45_4p : Option Addr) (r27_45_4l : Nat) (r27_45_4c : Nat) (r27_45_5 : ByteArray) (w276 : World) =>
  stN w276 ⟨b5_28, 0, none⟩ ⟨[.int .i64 r20_8_0, .string r20_8_1, .string r20_8_2, .slice r20_8_3p r20_8_3l r20_8_3c, .slice r20_8_4p r20_8_4l r20_8_4c, .string r20_8_5]⟩ 6 fun w277 =>
  stN w277 ⟨b7_35, 0, none⟩ ⟨[.int .i64 r27_45_0, .string r27_45_1, .string r27_45_2, .slice r27_45_3p r27_45_3l r27_45_3c, .slice r27_45_4p r27_45_4l r27_45_4c, .string r27_45_5]⟩ 6 fun w278 =>
  J_5 (some ⟨b5_28, 0, none⟩) q24_27p q24_27l q24_27c (some ⟨b7_35, 0, none⟩) w278)) ∧ (
  newB w234 (.cells (zeroC Tryz.prog T_api_Node) T_api_Node) fun b7_36 w279 =>
  cellsAt w279 ⟨b3, 5, none⟩ [.int .i64 x26_0, .string x26_1, .string x26_2, .slice x26_3p x26_3l x26_3c, .slice x26_4p x26_4l x26_4c, .string x26_5] ∧
  w279.cell? ⟨b3, 1, none⟩ = some (.slice x23p x23l x23c) ∧
  cellsAt w279 ⟨b2, 0, none⟩ [.int .i64 x19_0, .string x19_1, .string x19_2, .slice x19_3p x19_3l x19_3c, .slice x19_4p x19_4l x19_4c, .string x19_5] ∧
  (
  callJ Tryz.prog fn_ref05_Twin #[.agg ⟨[.int .i64 x19_0, .string x19_1, .string x19_2, .slice x19_3p x19_3l x19_3c, .slice x19_4p x19_4l x19_4c, .string x19_5]⟩] w279 [.agg [.int .i64, .str, .str, .slice, .slice, .str]] fun (r20_9_0 : Int) (r20_9_1 : ByteArray) (r20_9_2 : ByteArray) (r20_9_3p : Option Addr) (r20_9_3l : Nat) (r20_9_3c : Nat) (r20_9_4p : Option Addr) (r20_9_4l : Nat) (r20_9_4c : Nat) (r20_9_5 : ByteArray) (w280 : World) =>
  cellsAt w280 ⟨b3, 5, none⟩ [.int .i64 x26_0, .string x26_1, .string x26_2, .slice x26_3p x26_3l x26_3c, .slice x26_4p x26_4l x26_4c, .string x26_5] ∧
  w280.cell? ⟨b3, 1, none⟩ = some (.slice x23p x23l x23c) ∧
  newB w280 (.cells ⟨[]⟩ T_int) fun b21_9 w281 =>
  cellsAt w281 ⟨b3, 5, none⟩ [.int .i64 x26_0, .string x26_1, .string x26_2, .slice x26_3p x26_3l x26_3c, .slice x26_4p x26_4l x26_4c, .string x26_5] ∧
  w281.cell? ⟨b3, 1, none⟩ = some (.slice x23p x23l x23c) ∧
  cellsAt w281 ⟨b2, 0, none⟩ [.int .i64 x19_0, .string x19_1, .string x19_2, .slice x19_3p x19_3l x19_3c, .slice x19_4p x19_4l x19_4c, .string x19_5] ∧
  appJ Tryz.prog T_sl_int T_sl_int (.slice (some ⟨b21_9, 0, none⟩) 0 0) (.slice x23p x23l x23c) w281 fun q24_28p q24_28l q24_28c w282 =>
  cellsAt w282 ⟨b3, 5, none⟩ [.int .i64 x26_0, .string x26_1, .string x26_2, .slice x26_3p x26_3l x26_3c, .slice x26_4p x26_4l x26_4c, .string x26_5] ∧
  callJ Tryz.prog fn_ref05_Twin #[.agg ⟨[.int .i64 x26_0, .string x26_1, .string x26_2, .slice x26_3p x26_3l x26_3c, .slice x26_4p x26_4l x26_4c, .string x26_5]⟩] w282 [.agg [.int .i64, .str, .str, .slice, .slice, .str]] fun (r27_46_0 : Int) (r27_46_1 : ByteArray) (r27_46_2 : ByteArray) (r27_46_3p : Option Addr) (r27_46_3l : Nat) (r27_46_3c : Nat) (r27_46_4p : Option Addr) (r27_46_4l : Nat) (r27_46_4c : Nat) (r27_46_5 : ByteArray) (w283 : World) =>
  stN w283 ⟨b5_28, 0, none⟩ ⟨[.int .i64 r20_9_0, .string r20_9_1, .string r20_9_2, .slice r20_9_3p r20_9_3l r20_9_3c, .slice r20_9_4p r20_9_4l r20_9_4c, .string r20_9_5]⟩ 6 fun w284 =>
  stN w284 ⟨b7_36, 0, none⟩ ⟨[.int .i64 r27_46_0, .string r27_46_1, .string r27_46_2, .slice r27_46_3p r27_46_3l r27_46_3c, .slice r27_46_4p r27_46_4l r27_46_4c, .string r27_46_5]⟩ 6 fun w285 =>
  J_5 (some ⟨b5_28, 0, none⟩) q24_28p q24_28l q24_28c (some ⟨b7_36, 0, none⟩) w285) ∧ (
  newB w279 (.cells ⟨[]⟩ T_int) fun b21_10 w286 =>
  cellsAt w286 ⟨b3, 5, none⟩ [.int .i64 x26_0, .string x26_1, .string x26_2, .slice x26_3p x26_3l x26_3c, .slice x26_4p x26_4l x26_4c, .string x26_5] ∧
  w286.cell? ⟨b3, 1, none⟩ = some (.slice x23p x23l x23c) ∧
  cellsAt w286 ⟨b2, 0, none⟩ [.int .i64 x19_0, .string x19_1, .string x19_2, .slice x19_3p x19_3l x19_3c, .slice x19_4p x19_4l x19_4c, .string x19_5] ∧
  callJ Tryz.prog fn_ref05_Twin #[.agg ⟨[.int .i64 x19_0, .string x19_1, .string x19_2, .slice x19_3p x19_3l x19_3c, .slice x19_4p x19_4l x19_4c, .string x19_5]⟩] w286 [.agg [.int .i64, .str, .str, .slice, .slice, .str]] fun (r20_10_0 : Int) (r20_10_1 : ByteArray) (r20_10_2 : ByteArray) (r20_10_3p : Option Addr) (r20_10_3l : Nat) (r20_10_3c : Nat) (r20_10_4p : Option Addr) (r20_10_4l : Nat) (r20_10_4c : Nat) (r20_10_5 : ByteArray) (w287 : World) =>
  cellsAt w287 ⟨b3, 5, none⟩ [.int .i64 x26_0, .string x26_1, .string x26_2, .slice x26_3p x26_3l x26_3c, .slice x26_4p x26_4l x26_4c, .string x26_5] ∧
  w287.cell? ⟨b3, 1, none⟩ = some (.slice x23p x23l x23c) ∧
  appJ Tryz.prog T_sl_int T_sl_int (.slice (some ⟨b21_10, 0, none⟩) 0 0) (.slice x23p x23l x23c) w287 fun q24_29p q24_29l q24_29c w288 =>
  cellsAt w288 ⟨b3, 5, none⟩ [.int .i64 x26_0, .string x26_1, .string x26_2, .slice x26_3p x26_3l x26_3c, .slice x26_4p x26_4l x26_4c, .string x26_5] ∧
  callJ Tryz.prog fn_ref05_Twin #[.agg ⟨[.int .i64 x26_0, .string x26_1, .string x26_2, .slice x26_3p x26_3l x26_3c, .slice x26_4p x26_4l x26_4c, .string x26_5]⟩] w288 [.agg [.int .i64, .str, .str, .slice, .slice, .str]] fun (r27_47_0 : Int) (r27_47_1 : ByteArray) (r27_47_2 : ByteArray) (r27_47_3p : Option Addr) (r27_47_3l : Nat) (r27_47_3c : Nat) (r27_47_4p : Option Addr) (r27_47_4l : Nat) (r27_47_4c : Nat) (r27_47_5 : ByteArray) (w289 : World) =>
  stN w289 ⟨b5_28, 0, none⟩ ⟨[.int .i64 r20_10_0, .string r20_10_1, .string r20_10_2, .slice r20_10_3p r20_10_3l r20_10_3c, .slice r20_10_4p r20_10_4l r20_10_4c, .string r20_10_5]⟩ 6 fun w290 =>
  stN w290 ⟨b7_36, 0, none⟩ ⟨[.int .i64 r27_47_0, .string r27_47_1, .string r27_47_2, .slice r27_47_3p r27_47_3l r27_47_3c, .slice r27_47_4p r27_47_4l r27_47_4c, .string r27_47_5]⟩ 6 fun w291 =>
  J_5 (some ⟨b5_28, 0, none⟩) q24_29p q24_29l q24_29c (some ⟨b7_36, 0, none⟩) w291)))) ∧ (
  newB w3.drew (.cells (zeroC Tryz.prog T_api_Node) T_api_Node) fun b7_37 w292 =>
  cellsAt w292 ⟨b3, 5, none⟩ [.int .i64 x26_0, .string x26_1, .string x26_2, .slice x26_3p x26_3l x26_3c, .slice x26_4p x26_4l x26_4c, .string x26_5] ∧
  w292.cell? ⟨b3, 1, none⟩ = some (.slice x23p x23l x23c) ∧
  cellsAt w292 ⟨b2, 0, none⟩ [.int .i64 x19_0, .string x19_1, .string x19_2, .slice x19_3p x19_3l x19_3c, .slice x19_4p x19_4l x19_4c, .string x19_5] ∧
  (
  callJ Tryz.prog fn_ref05_Twin #[.agg ⟨[.int .i64 x19_0, .string x19_1, .string x19_2, .slice x19_3p x19_3l x19_3c, .slice x19_4p x19_4l x19_4c, .string x19_5]⟩] w292 [.agg [.int .i64, .str, .str, .slice, .slice, .str]] fun (r20_11_0 : Int) (r20_11_1 : ByteArray) (r20_11_2 : ByteArray) (r20_11_3p : Option Addr) (r20_11_3l : Nat) (r20_11_3c : Nat) (r20_11_4p : Option Addr) (r20_11_4l : Nat) (r20_11_4c : Nat) (r20_11_5 : ByteArray) (w293 : World) =>
  cellsAt w293 ⟨b3, 5, none⟩ [.int .i64 x26_0, .string x26_1, .string x26_2, .slice x26_3p x26_3l x26_3c, .slice x26_4p x26_4l x26_4c, .string x26_5] ∧
  w293.cell? ⟨b3, 1, none⟩ = some (.slice x23p x23l x23c) ∧
  (
  newB w293 (.cells ⟨[]⟩ T_int) fun b21_11 w294 =>
  cellsAt w294 ⟨b3, 5, none⟩ [.int .i64 x26_0, .string x26_1, .string x26_2, .slice x26_3p x26_3l x26_3c, .slice x26_4p x26_4l x26_4c, .string x26_5] ∧
  w294.cell? ⟨b3, 1, none⟩ = some (.slice x23p x23l x23c) ∧
  cellsAt w294 ⟨b2, 0, none⟩ [.int .i64 x19_0, .string x19_1, .string x19_2, .slice x19_3p x19_3l x19_3c, .slice x19_4p x19_4l x19_4c, .string x19_5] ∧
  (
  appJ Tryz.prog T_sl_int T_sl_int (.slice (some ⟨b21_11, 0, none⟩) 0 0) (.slice x23p x23l x23c) w294 fun q24_30p q24_30l q24_30c w295 =>
  cellsAt w295 ⟨b3, 5, none⟩ [.int .i64 x26_0, .string x26_1, .string x26_2, .slice x26_3p x26_3l x26_3c, .slice x26_4p x26_4l x26_4c, .string x26_5] ∧
  (
  callJ Tryz.prog fn_ref05_Twin #[.agg ⟨[.int .i64 x26_0, .string x26_1, .string x26_2, .slice x26_3p x26_3l x26_3c, .slice x26_4p x26_4l x26_4c, .string x26_5]⟩] w295 [.agg [.int .i64, .str, .str, .slice, .slice, .str]] fun (r27_48_0 : Int) (r27_48_1 : ByteArray) (r27_48_2 : ByteArray) (r27_48_3p : Option Addr) (r27_48_3l : Nat) (r27_48_3c : Nat) (r27_48_4p : Option Addr) (r27_48_4l : Nat) (r27_48_4c : Nat) (r27_48_5 : ByteArray) (w296 : World) =>
  newB w296 (.cells (zeroC Tryz.prog T_api_Node) T_api_Node) fun b5_29 w297 =>
  cellsAt w297 ⟨b3, 5, none⟩ [.int .i64 x26_0, .string x26_1, .string x26_2, .slice x26_3p x26_3l x26_3c, .slice x26_4p x26_4l x26_4c, .string x26_5] ∧
  w297.cell? ⟨b3, 1, none⟩ = some (.slice x23p x23l x23c) ∧
  cellsAt w297 ⟨b2, 0, none⟩ [.int .i64 x19_0, .string x19_1, .string x19_2, .slice x19_3p x19_3l x19_3c, .slice x19_4p x19_4l x19_4c, .string x19_5] ∧
  stN w297 ⟨b5_29, 0, none⟩ ⟨[.int .i64 r20_11_0, .string r20_11_1, .string r20_11_2, .slice r20_11_3p r20_11_3l r20_11_3c, .slice r20_11_4p r20_11_4l r20_11_4c, .string r20_11_5]⟩ 6 fun w298 =>
  stN w298 ⟨b7_37, 0, none⟩ ⟨[.int .i64 r27_48_0, .string r27_48_1, .string r27_48_2, .slice r27_48_3p r27_48_3l r27_48_3c, .slice r27_48_4p r27_48_4l r27_48_4c, .string r27_48_5]⟩ 6 fun w299 =>
  J_5 (some ⟨b5_29, 0, none⟩) q24_30p q24_30l q24_30c (some ⟨b7_37, 0, none⟩) w299) ∧ (
  newB w295 (.cells (zeroC Tryz.prog T_api_Node) T_api_Node) fun b5_30 w300 =>
  cellsAt w300 ⟨b3, 5, none⟩ [.int .i64 x26_0, .string x26_1, .string x26_2, .slice x26_3p x26_3l x26_3c, .slice x26_4p x26_4l x26_4c, .string x26_5] ∧
  w300.cell? ⟨b3, 1, none⟩ = some (.slice x23p x23l x23c) ∧
  cellsAt w300 ⟨b2, 0, none⟩ [.int .i64 x19_0, .string x19_1, .string x19_2, .slice x19_3p x19_3l x19_3c, .slice x19_4p x19_4l x19_4c, .string x19_5] ∧
  callJ Tryz.prog fn_ref05_Twin #[.agg ⟨[.int .i64 x26_0, .string x26_1, .string x26_2, .slice x26_3p x26_3l x26_3c, .slice x26_4p x26_4l x26_4c, .string x26_5]⟩] w300 [.agg [.int .i64, .str, .str, .slice, .slice, .str]] fun (r27_49_0 : Int) (r27_49_1 : ByteArray) (r27_49_2 : ByteArray) (r27_49_3p : Option Addr) (r27_49_3l : Nat) (r27_49_3c : Nat) (r27_49_4p : Option Addr) (r27_49_4l : Nat) (r27_49_4c : Nat) (r27_49_5 : ByteArray) (w301 : World) =>
  stN w301 ⟨b5_30, 0, none⟩ ⟨[.int .i64 r20_11_0, .string r20_11_1, .string r20_11_2, .slice r20_11_3p r20_11_3l r20_11_3c, .slice r20_11_4p r20_11_4l r20_11_4c, .string r20_11_5]⟩ 6 fun w302 =>
  stN w302 ⟨b7_37, 0, none⟩ ⟨[.int .i64 r27_49_0, .string r27_49_1, .string r27_49_2, .slice r27_49_3p r27_49_3l r27_49_3c, .slice r27_49_4p r27_49_4l r27_49_4c, .string r27_49_5]⟩ 6 fun w303 =>
  J_5 (some ⟨b5_30, 0, none⟩) q24_30p q24_30l q24_30c (some ⟨b7_37, 0, none⟩) w303)) ∧ (
  newB w294 (.cells (zeroC Tryz.prog T_api_Node) T_api_Node) fun b5_31 w304 =>
  cellsAt w304 ⟨b3, 5, none⟩ [.int .i64 x26_0, .string x26_1, .string x26_2, .slice x26_3p x26_3l x26_3c, .slice x26_4p x26_4l x26_4c, .string x26_5] ∧
  w304.cell? ⟨b3, 1, none⟩ = some (.slice x23p x23l x23c) ∧
  cellsAt w304 ⟨b2, 0, none⟩ [.int .i64 x19_0, .string x19_1, .string x19_2, .slice x19_3p x19_3l x19_3c, .slice x19_4p x19_4l x19_4c, .string x19_5] ∧
  appJ Tryz.prog T_sl_int T_sl_int (.slice (some ⟨b21_11, 0, none⟩) 0 0) (.slice x23p x23l x23c) w304 fun q24_31p q24_31l q24_31c w305 =>
  cellsAt w305 ⟨b3, 5, none⟩ [.int .i64 x26_0, .string x26_1, .string x26_2, .slice x26_3p x26_3l x26_3c, .slice x26_4p x26_4l x26_4c, .string x26_5] ∧
  callJ Tryz.prog fn_ref05_Twin #[.agg ⟨[.int .i64 x26_0, .string x26_1, .string x26_2, .slice x26_3p x26_3l x26_3c, .slice x26_4p x26_4l x26_4c, .string x26_5]⟩] w305 [.agg [.int .i64, .str, .str, .slice, .slice, .str]] fun (r27_50_0 : Int) (r27_50_1 : ByteArray) (r27_50_2 : ByteArray) (r27_50_3p : Option Addr) (r27_50_3l : Nat) (r27_50_3c : Nat) (r27_50_4p : Option Addr) (r27_50_4l : Nat) (r27_50_4c : Nat) (r27_50_5 : ByteArray) (w306 : World) =>
  stN w306 ⟨b5_31, 0, none⟩ ⟨[.int .i64 r20_11_0, .string r20_11_1, .string r20_11_2, .slice r20_11_3p r20_11_3l r20_11_3c, .slice r20_11_4p r20_11_4l r20_11_4c, .string r20_11_5]⟩ 6 fun w307 =>
  stN w307 ⟨b7_37, 0, none⟩ ⟨[.int .i64 r27_50_0, .string r27_50_1, .string r27_50_2, .slice r27_50_3p r27_50_3l r27_50_3c, .slice r27_50_4p r27_50_4l r27_50_4c, .string r27_50_5]⟩ 6 fun w308 =>
  J_5 (some ⟨b5_31, 0, none⟩) q24_31p q24_31l q24_31c (some ⟨b7_37, 0, none⟩) w308)) ∧ (
  newB w293 (.cells (zeroC Tryz.prog T_api_Node) T_api_Node) fun b5_32 w309 =>
  cellsAt w309 ⟨b3, 5, none⟩ [.int .i64 x26_0, .string x26_1, .string x26_2, .slice x26_3p x26_3l x26_3c, .slice x26_4p x26_4l x26_4c, .string x26_5] ∧
  w309.cell? ⟨b3, 1, none⟩ = some (.slice x23p x23l x23c) ∧
  cellsAt w309 ⟨b2, 0, none⟩ [.int .i64 x19_0, .string x19_1, .string x19_2, .slice x19_3p x19_3l x19_3c, .slice x19_4p x19_4l x19_4c, .string x19_5] ∧
  newB w309 (.cells ⟨[]⟩ T_int) fun b21_12 w310 =>
  cellsAt w310 ⟨b3, 5, none⟩ [.int .i64 x26_0, .string x26_1, .string x26_2, .slice x26_3p x26_3l x26_3c, .slice x26_4p x26_4l x26_4c, .string x26_5] ∧
  w310.cell? ⟨b3, 1, none⟩ = some (.slice x23p x23l x23c) ∧
  cellsAt w310 ⟨b2, 0, none⟩ [.int .i64 x19_0, .string x19_1, .string x19_2, .slice x19_3p x19_3l x19_3c, .slice x19_4p x19_4l x19_4c, .string x19_5] ∧
  appJ Tryz.prog T_sl_int T_sl_int (.slice (some ⟨b21_12, 0, none⟩) 0 0) (.slice x23p x23l x23c) w310 fun q24_32p q24_32l q24_32c w311 =>
  cellsAt w311 ⟨b3, 5, none⟩ [.int .i64 x26_0, .string x26_1, .string x26_2, .slice x26_3p x26_3l x26_3c, .slice x26_4p x26_4l x26_4c, .string x26_5] ∧
  callJ Tryz.prog fn_ref05_Twin #[.agg ⟨[.int .i64 x26_0, .string x26_1, .string x26_2, .slice x26_3p x26_3l x26_3c, .slice x26_4p x26_4l x26_4c, .string x26_5]⟩] w311 [.agg [.int .i64, .str, .str, .slice, .slice, .str]] fun (r27_51_0 : Int) (r27_51_1 : ByteArray) (r27_51_2 : ByteArray) (r27_51_3p : Option Addr) (r27_51_3l : Nat) (r27_51_3c : Nat) (r27_51_4p : Option Addr) (r27_51_4l : Nat) (r27_51_4c : Nat) (r27_51_5 : ByteArray) (w312 : World) =>
  stN w312 ⟨b5_32, 0, none⟩ ⟨[.int .i64 r20_11_0, .string r20_11_1, .string r20_11_2, .slice r20_11_3p r20_11_3l r20_11_3c, .slice r20_11_4p r20_11_4l r20_11_4c, .string r20_11_5]⟩ 6 fun w313 =>
  stN w313 ⟨b7_37, 0, none⟩ ⟨[.int .i64 r27_51_0, .string r27_51_1, .string r27_51_2, .slice r27_51_3p r27_51_3l r27_51_3c, .slice r27_51_4p r27_51_4l r27_51_4c, .string r27_51_5]⟩ 6 fun w314 =>
  J_5 (some ⟨b5_32, 0, none⟩) q24_32p q24_32l q24_32c (some ⟨b7_37, 0, none⟩) w314)) ∧ (
  (
  newB w292 (.cells ⟨[]⟩ T_int) fun b21_13 w315 =>
  cellsAt w315 ⟨b3, 5, none⟩ [.int .i64 x26_0, .string x26_1, .string x26_2, .slice x26_3p x26_3l x26_3c, .slice x26_4p x26_4l x26_4c, .string x26_5] ∧
  w315.cell? ⟨b3, 1, none⟩ = some (.slice x23p x23l x23c) ∧
  cellsAt w315 ⟨b2, 0, none⟩ [.int .i64 x19_0, .string x19_1, .string x19_2, .slice x19_3p x19_3l x19_3c, .slice x19_4p x19_4l x19_4c, .string x19_5] ∧
  (
  callJ Tryz.prog fn_ref05_Twin #[.agg ⟨[.int .i64 x19_0, .string x19_1, .string x19_2, .slice x19_3p x19_3l x19_3c, .slice x19_4p x19_4l x19_4c, .string x19_5]⟩] w315 [.agg [.int .i64, .str, .str, .slice, .slice, .str]] fun (r20_12_0 : Int) (r20_12_1 : ByteArray) (r20_12_2 : ByteArray) (r20_12_3p : Option Addr) (r20_12_3l : Nat) (r20_12_3c : Nat) (r20_12_4p : Option Addr) (r20_12_4l : Nat) (r20_12_4c : Nat) (r20_12_5 : ByteArray) (w316 : World) =>
  cellsAt w316 ⟨b3, 5, none⟩ [.int .i64 x26_0, .string x26_1, .string x26_2, .slice x26_3p x26_3l x26_3c, .slice x26_4p x26_4l x26_4c, .string x26_5] ∧
  w316.cell? ⟨b3, 1, none⟩ = some (.slice x23p x23l x23c) ∧
  (
  appJ Tryz.prog T_sl_int T_sl_int (.slice (some ⟨b21_13, 0, none⟩) 0 0) (.slice x23p x23l x23c) w316 fun q24_33p q24_33l q24_33c w317 =>
  cellsAt w317 ⟨b3, 5, none⟩ [.int .i64 x26_0, .string x26_1, .string x26_2, .slice x26_3p x26_3l x26_3c, .slice x26_4p x26_4l x26_4c, .string x26_5] ∧
  (
  callJ Tryz.prog fn_ref05_Twin #[.agg ⟨[.int .i64 x26_0, .string x26_1, .string x26_2, .slice x26_3p x26_3l x26_3c, .slice x26_4p x26_4l x26_4c, .string x26_5]⟩] w317 [.agg [.int .i64, .str, .str, .slice, .slice, .str]] fun (r27_52_0 : Int) (r27_52_1 : ByteArray) (r27_52_2 : ByteArray) (r27_52_3p : Option Addr) (r27_52_3l : Nat) (r27_52_3c : Nat) (r27_52_4p : Option Addr) (r27_52_4l : Nat) (r27_52_4c : Nat) (r27_52_5 : ByteArray) (w318 : World) =>
  newB w318 (.cells (zeroC Tryz.prog T_api_Node) T_api_Node) fun b5_33 w319 =>
  cellsAt w319 ⟨b3, 5, none⟩ [.int .i64 x26_0, .string x26_1, .string x26_2, .slice x26_3p x26_3l x26_3c, .slice x26_4p x26_4l x26_4c, .string x26_5] ∧
  w319.cell? ⟨b3, 1, none⟩ = some (.slice x23p x23l x23c) ∧
  cellsAt w319 ⟨b2, 0, none⟩ [.int .i64 x19_0, .string x19_1, .string x19_2, .slice x19_3p x19_3l x19_3c, .slice x19_4p x19_4l x19_4c, .string x19_5] ∧
  stN w319 ⟨b5_33, 0, none⟩ ⟨[.int .i64 r20_12_0, .string r20_12_1, .string r20_12_2, .slice r20_12_3p r20_12_3l r20_12_3c, .slice r20_12_4p r20_12_4l r20_12_4c, .string r20_12_5]⟩ 6 fun w320 =>
  stN w320 ⟨b7_37, 0, none⟩ ⟨[.int .i64 r27_52_0, .string r27_52_1, .string r27_52_2, .slice r27_52_3p r27_52_3l r27_52_3c, .slice r27_52_4p r27_52_4l r27_52_4c, .string r27_52_5]⟩ 6 fun w321 =>
  J_5 (some ⟨b5_33, 0, none⟩) q24_33p q24_33l q24_33c (some ⟨b7_37, 0, none⟩) w321) ∧ (
  newB w317 (.cells (zeroC Tryz.prog T_api_Node) T_api_Node) fun b5_34 w322 =>
  cellsAt w322 ⟨b3, 5, none⟩ [.int .i64 x26_0, .string x26_1, .string x26_2, .slice x26_3p x26_3l x26_3c, .slice x26_4p x26_4l x26_4c, .string x26_5] ∧
  w322.cell? ⟨b3, 1, none⟩ = some (.slice x23p x23l x23c) ∧
  cellsAt w322 ⟨b2, 0, none⟩ [.int .i64 x19_0, .string x19_1, .string x19_2, .slice x19_3p x19_3l x19_3c, .slice x19_4p x19_4l x19_4c, .string x19_5] ∧
  callJ Tryz.prog fn_ref05_Twin #[.agg ⟨[.int .i64 x26_0, .string x26_1, .string x26_2, .slice x26_3p x26_3l x26_3c, .slice x26_4p x26_4l x26_4c, .string x26_5]⟩] w322 [.agg [.int .i64, .str, .str, .slice, .slice, .str]] fun (r27_53_0 : Int) (r27_53_1 : ByteArray) (r27_53_2 : ByteArray) (r27_53_3p : Option Addr) (r27_53_3l : Nat) (r27_53_3c : Nat) (r27_53_4p : Option Addr) (r27_53_4l : Nat) (r27_53_4c : Nat) (r27_53_5 : ByteArray) (w323 : World) =>
  stN w323 ⟨b5_34, 0, none⟩ ⟨[.int .i64 r20_12_0, .string r20_12_1, .string r20_12_2, .slice r20_12_3p r20_12_3l r20_12_3c, .slice r20_12_4p r20_12_4l r20_12_4c, .string r20_12_5]⟩ 6 fun w324 =>
  stN w324 ⟨b7_37, 0, none⟩ ⟨[.int .i64 r27_53_0, .string r27_53_1, .string r27_53_2, .slice r27_53_3p r27_53_3l r27_53_3c, .slice r27_53_4p r27_53_4l r27_53_4c, .string r27_53_5]⟩ 6 fun w325 =>
  J_5 (some ⟨b5_34, 0, none⟩) q24_33p q24_33l q24_33c (some ⟨b7_37, 0, none⟩) w325)) ∧ (
  newB w316 (.cells (zeroC Tryz.prog T_api_Node) T_api_Node) fun b5_35 w326 =>
  cellsAt w326 ⟨b3, 5, none⟩ [.int .i64 x26_0, .string x26_1, .string x26_2, .slice x26_3p x26_3l x26_3c, .slice x26_4p x26_4l x26_4c, .string x26_5] ∧
  w326.cell? ⟨b3, 1, none⟩ = some (.slice x23p x23l x23c) ∧
  cellsAt w326 ⟨b2, 0, none⟩ [.int .i64 x19_0, .string x19_1, .string x19_2, .slice x19_3p x19_3l x19_3c, .slice x19_4p x19_4l x19_4c, .string x19_5] ∧
  appJ Tryz.prog T_sl_int T_sl_int (.slice (some ⟨b21_13, 0, none⟩) 0 0) (.slice x23p x23l x23c) w326 fun q24_34p q24_34l q24_34c w327 =>
  cellsAt w327 ⟨b3, 5, none⟩ [.int .i64 x26_0, .string x26_1, .string x26_2, .slice x26_3p x26_3l x26_3c, .slice x26_4p x26_4l x26_4c, .string x26_5] ∧
  callJ Tryz.prog fn_ref05_Twin #[.agg ⟨[.int .i64 x26_0, .string x26_1, .string x26_2, .slice x26_3p x26_3l x26_3c, .slice x26_4p x26_4l x26_4c, .string x26_5]⟩] w327 [.agg [.int .i64, .str, .str, .slice, .slice, .str]] fun (r27_54_0 : Int) (r27_54_1 : ByteArray) (r27_54_2 : ByteArray) (r27_54_3p : Option Addr) (r27_54_3l : Nat) (r27_54_3c : Nat) (r27_54_4p : Option Addr) (r27_54_4l : Nat) (r27_54_4c : Nat) (r27_54_5 : ByteArray) (w328 : World) =>
  stN w328 ⟨b5_35, 0, none⟩ ⟨[.int .i64 r20_12_0, .string r20_12_1, .string r20_12_2, .slice r20_12_3p r20_12_3l r20_12_3c, .slice r20_12_4p r20_12_4l r20_12_4c, .string r20_12_5]⟩ 6 fun w329 =>
  stN w329 ⟨b7_37, 0, none⟩ ⟨[.int .i64 r27_54_0, .string r27_54_1, .string r27_54_2, .slice r27_54_3p r27_54_3l r27_54_3c, .slice r27_54_4p r27_54_4l r27_54_4c, .string r27_54_5]⟩ 6 fun w330 =>
  J_5 (some ⟨b5_35, 0, none⟩) q24_34p q24_34l q24_34c (some ⟨b7_37, 0, none⟩) w330)) ∧ (
  newB w315 (.cells (zeroC Tryz.prog T_api_Node) T_api_Node) fun b5_36 w331 =>
  cellsAt w331 ⟨b3, 5, none⟩ [.int .i64 x26_0, .string x26_1, .string x26_2, .slice x26_3p x26_3l x26_3c, .slice x26_4p x26_4l x26_4c, .string x26_5] ∧
  w331.cell? ⟨b3, 1, none⟩ = some (.slice x23p x23l x23c) ∧
  cellsAt w331 ⟨b2, 0, none⟩ [.int .i64 x19_0, .string x19_1, .string x19_2, .slice x19_3p x19_3l x19_3c, .slice x19_4p x19_4l x19_4c, .string x19_5] ∧
  callJ Tryz.prog fn_ref05_Twin #[.agg ⟨[.int .i64 x19_0, .string x19_1, .string x19_2, .slice x19_3p x19_3l x19_3c, .slice x19_4p x19_4l x19_4c, .string x19_5]⟩] w331 [.agg [.int .i64, .str, .str, .slice, .slice, .str]] fun (r20_13_0 : Int) (r20_13_1 : ByteArray) (r20_13_2 : ByteArray) (r20_13_3p : Option Addr) (r20_13_3l : Nat) (r20_13_3c : Nat) (r20_13_4p : Option Addr) (r20_13_4l : Nat) (r20_13_4c : Nat) (r20_13_5 : ByteArray) (w332 : World) =>
  cellsAt w332 ⟨b3, 5, none⟩ [.int .i64 x26_0, .string x26_1, .string x26_2, .slice x26_3p x26_3l x26_3c, .slice x26_4p x26_4l x26_4c, .string x26_5] ∧
  w332.cell? ⟨b3, 1, none⟩ = some (.slice x23p x23l x23c) ∧
  appJ Tryz.prog T_sl_int T_sl_int (.slice (some ⟨b21_13, 0, none⟩) 0 0) (.slice x23p x23l x23c) w332 fun q24_35p q24_35l q24_35c w333 =>
  cellsAt w333 ⟨b3, 5, none⟩ [.int .i64 x26_0, .string x26_1, .string x26_2, .slice x26_3p x26_3l x26_3c, .slice x26_4p x26_4l x26_4c, .string x26_5] ∧
  callJ Tryz.prog fn_ref05_Twin #[.agg ⟨[.int .i64 x26_0, .string x26_1, .string x26_2, .slice x26_3p x26_3l x26_3c, .slice x26_4p x26_4l x26_4c, .string x26_5]⟩] w333 [.agg [.int .i64, .str, .str, .slice, .slice, .str]] fun (r27_55_0 : Int) (r27_55_1 : ByteArray) (r27_55_2 : ByteArray) (r27_55_3p : Option Addr) (r27_55_3l : Nat) (r27_55_3c : Nat) (r27_55_4p : Option Addr) (r27_55_4l : Nat) (r27_55_4c : Nat) (r27_55_5 : ByteArray) (w334 : World) =>
  stN w334 ⟨b5_36, 0, none⟩ ⟨[.int .i64 r20_13_0, .string r20_13_1, .string r20_13_2, .slice r20_13_3p r20_13_3l r20_13_3c, .slice r20_13_4p r20_13_4l r20_13_4c, .string r20_13_5]⟩ 6 fun w335 =>
  stN w335 ⟨b7_37, 0, none⟩ ⟨[.int .i64 r27_55_0, .string r27_55_1, .string r27_55_2, .slice r27_55_3p r27_55_3l r27_55_3c, .slice r27_55_4p r27_55_4l r27_55_4c, .string r27_55_5]⟩ 6 fun w336 =>
  J_5 (some ⟨b5_36, 0, none⟩) q24_35p q24_35l q24_35c (some ⟨b7_37, 0, none⟩) w336)) ∧ (
  newB w292 (.cells (zeroC Tryz.prog T_api_Node) T_api_Node) fun b5_37 w337 =>
  cellsAt w337 ⟨b3, 5, none⟩ [.int .i64 x26_0, .string x26_1, .string x26_2, .slice x26_3p x26_3l x26_3c, .slice x26_4p x26_4l x26_4c, .string x26_5] ∧
  w337.cell? ⟨b3, 1, none⟩ = some (.slice x23p x23l x23c) ∧
  cellsAt w337 ⟨b2, 0, none⟩ [.int .i64 x19_0, .string x19_1, .string x19_2, .slice x19_3p x19_3l x19_3c, .slice x19_4p x19_4l x19_4c, .string x19_5] ∧
  (
  callJ Tryz.prog fn_ref05_Twin #[.agg ⟨[.int .i64 x19_0, .string x19_1, .string x19_2, .slice x19_3p x19_3l x19_3c, .slice x19_4p x19_4l x19_4c, .string x19_5]⟩] w337 [.agg [.int .i64, .str, .str, .slice, .slice, .str]] fun (r20_14_0 : Int) (r20_14_1 : ByteArray) (r20_14_2 : ByteArray) (r20_14_3p : Option Addr) (r20_14_3l : Nat) (r20_14_3c : Nat) (r20_14_4p : Option Addr) (r20_14_4l : Nat) (r20_14_4c : Nat) (r20_14_5 : ByteArray) (w338 : World) =>
  cellsAt w338 ⟨b3, 5, none⟩ [.int .i64 x26_0, .string x26_1, .string x26_2, .slice x26_3p x26_3l x26_3c, .slice x26_4p x26_4l x26_4c, .string x26_5] ∧
  w338.cell? ⟨b3, 1, none⟩ = some (.slice x23p x23l x23c) ∧
  newB w338 (.cells ⟨[]⟩ T_int) fun b21_14 w339 =>
  cellsAt w339 ⟨b3, 5, none⟩ [.int .i64 x26_0, .string x26_1, .string x26_2, .slice x26_3p x26_3l x26_3c, .slice x26_4p x26_4l x26_4c, .string x26_5] ∧
  w339.cell? ⟨b3, 1, none⟩ = some (.slice x23p x23l x23c) ∧
  cellsAt w339 ⟨b2, 0, none⟩ [.int .i64 x19_0, .string x19_1, .string x19_2, .slice x19_3p x19_3l x19_3c, .slice x19_4p x19_4l x19_4c, .string x19_5] ∧
  appJ Tryz.prog T_sl_int T_sl_int (.slice (some ⟨b21_14, 0, none⟩) 0 0) (.slice x23p x23l x23c) w339 fun q24_36p q24_36l q24_36c w340 =>
  cellsAt w340 ⟨b3, 5, none⟩ [.int .i64 x26_0, .string x26_1, .string x26_2, .slice x26_3p x26_3l x26_3c, .slice x26_4p x26_4l x26_4c, .string x26_5] ∧
  callJ Tryz.prog fn_ref05_Twin #[.agg ⟨[.int .i64 x26_0, .string x26_1, .string x26_2, .slice x26_3p x26_3l x26_3c, .slice x26_4p x26_4l x26_4c, .string x26_5]⟩] w340 [.agg [.int .i64, .str, .str, .slice, .slice, .str]] fun (r27_56_0 : Int) (r27_56_1 : ByteArray) (r27_56_2 : ByteArray) (r27_56_3p : Option Addr) (r27_56_3l : Nat) (r27_56_3c : Nat) (r27_56_4p : Option Addr) (r27_56_4l : Nat) (r27_56_4c : Nat) (r27_56_5 : ByteArray) (w341 : World) =>
  stN w341 ⟨b5_37, 0, none⟩ ⟨[.int .i64 r20_14_0, .string r20_14_1, .string r20_14_2, .slice r20_14_3p r20_14_3l r20_14_3c, .slice r20_14_4p r20_14_4l r20_14_4c, .string r20_14_5]⟩ 6 fun w342 =>
  stN w342 ⟨b7_37, 0, none⟩ ⟨[.int .i64 r27_56_0, .string r27_56_1, .string r27_56_2, .slice r27_56_3p r27_56_3l r27_56_3c, .slice r27_56_4p r27_56_4l r27_56_4c, .string r27_56_5]⟩ 6 fun w343 =>
  J_5 (some ⟨b5_37, 0, none⟩) q24_36p q24_36l q24_36c (some ⟨b7_37, 0, none⟩) w343) ∧ (
  newB w337 (.cells ⟨[]⟩ T_int) fun b21_15 w344 =>
  cellsAt w344 ⟨b3, 5, none⟩ [.int .i64 x26_0, .string x26_1, .string x26_2, .slice x26_3p x26_3l x26_3c, .slice x26_4p x26_4l x26_4c, .string x26_5] ∧
  w344.cell? ⟨b3, 1, none⟩ = some (.slice x23p x23l x23c) ∧
  cellsAt w344 ⟨b2, 0, none⟩ [.int .i64 x19_0, .string x19_1, .string x19_2, .slice x19_3p x19_3l x19_3c, .slice x19_4p x19_4l x19_4c, .string x19_5] ∧
  callJ Tryz.prog fn_ref05_Twin #[.agg ⟨[.int .i64 x19_0, .string x19_1, .string x19_2, .slice x19_3p x19_3l x19_3c, .slice x19_4p x19_4l x19_4c, .string x19_5]⟩] w344 [.agg [.int .i64, .str, .str, .slice, .slice, .str]] fun (r20_15_0 : Int) (r20_15_1 : ByteArray) (r20_15_2 : ByteArray) (r20_15_3p : Option Addr) (r20_15_3l : Nat) (r20_15_3c : Nat) (r20_15_4p : Option Addr) (r20_15_4l : Nat) (r20_15_4c : Nat) (r20_15_5 : ByteArray) (w345 : World) =>
  cellsAt w345 ⟨b3, 5, none⟩ [.int .i64 x26_0, .string x26_1, .string x26_2, .slice x26_3p x26_3l x26_3c, .slice x26_4p x26_4l x26_4c, .string x26_5] ∧
  w345.cell? ⟨b3, 1, none⟩ = some (.slice x23p x23l x23c) ∧
  appJ Tryz.prog T_sl_int T_sl_int (.slice (some ⟨b21_15, 0, none⟩) 0 0) (.slice x23p x23l x23c) w345 fun q24_37p q24_37l q24_37c w346 =>
  cellsAt w346 ⟨b3, 5, none⟩ [.int .i64 x26_0, .string x26_1, .string x26_2, .slice x26_3p x26_3l x26_3c, .slice x26_4p x26_4l x26_4c, .string x26_5] ∧
  callJ Tryz.prog fn_ref05_Twin #[.agg ⟨[.int .i64 x26_0, .string x26_1, .string x26_2, .slice x26_3p x26_3l x26_3c, .slice x26_4p x26_4l x26_4c, .string x26_5]⟩] w346 [.agg [.int .i64, .str, .str, .slice, .slice, .str]] fun (r27_57_0 : Int) (r27_57_1 : ByteArray) (r27_57_2 : ByteArray) (r27_57_3p : Option Addr) (r27_57_3l : Nat) (r27_57_3c : Nat) (r27_57_4p : Option Addr) (r27_57_4l : Nat) (r27_57_4c : Nat) (r27_57_5 : ByteArray) (w347 : World) =>
  stN w347 ⟨b5_37, 0, none⟩ ⟨[.int .i64 r20_15_0, .string r20_15_1, .string r20_15_2, .slice r20_15_3p r20_15_3l r20_15_3c, .slice r20_15_4p r20_15_4l r20_15_4c, .string r20_15_5]⟩ 6 fun w348 =>
  stN w348 ⟨b7_37, 0, none⟩ ⟨[.int .i64 r27_57_0, .string r27_57_1, .string r27_57_2, .slice r27_57_3p r27_57_3l r27_57_3c, .slice r27_57_4p r27_57_4l r27_57_4c, .string r27_57_5]⟩ 6 fun w349 =>
  J_5 (some ⟨b5_37, 0, none⟩) q24_37p q24_37l q24_37c (some ⟨b7_37, 0, none⟩) w349)))))))
def ann_law09_EditKeeps : Ann := .s (.o) (.s (.s (.o) (.c (.s (.o) (.o)) (.o))) (.j [(5, .ptr), (6, .slice), (7, .ptr)] (.d (.take 0 (.take 3 (.take 4 (.take 6 (.take 7 (.eff 1 (.eff 2 (.eff 5 (.eff 8 (.eff 9 (.eff 10 (.eff 11 (.take 12 (.eff 13 (.done) (.none))) (.none)) (.none)) (.eff 10 (.eff 9 (.eff 11 (.take 12 (.eff 13 (.done) (.none))) (.none)) (.none)) (.none))) (.eff 9 (.eff 8 (.eff 10 (.eff 11 (.take 12 (.eff 13 (.done) (.none))) (.none)) (.none)) (.eff 10 (.eff 8 (.eff 11 (.take 12 (.eff 13 (.done) (.none))) (.none)) (.none)) (.none))) (.eff 10 (.eff 8 (.eff 9 (.eff 11 (.take 12 (.eff 13 (.done) (.none))) (.none)) (.none)) (.eff 9 (.eff 8 (.eff 11 (.take 12 (.eff 13 (.done) (.none))) (.none)) (.none)) (.none))) (.none)))) (.eff 9 (.eff 5 (.eff 8 (.eff 10 (.eff 11 (.take 12 (.eff 13 (.done) (.none))) (.none)) (.none)) (.eff 10 (.eff 8 (.eff 11 (.take 12 (.eff 13 (.done) (.none))) (.none)) (.none)) (.none))) (.eff 10 (.eff 5 (.eff 8 (.eff 11 (.take 12 (.eff 13 (.done) (.none))) (.none)) (.none)) (.none)) (.none))) (.eff 10 (.eff 5 (.eff 8 (.eff 9 (.eff 11 (.take 12 (.eff 13 (.done) (.none))) (.none)) (.none)) (.eff 9 (.eff 8 (.eff 11 (.take 12 (.eff 13 (.done) (.none))) (.none)) (.none)) (.none))) (.eff 9 (.eff 5 (.eff 8 (.eff 11 (.take 12 (.eff 13 (.done) (.none))) (.none)) (.none)) (.none)) (.none))) (.none)))) (.eff 9 (.eff 2 (.eff 5 (.eff 8 (.eff 10 (.eff 11 (.take 12 (.eff 13 (.done) (.none))) (.none)) (.none)) (.eff 10 (.eff 8 (.eff 11 (.take 12 (.eff 13 (.done) (.none))) (.none)) (.none)) (.none))) (.eff 10 (.eff 5 (.eff 8 (.eff 11 (.take 12 (.eff 13 (.done) (.none))) (.none)) (.none)) (.none)) (.none))) (.eff 10 (.eff 2 (.eff 5 (.eff 8 (.eff 11 (.take 12 (.eff 13 (.done) (.none))) (.none)) (.none)) (.none)) (.none)) (.none))) (.eff 10 (.eff 2 (.eff 5 (.eff 8 (.eff 9 (.eff 11 (.take 12 (.eff 13 (.done) (.none))) (.none)) (.none)) (.eff 9 (.eff 8 (.eff 11 (.take 12 (.eff 13 (.done) (.none))) (.none)) (.none)) (.none))) (.eff 9 (.eff 5 (.eff 8 (.eff 11 (.take 12 (.eff 13 (.done) (.none))) (.none)) (.none)) (.none)) (.none))) (.eff 9 (.eff 2 (.eff 5 (.eff 8 (.eff 11 (.take 12 (.eff 13 (.done) (.none))) (.none)) (.none)) (.none)) (.none)) (.none))) (.none)))) (.eff 2 (.eff 1 (.eff 5 (.eff 8 (.eff 9 (.eff 10 (.eff 11 (.take 12 (.eff 13 (.done) (.none))) (.none)) (.none)) (.eff 10 (.eff 9 (.eff 11 (.take 12 (.eff 13 (.done) (.none))) (.none)) (.none)) (.none))) (.eff 9 (.eff 8 (.eff 10 (.eff 11 (.take 12 (.eff 13 (.done) (.none))) (.none)) (.none)) (.eff 10 (.eff 8 (.eff 11 (.take 12 (.eff 13 (.done) (.none))) (.none)) (.none)) (.none))) (.eff 10 (.eff 8 (.eff 9 (.eff 11 (.take 12 (.eff 13 (.done) (.none))) (.none)) (.none)) (.eff 9 (.eff 8 (.eff 11 (.take 12 (.eff 13 (.done) (.none))) (.none)) (.none)) (.none))) (.none)))) (.eff 9 (.eff 5 (.eff 8 (.eff 10 (.eff 11 (.take 12 (.eff 13 (.done) (.none))) (.none)) (.none)) (.eff 10 (.eff 8 (.eff 11 (.take 12 (.eff 13 (.done) (.none))) (.none)) (.none)) (.none))) (.eff 10 (.eff 5 (.eff 8 (.eff 11 (.take 12 (.eff 13 (.done) (.none))) (.none)) (.none)) (.none)) (.none))) (.eff 10 (.eff 5 (.eff 8 (.eff 9 (.eff 11 (.take 12 (.eff 13 (.done) (.none))) (.none)) (.none)) (.eff 9 (.eff 8 (.eff 11 (.take 12 (.eff 13 (.done) (.none))) (.none)) (.none)) (.none))) (.eff 9 (.eff 5 (.eff 8 (.eff 11 (.take 12 (.eff 13 (.done) (.none))) (.none)) (.none)) (.none)) (.none))) (.none)))) (.eff 9 (.eff 1 (.eff 5 (.eff 8 (.eff 10 (.eff 11 (.take 12 (.eff 13 (.done) (.none))) (.none)) (.none)) (.eff 10 (.eff 8 (.eff 11 (.take 12 (.eff 13 (.done) (.none))) (.none)) (.none)) (.none))) (.eff 10 (.eff 5 (.eff 8 (.eff 11 (.take 12 (.eff 13 (.done) (.none))) (.none)) (.none)) (.none)) (.none))) (.eff 10 (.eff 1 (.eff 5 (.eff 8 (.eff 11 (.take 12 (.eff 13 (.done) (.none))) (.none)) (.none)) (.none)) (.none)) (.none))) (.eff 10 (.eff 1 (.eff 5 (.eff 8 (.eff 9 (.eff 11 (.take 12 (.eff 13 (.done) (.none))) (.none)) (.none)) (.eff 9 (.eff 8 (.eff 11 (.take 12 (.eff 13 (.done) (.none))) (.none)) (.none)) (.none))) (.eff 9 (.eff 5 (.eff 8 (.eff 11 (.take 12 (.eff 13 (.done) (.none))) (.none)) (.none)) (.none)) (.none))) (.eff 9 (.eff 1 (.eff 5 (.eff 8 (.eff 11 (.take 12 (.eff 13 (.done) (.none))) (.none)) (.none)) (.none)) (.none)) (.none))) (.none)))) (.eff 9 (.eff 1 (.eff 2 (.eff 5 (.eff 8 (.eff 10 (.eff 11 (.take 12 (.eff 13 (.done) (.none))) (.none)) (.none)) (.eff 10 (.eff 8 (.eff 11 (.take 12 (.eff 13 (.done) (.none))) (.none)) (.none)) (.none))) (.eff 10 (.eff 5 (.eff 8 (.eff 11 (.take 12 (.eff 13 (.done) (.none))) (.none)) (.none)) (.none)) (.none))) (.eff 10 (.eff 2 (.eff 5 (.eff 8 (.eff 11 (.take 12 (.eff 13 (.done) (.none))) (.none)) (.none)) (.none)) (.none)) (.none))) (.eff 2 (.eff 1 (.eff 5 (.eff 8 (.eff 10 (.eff 11 (.take 12 (.eff 13 (.done) (.none))) (.none)) (.none)) (.eff 10 (.eff 8 (.eff 11 (.take 12 (.eff 13 (.done) (.none))) (.none)) (.none)) (.none))) (.eff 10 (.eff 5 (.eff 8 (.eff 11 (.take 12 (.eff 13 (.done) (.none))) (.none)) (.none)) (.none)) (.none))) (.eff 10 (.eff 1 (.eff 5 (.eff 8 (.eff 11 (.take 12 (.eff 13 (.done) (.none))) (.none)) (.none)) (.none)) (.none)) (.none))) (.eff 10 (.eff 1 (.eff 2 (.eff 5 (.eff 8 (.eff 11 (.take 12 (.eff 13 (.done) (.none))) (.none)) (.none)) (.none)) (.none)) (.eff 2 (.eff 1 (.eff 5 (.eff 8 (.eff 11 (.take 12 (.eff 13 (.done) (.none))) (.none)) (.none)) (.none)) (.none)) (.none))) (.none)))) (.eff 10 (.eff 1 (.eff 2 (.eff 5 (.eff 8 (.eff 9 (.eff 11 (.take 12 (.eff 13 (.done) (.none))) (.none)) (.none)) (.eff 9 (.eff 8 (.eff 11 (.take 12 (.eff 13 (.done) (.none))) (.none)) (.none)) (.none))) (.eff 9 (.eff 5 (.eff 8 (.eff 11 (.take 12 (.eff 13 (.done) (.none))) (.none)) (.none)) (.none)) (.none))) (.eff 9 (.eff 2 (.eff 5 (.eff 8 (.eff 11 (.take 12 (.eff 13 (.done) (.none))) (.none)) (.none)) (.none)) (.none)) (.none))) (.eff 2 (.eff 1 (.eff 5 (.eff 8 (.eff 9 (.eff 11 (.take 12 (.eff 13 (.done) (.none))) (.none)) (.none)) (.eff 9 (.eff 8 (.eff 11 (.take 12 (.eff 13 (.done) (.none))) (.none)) (.none)) (.none))) (.eff 9 (.eff 5 (.eff 8 (.eff 11 (.take 12 (.eff 13 (.done) (.none))) (.none)) (.none)) (.none)) (.none))) (.eff 9 (.eff 1 (.eff 5 (.eff 8 (.eff 11 (.take 12 (.eff 13 (.done) (.none))) (.none)) (.none)) (.none)) (.none)) (.none))) (.eff 9 (.eff 1 (.eff 2 (.eff 5 (.eff 8 (.eff 11 (.take 12 (.eff 13 (.done) (.none))) (.none)) (.none)) (.none)) (.none)) (.eff 2 (.eff 1 (.eff 5 (.eff 8 (.eff 11 (.take 12 (.eff 13 (.done) (.none))) (.none)) (.none)) (.none)) (.none)) (.none))) (.none)))) (.none))))))))))) (.s (.o) (.s (.o) (.s (.o) (.s (.o) (.s (.s (.o) (.b (.l [(48, .int .i64)] (.s (.o) (.s (.c (.o) (.o)) (.s (.b (.s (.o) (.o))) (.o))))))) (.s (.o) (.s (.o) (.j [(4, .bool)] (.o) (.o)))))))))))
theorem eq_law09_EditKeeps (d0_0 : Int) (d0_1 : ByteArray) (d0_2 : ByteArray) (d0_3p : Option Addr) (d0_3l : Nat) (d0_3c : Nat) (d0_4p : Option Addr) (d0_4l : Nat) (d0_4c : Nat) (d0_5 : ByteArray) (e1_0 : Int) (e1_1p : Option Addr) (e1_1l : Nat) (e1_1c : Nat) (e1_2 : ByteArray) (e1_3 : ByteArray) (e1_4 : ByteArray) (e1_5 : Int) (e1_6 : ByteArray) (e1_7 : ByteArray) (e1_8p : Option Addr) (e1_8l : Nat) (e1_8c : Nat) (e1_9p : Option Addr) (e1_9l : Nat) (e1_9c : Nat) (e1_10 : ByteArray) (w : World) (J : Bool → World → Prop) : vcFun Tryz.prog Tryz.f5 ann_law09_EditKeeps [.one .bool] [.agg ⟨[.int .i64 d0_0, .string d0_1, .string d0_2, .slice d0_3p d0_3l d0_3c, .slice d0_4p d0_4l d0_4c, .string d0_5]⟩, .agg ⟨[.int .i64 e1_0, .slice e1_1p e1_1l e1_1c, .string e1_2, .string e1_3, .string e1_4, .int .i64 e1_5, .string e1_6, .string e1_7, .slice e1_8p e1_8l e1_8c, .slice e1_9p e1_9l e1_9c, .string e1_10]⟩] w J = VC_law09_EditKeeps d0_0 d0_1 d0_2 d0_3p d0_3l d0_3c d0_4p d0_4l d0_4c d0_5 e1_0 e1_1p e1_1l e1_1c e1_2 e1_3 e1_4 e1_5 e1_6 e1_7 e1_8p e1_8l e1_8c e1_9p e1_9l e1_9c e1_10 w J := by kernel_rfl
theorem c_law09_EditKeeps {d0_0 : Int} {d0_1 : ByteArray} {d0_2 : ByteArray} {d0_3p : Option Addr} {d0_3l : Nat} {d0_3c : Nat} {d0_4p : Option Addr} {d0_4l : Nat} {d0_4c : Nat} {d0_5 : ByteArray} {e1_0 : Int} {e1_1p : Option Addr} {e1_1l : Nat} {e1_1c : Nat} {e1_2 : ByteArray} {e1_3 : ByteArray} {e1_4 : ByteArray} {e1_5 : Int} {e1_6 : ByteArray} {e1_7 : ByteArray} {e1_8p : Option Addr} {e1_8l : Nat} {e1_8c : Nat} {e1_9p : Option Addr} {e1_9l : Nat} {e1_9c : Nat} {e1_10 : ByteArray} {w : World} {J : Bool → World → Prop} (h : VC_law09_EditKeeps d0_0 d0_1 d0_2 d0_3p d0_3l d0_3c d0_4p d0_4l d0_4c d0_5 e1_0 e1_1p e1_1l e1_1c e1_2 e1_3 e1_4 e1_5 e1_6 e1_7 e1_8p e1_8l e1_8c e1_9p e1_9l e1_9c e1_10 w J) : callJ Tryz.prog fn_law09_EditKeeps #[.agg ⟨[.int .i64 d0_0, .string d0_1, .string d0_2, .slice d0_3p d0_3l d0_3c, .slice d0_4p d0_4l d0_4c, .string d0_5]⟩, .agg ⟨[.int .i64 e1_0, .slice e1_1p e1_1l e1_1c, .string e1_2, .string e1_3, .string e1_4, .int .i64 e1_5, .string e1_6, .string e1_7, .slice e1_8p e1_8l e1_8c, .slice e1_9p e1_9l e1_9c, .string e1_10]⟩] w [.one .bool] J := vc_calls Tryz.func5 ann_law09_EditKeeps (Eq.mpr (eq_law09_EditKeeps d0_0 d0_1 d0_2 d0_3p d0_3l d0_3c d0_4p d0_4l d0_4c d0_5 e1_0 e1_1p e1_1l e1_1c e1_2 e1_3 e1_4 e1_5 e1_6 e1_7 e1_8p e1_8l e1_8c e1_9p e1_9l e1_9c e1_10 w J) h)

end Go.Proofs.YtkgfbphdmnapdaaGreatDoor
