/- What the conditions of these functions are, reckoned by the reading; printed by program. -/
import Derived.Test.YtkgfbphdmnapdaaGreatDoorNm
import Derived.KernelRfl
set_option maxRecDepth 100000
set_option linter.unusedVariables false
namespace Go.Proofs.YtkgfbphdmnapdaaGreatDoor
open Go Go.Vc

/-- lectern/lecternlaw09.EditApplies -/
def VC_law09_EditApplies (d0_0 : Int) (d0_1 : ByteArray) (d0_2 : ByteArray) (d0_3p : Option Addr) (d0_3l : Nat) (d0_3c : Nat) (d0_4p : Option Addr) (d0_4l : Nat) (d0_4c : Nat) (d0_5 : ByteArray) (e1_0 : Int) (e1_1p : Option Addr) (e1_1l : Nat) (e1_1c : Nat) (e1_2 : ByteArray) (e1_3 : ByteArray) (e1_4 : ByteArray) (e1_5 : Int) (e1_6 : ByteArray) (e1_7 : ByteArray) (e1_8p : Option Addr) (e1_8l : Nat) (e1_8c : Nat) (e1_9p : Option Addr) (e1_9l : Nat) (e1_9c : Nat) (e1_10 : ByteArray) (w : World) (J : Bool → World → Prop) : Prop :=
  newB w (.cells ⟨[.int .i64 d0_0, .string d0_1, .string d0_2, .slice d0_3p d0_3l d0_3c, .slice d0_4p d0_4l d0_4c, .string d0_5]⟩ T_api_Node) fun b2 w1 =>
  newB w1 (.cells ⟨[.int .i64 e1_0, .slice e1_1p e1_1l e1_1c, .string e1_2, .string e1_3, .string e1_4, .int .i64 e1_5, .string e1_6, .string e1_7, .slice e1_8p e1_8l e1_8c, .slice e1_9p e1_9l e1_9c, .string e1_10]⟩ T_edit_Edit) fun b3 w2 =>
  callJ Tryz.prog fn_law09_awake #[] w2 [.one .bool] fun (r12 : Bool) (w3 : World) =>
  condB (!r12) (
  J false w3) (
  withJ (fun (was5 : Option Addr) (at6p : Option Addr) (at6l : Nat) (at6c : Nat) (node7 : Option Addr) (w4 : World) =>
  ldI .i64 w4 ⟨b2, 0, none⟩ fun x24_0 =>
  ldStr w4 ⟨b2, 1, none⟩ fun x24_1 =>
  ldStr w4 ⟨b2, 2, none⟩ fun x24_2 =>
  ldS w4 ⟨b2, 3, none⟩ fun x24_3p x24_3l x24_3c =>
  ldS w4 ⟨b2, 4, none⟩ fun x24_4p x24_4l x24_4c =>
  ldStr w4 ⟨b2, 5, none⟩ fun x24_5 =>
  ldI .i64 w4 ⟨b3, 0, none⟩ fun x25_0 =>
  ldS w4 ⟨b3, 1, none⟩ fun x25_1p x25_1l x25_1c =>
  ldStr w4 ⟨b3, 2, none⟩ fun x25_2 =>
  ldStr w4 ⟨b3, 3, none⟩ fun x25_3 =>
  ldStr w4 ⟨b3, 4, none⟩ fun x25_4 =>
  ldI .i64 w4 ⟨b3, 5, none⟩ fun x25_5 =>
  ldStr w4 ⟨b3, 6, none⟩ fun x25_6 =>
  ldStr w4 ⟨b3, 7, none⟩ fun x25_7 =>
  ldS w4 ⟨b3, 8, none⟩ fun x25_8p x25_8l x25_8c =>
  ldS w4 ⟨b3, 9, none⟩ fun x25_9p x25_9l x25_9c =>
  ldStr w4 ⟨b3, 10, none⟩ fun x25_10 =>
  callJ Tryz.prog fn_edit_Apply #[.agg ⟨[.int .i64 x24_0, .string x24_1, .string x24_2, .slice x24_3p x24_3l x24_3c, .slice x24_4p x24_4l x24_4c, .string x24_5]⟩, .agg ⟨[.int .i64 x25_0, .slice x25_1p x25_1l x25_1c, .string x25_2, .string x25_3, .string x25_4, .int .i64 x25_5, .string x25_6, .string x25_7, .slice x25_8p x25_8l x25_8c, .slice x25_9p x25_9l x25_9c, .string x25_10]⟩] w4 [.agg [.int .i64, .str, .str, .slice, .slice, .str], .one (.int .i64)] fun (r26_0_0 : Int) (r26_0_1 : ByteArray) (r26_0_2 : ByteArray) (r26_0_3p : Option Addr) (r26_0_3l : Nat) (r26_0_3c : Nat) (r26_0_4p : Option Addr) (r26_0_4l : Nat) (r26_0_4c : Nat) (r26_0_5 : ByteArray) (r26_1 : Int) (w5 : World) =>
  newB w5 (.cells (zeroC Tryz.prog T_api_Node) T_api_Node) fun b8 w6 =>
  stN w6 ⟨b8, 0, none⟩ ⟨[.int .i64 r26_0_0, .string r26_0_1, .string r26_0_2, .slice r26_0_3p r26_0_3l r26_0_3c, .slice r26_0_4p r26_0_4l r26_0_4c, .string r26_0_5]⟩ 6 fun w7 =>
  withJ (fun (m10 : Option Addr) (g11 : Int) (w8 : World) =>
  withJ (fun (x4 : Bool) (w9 : World) =>
  J x4 w9) fun J_4 =>
  condB (r26_1 == g11) (
  ldI .i64 w8 ⟨b8, 0, none⟩ fun x40_0 =>
  ldStr w8 ⟨b8, 1, none⟩ fun x40_1 =>
  ldStr w8 ⟨b8, 2, none⟩ fun x40_2 =>
  ldS w8 ⟨b8, 3, none⟩ fun x40_3p x40_3l x40_3c =>
  ldS w8 ⟨b8, 4, none⟩ fun x40_4p x40_4l x40_4c =>
  ldStr w8 ⟨b8, 5, none⟩ fun x40_5 =>
  nonNil m10 fun a41 =>
  ldI .i64 w8 a41 fun x41_0 =>
  ldStr w8 ((a41.add 1)) fun x41_1 =>
  ldStr w8 ((a41.add 2)) fun x41_2 =>
  ldS w8 ((a41.add 3)) fun x41_3p x41_3l x41_3c =>
  ldS w8 ((a41.add 4)) fun x41_4p x41_4l x41_4c =>
  ldStr w8 ((a41.add 5)) fun x41_5 =>
  callJ Tryz.prog fn_ref05_Same #[.agg ⟨[.int .i64 x40_0, .string x40_1, .string x40_2, .slice x40_3p x40_3l x40_3c, .slice x40_4p x40_4l x40_4c, .string x40_5]⟩, .agg ⟨[.int .i64 x41_0, .string x41_1, .string x41_2, .slice x41_3p x41_3l x41_3c, .slice x41_4p x41_4l x41_4c, .string x41_5]⟩] w8 [.one .bool] fun (r42 : Bool) (w10 : World) =>
  condB r42 (
  ldI .i64 w10 ⟨b2, 0, none⟩ fun x45_0 =>
  ldStr w10 ⟨b2, 1, none⟩ fun x45_1 =>
  ldStr w10 ⟨b2, 2, none⟩ fun x45_2 =>
  ldS w10 ⟨b2, 3, none⟩ fun x45_3p x45_3l x45_3c =>
  ldS w10 ⟨b2, 4, none⟩ fun x45_4p x45_4l x45_4c =>
  ldStr w10 ⟨b2, 5, none⟩ fun x45_5 =>
  nonNil was5 fun a46 =>
  ldI .i64 w10 a46 fun x46_0 =>
  ldStr w10 ((a46.add 1)) fun x46_1 =>
  ldStr w10 ((a46.add 2)) fun x46_2 =>
  ldS w10 ((a46.add 3)) fun x46_3p x46_3l x46_3c =>
  ldS w10 ((a46.add 4)) fun x46_4p x46_4l x46_4c =>
  ldStr w10 ((a46.add 5)) fun x46_5 =>
  callJ Tryz.prog fn_ref05_Same #[.agg ⟨[.int .i64 x45_0, .string x45_1, .string x45_2, .slice x45_3p x45_3l x45_3c, .slice x45_4p x45_4l x45_4c, .string x45_5]⟩, .agg ⟨[.int .i64 x46_0, .string x46_1, .string x46_2, .slice x46_3p x46_3l x46_3c, .slice x46_4p x46_4l x46_4c, .string x46_5]⟩] w10 [.one .bool] fun (r47 : Bool) (w11 : World) =>
  condB r47 (
  ldS w11 ⟨b3, 1, none⟩ fun x51p x51l x51c =>
  callJ Tryz.prog fn_ref05_SameInts #[.slice x51p x51l x51c, .slice at6p at6l at6c] w11 [.one .bool] fun (r53 : Bool) (w12 : World) =>
  condB r53 (
  ldI .i64 w12 ⟨b3, 5, none⟩ fun x57_0 =>
  ldStr w12 ⟨b3, 6, none⟩ fun x57_1 =>
  ldStr w12 ⟨b3, 7, none⟩ fun x57_2 =>
  ldS w12 ⟨b3, 8, none⟩ fun x57_3p x57_3l x57_3c =>
  ldS w12 ⟨b3, 9, none⟩ fun x57_4p x57_4l x57_4c =>
  ldStr w12 ⟨b3, 10, none⟩ fun x57_5 =>
  nonNil node7 fun a58 =>
  ldI .i64 w12 a58 fun x58_0 =>
  ldStr w12 ((a58.add 1)) fun x58_1 =>
  ldStr w12 ((a58.add 2)) fun x58_2 =>
  ldS w12 ((a58.add 3)) fun x58_3p x58_3l x58_3c =>
  ldS w12 ((a58.add 4)) fun x58_4p x58_4l x58_4c =>
  ldStr w12 ((a58.add 5)) fun x58_5 =>
  callJ Tryz.prog fn_ref05_Same #[.agg ⟨[.int .i64 x57_0, .string x57_1, .string x57_2, .slice x57_3p x57_3l x57_3c, .slice x57_4p x57_4l x57_4c, .string x57_5]⟩, .agg ⟨[.int .i64 x58_0, .string x58_1, .string x58_2, .slice x58_3p x58_3l x58_3c, .slice x58_4p x58_4l x58_4c, .string x58_5]⟩] w12 [.one .bool] fun (r59 : Bool) (w13 : World) =>
  J_4 r59 w13) (
  J_4 false w12)) (
  J_4 false w11)) (
  J_4 false w10)) (
  J_4 false w8)) fun J_10 =>
  ldI .i64 w7.drew ⟨b2, 0, none⟩ fun x30_0 =>
  ldStr w7.drew ⟨b2, 1, none⟩ fun x30_1 =>
  ldStr w7.drew ⟨b2, 2, none⟩ fun x30_2 =>
  ldS w7.drew ⟨b2, 3, none⟩ fun x30_3p x30_3l x30_3c =>
  ldS w7.drew ⟨b2, 4, none⟩ fun x30_4p x30_4l x30_4c =>
  ldStr w7.drew ⟨b2, 5, none⟩ fun x30_5 =>
  ldI .i64 w7.drew ⟨b3, 0, none⟩ fun x31_0 =>
  ldS w7.drew ⟨b3, 1, none⟩ fun x31_1p x31_1l x31_1c =>
  ldStr w7.drew ⟨b3, 2, none⟩ fun x31_2 =>
  ldStr w7.drew ⟨b3, 3, none⟩ fun x31_3 =>
  ldStr w7.drew ⟨b3, 4, none⟩ fun x31_4 =>
  ldI .i64 w7.drew ⟨b3, 5, none⟩ fun x31_5 =>
  ldStr w7.drew ⟨b3, 6, none⟩ fun x31_6 =>
  ldStr w7.drew ⟨b3, 7, none⟩ fun x31_7 =>
  ldS w7.drew ⟨b3, 8, none⟩ fun x31_8p x31_8l x31_8c =>
  ldS w7.drew ⟨b3, 9, none⟩ fun x31_9p x31_9l x31_9c =>
  ldStr w7.drew ⟨b3, 10, none⟩ fun x31_10 =>
  (
  callJ Tryz.prog fn_law09_doc #[.agg ⟨[.int .i64 x31_0, .slice x31_1p x31_1l x31_1c, .string x31_2, .string x31_3, .string x31_4, .int .i64 x31_5, .string x31_6, .string x31_7, .slice x31_8p x31_8l x31_8c, .slice x31_9p x31_9l x31_9c, .string x31_10]⟩] w7.drew [.agg [.int .i64, .slice, .str, .str, .str, .int .i64, .str, .str, .slice, .slice, .str]] fun (r32_0 : Int) (r32_1p : Option Addr) (r32_1l : Nat) (r32_1c : Nat) (r32_2 : ByteArray) (r32_3 : ByteArray) (r32_4 : ByteArray) (r32_5 : Int) (r32_6 : ByteArray) (r32_7 : ByteArray) (r32_8p : Option Addr) (r32_8l : Nat) (r32_8c : Nat) (r32_9p : Option Addr) (r32_9l : Nat) (r32_9c : Nat) (r32_10 : ByteArray) (w14 : World) =>
  cellsAt w14 ⟨b2, 0, none⟩ [.int .i64 x30_0, .string x30_1, .string x30_2, .slice x30_3p x30_3l x30_3c, .slice x30_4p x30_4l x30_4c, .string x30_5] ∧
  (
  callJ Tryz.prog fn_ref09_Apply #[.agg ⟨[.int .i64 x30_0, .string x30_1, .string x30_2, .slice x30_3p x30_3l x30_3c, .slice x30_4p x30_4l x30_4c, .string x30_5]⟩, .agg ⟨[.int .i64 r32_0, .slice r32_1p r32_1l r32_1c, .string r32_2, .string r32_3, .string r32_4, .int .i64 r32_5, .string r32_6, .string r32_7, .slice r32_8p r32_8l r32_8c, .slice r32_9p r32_9l r32_9c, .string r32_10]⟩] w14 [.agg [.int .i64, .str, .str, .slice, .slice, .str], .one (.int .i64)] fun (r33_0_0 : Int) (r33_0_1 : ByteArray) (r33_0_2 : ByteArray) (r33_0_3p : Option Addr) (r33_0_3l : Nat) (r33_0_3c : Nat) (r33_0_4p : Option Addr) (r33_0_4l : Nat) (r33_0_4c : Nat) (r33_0_5 : ByteArray) (r33_1 : Int) (w15 : World) =>
  newB w15 (.cells (zeroC Tryz.prog T_api_Node) T_api_Node) fun b10 w16 =>
  cellsAt w16 ⟨b3, 0, none⟩ [.int .i64 x31_0, .slice x31_1p x31_1l x31_1c, .string x31_2, .string x31_3, .string x31_4, .int .i64 x31_5, .string x31_6, .string x31_7, .slice x31_8p x31_8l x31_8c, .slice x31_9p x31_9l x31_9c, .string x31_10] ∧
  cellsAt w16 ⟨b2, 0, none⟩ [.int .i64 x30_0, .string x30_1, .string x30_2, .slice x30_3p x30_3l x30_3c, .slice x30_4p x30_4l x30_4c, .string x30_5] ∧
  stN w16 ⟨b10, 0, none⟩ ⟨[.int .i64 r33_0_0, .string r33_0_1, .string r33_0_2, .slice r33_0_3p r33_0_3l r33_0_3c, .slice r33_0_4p r33_0_4l r33_0_4c, .string r33_0_5]⟩ 6 fun w17 =>
  J_10 (some ⟨b10, 0, none⟩) r33_1 w17) ∧ (
  newB w14 (.cells (zeroC Tryz.prog T_api_Node) T_api_Node) fun b10_1 w18 =>
  cellsAt w18 ⟨b3, 0, none⟩ [.int .i64 x31_0, .slice x31_1p x31_1l x31_1c, .string x31_2, .string x31_3, .string x31_4, .int .i64 x31_5, .string x31_6, .string x31_7, .slice x31_8p x31_8l x31_8c, .slice x31_9p x31_9l x31_9c, .string x31_10] ∧
  cellsAt w18 ⟨b2, 0, none⟩ [.int .i64 x30_0, .string x30_1, .string x30_2, .slice x30_3p x30_3l x30_3c, .slice x30_4p x30_4l x30_4c, .string x30_5] ∧
  callJ Tryz.prog fn_ref09_Apply #[.agg ⟨[.int .i64 x30_0, .string x30_1, .string x30_2, .slice x30_3p x30_3l x30_3c, .slice x30_4p x30_4l x30_4c, .string x30_5]⟩, .agg ⟨[.int .i64 r32_0, .slice r32_1p r32_1l r32_1c, .string r32_2, .string r32_3, .string r32_4, .int .i64 r32_5, .string r32_6, .string r32_7, .slice r32_8p r32_8l r32_8c, .slice r32_9p r32_9l r32_9c, .string r32_10]⟩] w18 [.agg [.int .i64, .str, .str, .slice, .slice, .str], .one (.int .i64)] fun (r33_0_1_0 : Int) (r33_0_1_1 : ByteArray) (r33_0_1_2 : ByteArray) (r33_0_1_3p : Option Addr) (r33_0_1_3l : Nat) (r33_0_1_3c : Nat) (r33_0_1_4p : Option Addr) (r33_0_1_4l : Nat) (r33_0_1_4c : Nat) (r33_0_1_5 : ByteArray) (r33_1_1 : Int) (w19 : World) =>
  stN w19 ⟨b10_1, 0, none⟩ ⟨[.int .i64 r33_0_1_0, .string r33_0_1_1, .string r33_0_1_2, .slice r33_0_1_3p r33_0_1_3l r33_0_1_3c, .slice r33_0_1_4p r33_0_1_4l r33_0_1_4c, .string r33_0_1_5]⟩ 6 fun w20 =>
  J_10 (some ⟨b10_1, 0, none⟩) r33_1_1 w20)) ∧ (
  newB w7.drew (.cells (zeroC Tryz.prog T_api_Node) T_api_Node) fun b10_2 w21 =>
  cellsAt w21 ⟨b3, 0, none⟩ [.int .i64 x31_0, .slice x31_1p x31_1l x31_1c, .string x31_2, .string x31_3, .string x31_4, .int .i64 x31_5, .string x31_6, .string x31_7, .slice x31_8p x31_8l x31_8c, .slice x31_9p x31_9l x31_9c, .string x31_10] ∧
  cellsAt w21 ⟨b2, 0, none⟩ [.int .i64 x30_0, .string x30_1, .string x30_2, .slice x30_3p x30_3l x30_3c, .slice x30_4p x30_4l x30_4c, .string x30_5] ∧
  callJ Tryz.prog fn_law09_doc #[.agg ⟨[.int .i64 x31_0, .slice x31_1p x31_1l x31_1c, .string x31_2, .string x31_3, .string x31_4, .int .i64 x31_5, .string x31_6, .string x31_7, .slice x31_8p x31_8l x31_8c, .slice x31_9p x31_9l x31_9c, .string x31_10]⟩] w21 [.agg [.int .i64, .slice, .str, .str, .str, .int .i64, .str, .str, .slice, .slice, .str]] fun (r32_1_0 : Int) (r32_1_1p : Option Addr) (r32_1_1l : Nat) (r32_1_1c : Nat) (r32_1_2 : ByteArray) (r32_1_3 : ByteArray) (r32_1_4 : ByteArray) (r32_1_5 : Int) (r32_1_6 : ByteArray) (r32_1_7 : ByteArray) (r32_1_8p : Option Addr) (r32_1_8l : Nat) (r32_1_8c : Nat) (r32_1_9p : Option Addr) (r32_1_9l : Nat) (r32_1_9c : Nat) (r32_1_10 : ByteArray) (w22 : World) =>
  cellsAt w22 ⟨b2, 0, none⟩ [.int .i64 x30_0, .string x30_1, .string x30_2, .slice x30_3p x30_3l x30_3c, .slice x30_4p x30_4l x30_4c, .string x30_5] ∧
  callJ Tryz.prog fn_ref09_Apply #[.agg ⟨[.int .i64 x30_0, .string x30_1, .string x30_2, .slice x30_3p x30_3l x30_3c, .slice x30_4p x30_4l x30_4c, .string x30_5]⟩, .agg ⟨[.int .i64 r32_1_0, .slice r32_1_1p r32_1_1l r32_1_1c, .string r32_1_2, .string r32_1_3, .string r32_1_4, .int .i64 r32_1_5, .string r32_1_6, .string r32_1_7, .slice r32_1_8p r32_1_8l r32_1_8c, .slice r32_1_9p r32_1_9l r32_1_9c, .string r32_1_10]⟩] w22 [.agg [.int .i64, .str, .str, .slice, .slice, .str], .one (.int .i64)] fun (r33_0_2_0 : Int) (r33_0_2_1 : ByteArray) (r33_0_2_2 : ByteArray) (r33_0_2_3p : Option Addr) (r33_0_2_3l : Nat) (r33_0_2_3c : Nat) (r33_0_2_4p : Option Addr) (r33_0_2_4l : Nat) (r33_0_2_4c : Nat) (r33_0_2_5 : ByteArray) (r33_1_2 : Int) (w23 : World) =>
  stN w23 ⟨b10_2, 0, none⟩ ⟨[.int .i64 r33_0_2_0, .string r33_0_2_1, .string r33_0_2_2, .slice r33_0_2_3p r33_0_2_3l r33_0_2_3c, .slice r33_0_2_4p r33_0_2_4l r33_0_2_4c, .string r33_0_2_5]⟩ 6 fun w24 =>
  J_10 (some ⟨b10_2, 0, none⟩) r33_1_2 w24)) fun J_5 =>
  ldI .i64 w3.drew ⟨b2, 0, none⟩ fun x14_0 =>
  ldStr w3.drew ⟨b2, 1, none⟩ fun x14_1 =>
  ldStr w3.drew ⟨b2, 2, none⟩ fun x14_2 =>
  ldS w3.drew ⟨b2, 3, none⟩ fun x14_3p x14_3l x14_3c =>
  ldS w3.drew ⟨b2, 4, none⟩ fun x14_4p x14_4l x14_4c =>
  ldStr w3.drew ⟨b2, 5, none⟩ fun x14_5 =>
  ldS w3.drew ⟨b3, 1, none⟩ fun x18p x18l x18c =>
  ldI .i64 w3.drew ⟨b3, 5, none⟩ fun x21_0 =>
  ldStr w3.drew ⟨b3, 6, none⟩ fun x21_1 =>
  ldStr w3.drew ⟨b3, 7, none⟩ fun x21_2 =>
  ldS w3.drew ⟨b3, 8, none⟩ fun x21_3p x21_3l x21_3c =>
  ldS w3.drew ⟨b3, 9, none⟩ fun x21_4p x21_4l x21_4c =>
  ldStr w3.drew ⟨b3, 10, none⟩ fun x21_5 =>
  (
  callJ Tryz.prog fn_ref05_Twin #[.agg ⟨[.int .i64 x14_0, .string x14_1, .string x14_2, .slice x14_3p x14_3l x14_3c, .slice x14_4p x14_4l x14_4c, .string x14_5]⟩] w3.drew [.agg [.int .i64, .str, .str, .slice, .slice, .str]] fun (r15_0 : Int) (r15_1 : ByteArray) (r15_2 : ByteArray) (r15_3p : Option Addr) (r15_3l : Nat) (r15_3c : Nat) (r15_4p : Option Addr) (r15_4l : Nat) (r15_4c : Nat) (r15_5 : ByteArray) (w25 : World) =>
  cellsAt w25 ⟨b3, 5, none⟩ [.int .i64 x21_0, .string x21_1, .string x21_2, .slice x21_3p x21_3l x21_3c, .slice x21_4p x21_4l x21_4c, .string x21_5] ∧
  w25.cell? ⟨b3, 1, none⟩ = some (.slice x18p x18l x18c) ∧
  (
  newB w25 (.cells ⟨[]⟩ T_int) fun b16 w26 =>
  cellsAt w26 ⟨b3, 5, none⟩ [.int .i64 x21_0, .string x21_1, .string x21_2, .slice x21_3p x21_3l x21_3c, .slice x21_4p x21_4l x21_4c, .string x21_5] ∧
  w26.cell? ⟨b3, 1, none⟩ = some (.slice x18p x18l x18c) ∧
  cellsAt w26 ⟨b2, 0, none⟩ [.int .i64 x14_0, .string x14_1, .string x14_2, .slice x14_3p x14_3l x14_3c, .slice x14_4p x14_4l x14_4c, .string x14_5] ∧
  (
  appJ Tryz.prog T_sl_int T_sl_int (.slice (some ⟨b16, 0, none⟩) 0 0) (.slice x18p x18l x18c) w26 fun q19p q19l q19c w27 =>
  cellsAt w27 ⟨b3, 5, none⟩ [.int .i64 x21_0, .string x21_1, .string x21_2, .slice x21_3p x21_3l x21_3c, .slice x21_4p x21_4l x21_4c, .string x21_5] ∧
  (
  callJ Tryz.prog fn_ref05_Twin #[.agg ⟨[.int .i64 x21_0, .string x21_1, .string x21_2, .slice x21_3p x21_3l x21_3c, .slice x21_4p x21_4l x21_4c, .string x21_5]⟩] w27 [.agg [.int .i64, .str, .str, .slice, .slice, .str]] fun (r22_0 : Int) (r22_1 : ByteArray) (r22_2 : ByteArray) (r22_3p : Option Addr) (r22_3l : Nat) (r22_3c : Nat) (r22_4p : Option Addr) (r22_4l : Nat) (r22_4c : Nat) (r22_5 : ByteArray) (w28 : World) =>
  (
  newB w28 (.cells (zeroC Tryz.prog T_api_Node) T_api_Node) fun b5 w29 =>
  cellsAt w29 ⟨b3, 5, none⟩ [.int .i64 x21_0, .string x21_1, .string x21_2, .slice x21_3p x21_3l x21_3c, .slice x21_4p x21_4l x21_4c, .string x21_5] ∧
  w29.cell? ⟨b3, 1, none⟩ = some (.slice x18p x18l x18c) ∧
  cellsAt w29 ⟨b2, 0, none⟩ [.int .i64 x14_0, .string x14_1, .string x14_2, .slice x14_3p x14_3l x14_3c, .slice x14_4p x14_4l x14_4c, .string x14_5] ∧
  newB w29 (.cells (zeroC Tryz.prog T_api_Node) T_api_Node) fun b7 w30 =>
  cellsAt w30 ⟨b3, 5, none⟩ [.int .i64 x21_0, .string x21_1, .string x21_2, .slice x21_3p x21_3l x21_3c, .slice x21_4p x21_4l x21_4c, .string x21_5] ∧
  w30.cell? ⟨b3, 1, none⟩ = some (.slice x18p x18l x18c) ∧
  cellsAt w30 ⟨b2, 0, none⟩ [.int .i64 x14_0, .string x14_1, .string x14_2, .slice x14_3p x14_3l x14_3c, .slice x14_4p x14_4l x14_4c, .string x14_5] ∧
  stN w30 ⟨b5, 0, none⟩ ⟨[.int .i64 r15_0, .string r15_1, .string r15_2, .slice r15_3p r15_3l r15_3c, .slice r15_4p r15_4l r15_4c, .string r15_5]⟩ 6 fun w31 =>
  stN w31 ⟨b7, 0, none⟩ ⟨[.int .i64 r22_0, .string r22_1, .string r22_2, .slice r22_3p r22_3l r22_3c, .slice r22_4p r22_4l r22_4c, .string r22_5]⟩ 6 fun w32 =>
  J_5 (some ⟨b5, 0, none⟩) q19p q19l q19c (some ⟨b7, 0, none⟩) w32) ∧ (
  newB w28 (.cells (zeroC Tryz.prog T_api_Node) T_api_Node) fun b7_1 w33 =>
  cellsAt w33 ⟨b3, 5, none⟩ [.int .i64 x21_0, .string x21_1, .string x21_2, .slice x21_3p x21_3l x21_3c, .slice x21_4p x21_4l x21_4c, .string x21_5] ∧
  w33.cell? ⟨b3, 1, none⟩ = some (.slice x18p x18l x18c) ∧
  cellsAt w33 ⟨b2, 0, none⟩ [.int .i64 x14_0, .string x14_1, .string x14_2, .slice x14_3p x14_3l x14_3c, .slice x14_4p x14_4l x14_4c, .string x14_5] ∧
  newB w33 (.cells (zeroC Tryz.prog T_api_Node) T_api_Node) fun b5_1 w34 =>
  cellsAt w34 ⟨b3, 5, none⟩ [.int .i64 x21_0, .string x21_1, .string x21_2, .slice x21_3p x21_3l x21_3c, .slice x21_4p x21_4l x21_4c, .string x21_5] ∧
  w34.cell? ⟨b3, 1, none⟩ = some (.slice x18p x18l x18c) ∧
  cellsAt w34 ⟨b2, 0, none⟩ [.int .i64 x14_0, .string x14_1, .string x14_2, .slice x14_3p x14_3l x14_3c, .slice x14_4p x14_4l x14_4c, .string x14_5] ∧
  stN w34 ⟨b5_1, 0, none⟩ ⟨[.int .i64 r15_0, .string r15_1, .string r15_2, .slice r15_3p r15_3l r15_3c, .slice r15_4p r15_4l r15_4c, .string r15_5]⟩ 6 fun w35 =>
  stN w35 ⟨b7_1, 0, none⟩ ⟨[.int .i64 r22_0, .string r22_1, .string r22_2, .slice r22_3p r22_3l r22_3c, .slice r22_4p r22_4l r22_4c, .string r22_5]⟩ 6 fun w36 =>
  J_5 (some ⟨b5_1, 0, none⟩) q19p q19l q19c (some ⟨b7_1, 0, none⟩) w36)) ∧ (
  (
  newB w27 (.cells (zeroC Tryz.prog T_api_Node) T_api_Node) fun b5_2 w37 =>
  cellsAt w37 ⟨b3, 5, none⟩ [.int .i64 x21_0, .string x21_1, .string x21_2, .slice x21_3p x21_3l x21_3c, .slice x21_4p x21_4l x21_4c, .string x21_5] ∧
  w37.cell? ⟨b3, 1, none⟩ = some (.slice x18p x18l x18c) ∧
  cellsAt w37 ⟨b2, 0, none⟩ [.int .i64 x14_0, .string x14_1, .string x14_2, .slice x14_3p x14_3l x14_3c, .slice x14_4p x14_4l x14_4c, .string x14_5] ∧
  (
  callJ Tryz.prog fn_ref05_Twin #[.agg ⟨[.int .i64 x21_0, .string x21_1, .string x21_2, .slice x21_3p x21_3l x21_3c, .slice x21_4p x21_4l x21_4c, .string x21_5]⟩] w37 [.agg [.int .i64, .str, .str, .slice, .slice, .str]] fun (r22_1_0 : Int) (r22_1_1 : ByteArray) (r22_1_2 : ByteArray) (r22_1_3p : Option Addr) (r22_1_3l : Nat) (r22_1_3c : Nat) (r22_1_4p : Option Addr) (r22_1_4l : Nat) (r22_1_4c : Nat) (r22_1_5 : ByteArray) (w38 : World) =>
  newB w38 (.cells (zeroC Tryz.prog T_api_Node) T_api_Node) fun b7_2 w39 =>
  cellsAt w39 ⟨b3, 5, none⟩ [.int .i64 x21_0, .string x21_1, .string x21_2, .slice x21_3p x21_3l x21_3c, .slice x21_4p x21_4l x21_4c, .string x21_5] ∧
  w39.cell? ⟨b3, 1, none⟩ = some (.slice x18p x18l x18c) ∧
  cellsAt w39 ⟨b2, 0, none⟩ [.int .i64 x14_0, .string x14_1, .string x14_2, .slice x14_3p x14_3l x14_3c, .slice x14_4p x14_4l x14_4c, .string x14_5] ∧
  stN w39 ⟨b5_2, 0, none⟩ ⟨[.int .i64 r15_0, .string r15_1, .string r15_2, .slice r15_3p r15_3l r15_3c, .slice r15_4p r15_4l r15_4c, .string r15_5]⟩ 6 fun w40 =>
  stN w40 ⟨b7_2, 0, none⟩ ⟨[.int .i64 r22_1_0, .string r22_1_1, .string r22_1_2, .slice r22_1_3p r22_1_3l r22_1_3c, .slice r22_1_4p r22_1_4l r22_1_4c, .string r22_1_5]⟩ 6 fun w41 =>
  J_5 (some ⟨b5_2, 0, none⟩) q19p q19l q19c (some ⟨b7_2, 0, none⟩) w41) ∧ (
  newB w37 (.cells (zeroC Tryz.prog T_api_Node) T_api_Node) fun b7_3 w42 =>
  cellsAt w42 ⟨b3, 5, none⟩ [.int .i64 x21_0, .string x21_1, .string x21_2, .slice x21_3p x21_3l x21_3c, .slice x21_4p x21_4l x21_4c, .string x21_5] ∧
  w42.cell? ⟨b3, 1, none⟩ = some (.slice x18p x18l x18c) ∧
  cellsAt w42 ⟨b2, 0, none⟩ [.int .i64 x14_0, .string x14_1, .string x14_2, .slice x14_3p x14_3l x14_3c, .slice x14_4p x14_4l x14_4c, .string x14_5] ∧
  callJ Tryz.prog fn_ref05_Twin #[.agg ⟨[.int .i64 x21_0, .string x21_1, .string x21_2, .slice x21_3p x21_3l x21_3c, .slice x21_4p x21_4l x21_4c, .string x21_5]⟩] w42 [.agg [.int .i64, .str, .str, .slice, .slice, .str]] fun (r22_2_0 : Int) (r22_2_1 : ByteArray) (r22_2_2 : ByteArray) (r22_2_3p : Option Addr) (r22_2_3l : Nat) (r22_2_3c : Nat) (r22_2_4p : Option Addr) (r22_2_4l : Nat) (r22_2_4c : Nat) (r22_2_5 : ByteArray) (w43 : World) =>
  stN w43 ⟨b5_2, 0, none⟩ ⟨[.int .i64 r15_0, .string r15_1, .string r15_2, .slice r15_3p r15_3l r15_3c, .slice r15_4p r15_4l r15_4c, .string r15_5]⟩ 6 fun w44 =>
  stN w44 ⟨b7_3, 0, none⟩ ⟨[.int .i64 r22_2_0, .string r22_2_1, .string r22_2_2, .slice r22_2_3p r22_2_3l r22_2_3c, .slice r22_2_4p r22_2_4l r22_2_4c, .string r22_2_5]⟩ 6 fun w45 =>
  J_5 (some ⟨b5_2, 0, none⟩) q19p q19l q19c (some ⟨b7_3, 0, none⟩) w45)) ∧ (
  newB w27 (.cells (zeroC Tryz.prog T_api_Node) T_api_Node) fun b7_4 w46 =>
  cellsAt w46 ⟨b3, 5, none⟩ [.int .i64 x21_0, .string x21_1, .string x21_2, .slice x21_3p x21_3l x21_3c, .slice x21_4p x21_4l x21_4c, .string x21_5] ∧
  w46.cell? ⟨b3, 1, none⟩ = some (.slice x18p x18l x18c) ∧
  cellsAt w46 ⟨b2, 0, none⟩ [.int .i64 x14_0, .string x14_1, .string x14_2, .slice x14_3p x14_3l x14_3c, .slice x14_4p x14_4l x14_4c, .string x14_5] ∧
  (
  callJ Tryz.prog fn_ref05_Twin #[.agg ⟨[.int .i64 x21_0, .string x21_1, .string x21_2, .slice x21_3p x21_3l x21_3c, .slice x21_4p x21_4l x21_4c, .string x21_5]⟩] w46 [.agg [.int .i64, .str, .str, .slice, .slice, .str]] fun (r22_3_0 : Int) (r22_3_1 : ByteArray) (r22_3_2 : ByteArray) (r22_3_3p : Option Addr) (r22_3_3l : Nat) (r22_3_3c : Nat) (r22_3_4p : Option Addr) (r22_3_4l : Nat) (r22_3_4c : Nat) (r22_3_5 : ByteArray) (w47 : World) =>
  newB w47 (.cells (zeroC Tryz.prog T_api_Node) T_api_Node) fun b5_3 w48 =>
  cellsAt w48 ⟨b3, 5, none⟩ [.int .i64 x21_0, .string x21_1, .string x21_2, .slice x21_3p x21_3l x21_3c, .slice x21_4p x21_4l x21_4c, .string x21_5] ∧
  w48.cell? ⟨b3, 1, none⟩ = some (.slice x18p x18l x18c) ∧
  cellsAt w48 ⟨b2, 0, none⟩ [.int .i64 x14_0, .string x14_1, .string x14_2, .slice x14_3p x14_3l x14_3c, .slice x14_4p x14_4l x14_4c, .string x14_5] ∧
  stN w48 ⟨b5_3, 0, none⟩ ⟨[.int .i64 r15_0, .string r15_1, .string r15_2, .slice r15_3p r15_3l r15_3c, .slice r15_4p r15_4l r15_4c, .string r15_5]⟩ 6 fun w49 =>
  stN w49 ⟨b7_4, 0, none⟩ ⟨[.int .i64 r22_3_0, .string r22_3_1, .string r22_3_2, .slice r22_3_3p r22_3_3l r22_3_3c, .slice r22_3_4p r22_3_4l r22_3_4c, .string r22_3_5]⟩ 6 fun w50 =>
  J_5 (some ⟨b5_3, 0, none⟩) q19p q19l q19c (some ⟨b7_4, 0, none⟩) w50) ∧ (
  newB w46 (.cells (zeroC Tryz.prog T_api_Node) T_api_Node) fun b5_4 w51 =>
  cellsAt w51 ⟨b3, 5, none⟩ [.int .i64 x21_0, .string x21_1, .string x21_2, .slice x21_3p x21_3l x21_3c, .slice x21_4p x21_4l x21_4c, .string x21_5] ∧
  w51.cell? ⟨b3, 1, none⟩ = some (.slice x18p x18l x18c) ∧
  cellsAt w51 ⟨b2, 0, none⟩ [.int .i64 x14_0, .string x14_1, .string x14_2, .slice x14_3p x14_3l x14_3c, .slice x14_4p x14_4l x14_4c, .string x14_5] ∧
  callJ Tryz.prog fn_ref05_Twin #[.agg ⟨[.int .i64 x21_0, .string x21_1, .string x21_2, .slice x21_3p x21_3l x21_3c, .slice x21_4p x21_4l x21_4c, .string x21_5]⟩] w51 [.agg [.int .i64, .str, .str, .slice, .slice, .str]] fun (r22_4_0 : Int) (r22_4_1 : ByteArray) (r22_4_2 : ByteArray) (r22_4_3p : Option Addr) (r22_4_3l : Nat) (r22_4_3c : Nat) (r22_4_4p : Option Addr) (r22_4_4l : Nat) (r22_4_4c : Nat) (r22_4_5 : ByteArray) (w52 : World) =>
  stN w52 ⟨b5_4, 0, none⟩ ⟨[.int .i64 r15_0, .string r15_1, .string r15_2, .slice r15_3p r15_3l r15_3c, .slice r15_4p r15_4l r15_4c, .string r15_5]⟩ 6 fun w53 =>
  stN w53 ⟨b7_4, 0, none⟩ ⟨[.int .i64 r22_4_0, .string r22_4_1, .string r22_4_2, .slice r22_4_3p r22_4_3l r22_4_3c, .slice r22_4_4p r22_4_4l r22_4_4c, .string r22_4_5]⟩ 6 fun w54 =>
  J_5 (some ⟨b5_4, 0, none⟩) q19p q19l q19c (some ⟨b7_4, 0, none⟩) w54)))) ∧ (
  (
  newB w26 (.cells (zeroC Tryz.prog T_api_Node) T_api_Node) fun b5_5 w55 =>
  cellsAt w55 ⟨b3, 5, none⟩ [.int .i64 x21_0, .string x21_1, .string x21_2, .slice x21_3p x21_3l x21_3c, .slice x21_4p x21_4l x21_4c, .string x21_5] ∧
  w55.cell? ⟨b3, 1, none⟩ = some (.slice x18p x18l x18c) ∧
  cellsAt w55 ⟨b2, 0, none⟩ [.int .i64 x14_0, .string x14_1, .string x14_2, .slice x14_3p x14_3l x14_3c, .slice x14_4p x14_4l x14_4c, .string x14_5] ∧
  (
  appJ Tryz.prog T_sl_int T_sl_int (.slice (some ⟨b16, 0, none⟩) 0 0) (.slice x18p x18l x18c) w55 fun q19_1p q19_1l q19_1c w56 =>
  cellsAt w56 ⟨b3, 5, none⟩ [.int .i64 x21_0, .string x21_1, .string x21_2, .slice x21_3p x21_3l x21_3c, .slice x21_4p x21_4l x21_4c, .string x21_5] ∧
  (
  callJ Tryz.prog fn_ref05_Twin #[.agg ⟨[.int .i64 x21_0, .string x21_1, .string x21_2, .slice x21_3p x21_3l x21_3c, .slice x21_4p x21_4l x21_4c, .string x21_5]⟩] w56 [.agg [.int .i64, .str, .str, .slice, .slice, .str]] fun (r22_5_0 : Int) (r22_5_1 : ByteArray) (r22_5_2 : ByteArray) (r22_5_3p : Option Addr) (r22_5_3l : Nat) (r22_5_3c : Nat) (r22_5_4p : Option Addr) (r22_5_4l : Nat) (r22_5_4c : Nat) (r22_5_5 : ByteArray) (w57 : World) =>
  newB w57 (.cells (zeroC Tryz.prog T_api_Node) T_api_Node) fun b7_5 w58 =>
  cellsAt w58 ⟨b3, 5, none⟩ [.int .i64 x21_0, .string x21_1, .string x21_2, .slice x21_3p x21_3l x21_3c, .slice x21_4p x21_4l x21_4c, .string x21_5] ∧
  w58.cell? ⟨b3, 1, none⟩ = some (.slice x18p x18l x18c) ∧
  cellsAt w58 ⟨b2, 0, none⟩ [.int .i64 x14_0, .string x14_1, .string x14_2, .slice x14_3p x14_3l x14_3c, .slice x14_4p x14_4l x14_4c, .string x14_5] ∧
  stN w58 ⟨b5_5, 0, none⟩ ⟨[.int .i64 r15_0, .string r15_1, .string r15_2, .slice r15_3p r15_3l r15_3c, .slice r15_4p r15_4l r15_4c, .string r15_5]⟩ 6 fun w59 =>
  stN w59 ⟨b7_5, 0, none⟩ ⟨[.int .i64 r22_5_0, .string r22_5_1, .string r22_5_2, .slice r22_5_3p r22_5_3l r22_5_3c, .slice r22_5_4p r22_5_4l r22_5_4c, .string r22_5_5]⟩ 6 fun w60 =>
  J_5 (some ⟨b5_5, 0, none⟩) q19_1p q19_1l q19_1c (some ⟨b7_5, 0, none⟩) w60) ∧ (
  newB w56 (.cells (zeroC Tryz.prog T_api_Node) T_api_Node) fun b7_6 w61 =>
  cellsAt w61 ⟨b3, 5, none⟩ [.int .i64 x21_0, .string x21_1, .string x21_2, .slice x21_3p x21_3l x21_3c, .slice x21_4p x21_4l x21_4c, .string x21_5] ∧
  w61.cell? ⟨b3, 1, none⟩ = some (.slice x18p x18l x18c) ∧
  cellsAt w61 ⟨b2, 0, none⟩ [.int .i64 x14_0, .string x14_1, .string x14_2, .slice x14_3p x14_3l x14_3c, .slice x14_4p x14_4l x14_4c, .string x14_5] ∧
  callJ Tryz.prog fn_ref05_Twin #[.agg ⟨[.int .i64 x21_0, .string x21_1, .string x21_2, .slice x21_3p x21_3l x21_3c, .slice x21_4p x21_4l x21_4c, .string x21_5]⟩] w61 [.agg [.int .i64, .str, .str, .slice, .slice, .str]] fun (r22_6_0 : Int) (r22_6_1 : ByteArray) (r22_6_2 : ByteArray) (r22_6_3p : Option Addr) (r22_6_3l : Nat) (r22_6_3c : Nat) (r22_6_4p : Option Addr) (r22_6_4l : Nat) (r22_6_4c : Nat) (r22_6_5 : ByteArray) (w62 : World) =>
  stN w62 ⟨b5_5, 0, none⟩ ⟨[.int .i64 r15_0, .string r15_1, .string r15_2, .slice r15_3p r15_3l r15_3c, .slice r15_4p r15_4l r15_4c, .string r15_5]⟩ 6 fun w63 =>
  stN w63 ⟨b7_6, 0, none⟩ ⟨[.int .i64 r22_6_0, .string r22_6_1, .string r22_6_2, .slice r22_6_3p r22_6_3l r22_6_3c, .slice r22_6_4p r22_6_4l r22_6_4c, .string r22_6_5]⟩ 6 fun w64 =>
  J_5 (some ⟨b5_5, 0, none⟩) q19_1p q19_1l q19_1c (some ⟨b7_6, 0, none⟩) w64)) ∧ (
  newB w55 (.cells (zeroC Tryz.prog T_api_Node) T_api_Node) fun b7_7 w65 =>
  cellsAt w65 ⟨b3, 5, none⟩ [.int .i64 x21_0, .string x21_1, .string x21_2, .slice x21_3p x21_3l x21_3c, .slice x21_4p x21_4l x21_4c, .string x21_5] ∧
  w65.cell? ⟨b3, 1, none⟩ = some (.slice x18p x18l x18c) ∧
  cellsAt w65 ⟨b2, 0, none⟩ [.int .i64 x14_0, .string x14_1, .string x14_2, .slice x14_3p x14_3l x14_3c, .slice x14_4p x14_4l x14_4c, .string x14_5] ∧
  appJ Tryz.prog T_sl_int T_sl_int (.slice (some ⟨b16, 0, none⟩) 0 0) (.slice x18p x18l x18c) w65 fun q19_2p q19_2l q19_2c w66 =>
  cellsAt w66 ⟨b3, 5, none⟩ [.int .i64 x21_0, .string x21_1, .string x21_2, .slice x21_3p x21_3l x21_3c, .slice x21_4p x21_4l x21_4c, .string x21_5] ∧
  callJ Tryz.prog fn_ref05_Twin #[.agg ⟨[.int .i64 x21_0, .string x21_1, .string x21_2, .slice x21_3p x21_3l x21_3c, .slice x21_4p x21_4l x21_4c, .string x21_5]⟩] w66 [.agg [.int .i64, .str, .str, .slice, .slice, .str]] fun (r22_7_0 : Int) (r22_7_1 : ByteArray) (r22_7_2 : ByteArray) (r22_7_3p : Option Addr) (r22_7_3l : Nat) (r22_7_3c : Nat) (r22_7_4p : Option Addr) (r22_7_4l : Nat) (r22_7_4c : Nat) (r22_7_5 : ByteArray) (w67 : World) =>
  stN w67 ⟨b5_5, 0, none⟩ ⟨[.int .i64 r15_0, .string r15_1, .string r15_2, .slice r15_3p r15_3l r15_3c, .slice r15_4p r15_4l r15_4c, .string r15_5]⟩ 6 fun w68 =>
  stN w68 ⟨b7_7, 0, none⟩ ⟨[.int .i64 r22_7_0, .string r22_7_1, .string r22_7_2, .slice r22_7_3p r22_7_3l r22_7_3c, .slice r22_7_4p r22_7_4l r22_7_4c, .string r22_7_5]⟩ 6 fun w69 =>
  J_5 (some ⟨b5_5, 0, none⟩) q19_2p q19_2l q19_2c (some ⟨b7_7, 0, none⟩) w69)) ∧ (
  newB w26 (.cells (zeroC Tryz.prog T_api_Node) T_api_Node) fun b7_8 w70 =>
  cellsAt w70 ⟨b3, 5, none⟩ [.int .i64 x21_0, .string x21_1, .string x21_2, .slice x21_3p x21_3l x21_3c, .slice x21_4p x21_4l x21_4c, .string x21_5] ∧
  w70.cell? ⟨b3, 1, none⟩ = some (.slice x18p x18l x18c) ∧
  cellsAt w70 ⟨b2, 0, none⟩ [.int .i64 x14_0, .string x14_1, .string x14_2, .slice x14_3p x14_3l x14_3c, .slice x14_4p x14_4l x14_4c, .string x14_5] ∧
  (
  appJ Tryz.prog T_sl_int T_sl_int (.slice (some ⟨b16, 0, none⟩) 0 0) (.slice x18p x18l x18c) w70 fun q19_3p q19_3l q19_3c w71 =>
  cellsAt w71 ⟨b3, 5, none⟩ [.int .i64 x21_0, .string x21_1, .string x21_2, .slice x21_3p x21_3l x21_3c, .slice x21_4p x21_4l x21_4c, .string x21_5] ∧
  (
  callJ Tryz.prog fn_ref05_Twin #[.agg ⟨[.int .i64 x21_0, .string x21_1, .string x21_2, .slice x21_3p x21_3l x21_3c, .slice x21_4p x21_4l x21_4c, .string x21_5]⟩] w71 [.agg [.int .i64, .str, .str, .slice, .slice, .str]] fun (r22_8_0 : Int) (r22_8_1 : ByteArray) (r22_8_2 : ByteArray) (r22_8_3p : Option Addr) (r22_8_3l : Nat) (r22_8_3c : Nat) (r22_8_4p : Option Addr) (r22_8_4l : Nat) (r22_8_4c : Nat) (r22_8_5 : ByteArray) (w72 : World) =>
  newB w72 (.cells (zeroC Tryz.prog T_api_Node) T_api_Node) fun b5_6 w73 =>
  cellsAt w73 ⟨b3, 5, none⟩ [.int .i64 x21_0, .string x21_1, .string x21_2, .slice x21_3p x21_3l x21_3c, .slice x21_4p x21_4l x21_4c, .string x21_5] ∧
  w73.cell? ⟨b3, 1, none⟩ = some (.slice x18p x18l x18c) ∧
  cellsAt w73 ⟨b2, 0, none⟩ [.int .i64 x14_0, .string x14_1, .string x14_2, .slice x14_3p x14_3l x14_3c, .slice x14_4p x14_4l x14_4c, .string x14_5] ∧
  stN w73 ⟨b5_6, 0, none⟩ ⟨[.int .i64 r15_0, .string r15_1, .string r15_2, .slice r15_3p r15_3l r15_3c, .slice r15_4p r15_4l r15_4c, .string r15_5]⟩ 6 fun w74 =>
  stN w74 ⟨b7_8, 0, none⟩ ⟨[.int .i64 r22_8_0, .string r22_8_1, .string r22_8_2, .slice r22_8_3p r22_8_3l r22_8_3c, .slice r22_8_4p r22_8_4l r22_8_4c, .string r22_8_5]⟩ 6 fun w75 =>
  J_5 (some ⟨b5_6, 0, none⟩) q19_3p q19_3l q19_3c (some ⟨b7_8, 0, none⟩) w75) ∧ (
  newB w71 (.cells (zeroC Tryz.prog T_api_Node) T_api_Node) fun b5_7 w76 =>
  cellsAt w76 ⟨b3, 5, none⟩ [.int .i64 x21_0, .string x21_1, .string x21_2, .slice x21_3p x21_3l x21_3c, .slice x21_4p x21_4l x21_4c, .string x21_5] ∧
  w76.cell? ⟨b3, 1, none⟩ = some (.slice x18p x18l x18c) ∧
  cellsAt w76 ⟨b2, 0, none⟩ [.int .i64 x14_0, .string x14_1, .string x14_2, .slice x14_3p x14_3l x14_3c, .slice x14_4p x14_4l x14_4c, .string x14_5] ∧
  callJ Tryz.prog fn_ref05_Twin #[.agg ⟨[.int .i64 x21_0, .string x21_1, .string x21_2, .slice x21_3p x21_3l x21_3c, .slice x21_4p x21_4l x21_4c, .string x21_5]⟩] w76 [.agg [.int .i64, .str, .str, .slice, .slice, .str]] fun (r22_9_0 : Int) (r22_9_1 : ByteArray) (r22_9_2 : ByteArray) (r22_9_3p : Option Addr) (r22_9_3l : Nat) (r22_9_3c : Nat) (r22_9_4p : Option Addr) (r22_9_4l : Nat) (r22_9_4c : Nat) (r22_9_5 : ByteArray) (w77 : World) =>
  stN w77 ⟨b5_7, 0, none⟩ ⟨[.int .i64 r15_0, .string r15_1, .string r15_2, .slice r15_3p r15_3l r15_3c, .slice r15_4p r15_4l r15_4c, .string r15_5]⟩ 6 fun w78 =>
  stN w78 ⟨b7_8, 0, none⟩ ⟨[.int .i64 r22_9_0, .string r22_9_1, .string r22_9_2, .slice r22_9_3p r22_9_3l r22_9_3c, .slice r22_9_4p r22_9_4l r22_9_4c, .string r22_9_5]⟩ 6 fun w79 =>
  J_5 (some ⟨b5_7, 0, none⟩) q19_3p q19_3l q19_3c (some ⟨b7_8, 0, none⟩) w79)) ∧ (
  newB w70 (.cells (zeroC Tryz.prog T_api_Node) T_api_Node) fun b5_8 w80 =>
  cellsAt w80 ⟨b3, 5, none⟩ [.int .i64 x21_0, .string x21_1, .string x21_2, .slice x21_3p x21_3l x21_3c, .slice x21_4p x21_4l x21_4c, .string x21_5] ∧
  w80.cell? ⟨b3, 1, none⟩ = some (.slice x18p x18l x18c) ∧
  cellsAt w80 ⟨b2, 0, none⟩ [.int .i64 x14_0, .string x14_1, .string x14_2, .slice x14_3p x14_3l x14_3c, .slice x14_4p x14_4l x14_4c, .string x14_5] ∧
  appJ Tryz.prog T_sl_int T_sl_int (.slice (some ⟨b16, 0, none⟩) 0 0) (.slice x18p x18l x18c) w80 fun q19_4p q19_4l q19_4c w81 =>
  cellsAt w81 ⟨b3, 5, none⟩ [.int .i64 x21_0, .string x21_1, .string x21_2, .slice x21_3p x21_3l x21_3c, .slice x21_4p x21_4l x21_4c, .string x21_5] ∧
  callJ Tryz.prog fn_ref05_Twin #[.agg ⟨[.int .i64 x21_0, .string x21_1, .string x21_2, .slice x21_3p x21_3l x21_3c, .slice x21_4p x21_4l x21_4c, .string x21_5]⟩] w81 [.agg [.int .i64, .str, .str, .slice, .slice, .str]] fun (r22_10_0 : Int) (r22_10_1 : ByteArray) (r22_10_2 : ByteArray) (r22_10_3p : Option Addr) (r22_10_3l : Nat) (r22_10_3c : Nat) (r22_10_4p : Option Addr) (r22_10_4l : Nat) (r22_10_4c : Nat) (r22_10_5 : ByteArray) (w82 : World) =>
  stN w82 ⟨b5_8, 0, none⟩ ⟨[.int .i64 r15_0, .string r15_1, .string r15_2, .slice r15_3p r15_3l r15_3c, .slice r15_4p r15_4l r15_4c, .string r15_5]⟩ 6 fun w83 =>
  stN w83 ⟨b7_8, 0, none⟩ ⟨[.int .i64 r22_10_0, .string r22_10_1, .string r22_10_2, .slice r22_10_3p r22_10_3l r22_10_3c, .slice r22_10_4p r22_10_4l r22_10_4c, .string r22_10_5]⟩ 6 fun w84 =>
  J_5 (some ⟨b5_8, 0, none⟩) q19_4p q19_4l q19_4c (some ⟨b7_8, 0, none⟩) w84)))) ∧ (
  (
  newB w25 (.cells (zeroC Tryz.prog T_api_Node) T_api_Node) fun b5_9 w85 =>
  cellsAt w85 ⟨b3, 5, none⟩ [.int .i64 x21_0, .string x21_1, .string x21_2, .slice x21_3p x21_3l x21_3c, .slice x21_4p x21_4l x21_4c, .string x21_5] ∧
  w85.cell? ⟨b3, 1, none⟩ = some (.slice x18p x18l x18c) ∧
  cellsAt w85 ⟨b2, 0, none⟩ [.int .i64 x14_0, .string x14_1, .string x14_2, .slice x14_3p x14_3l x14_3c, .slice x14_4p x14_4l x14_4c, .string x14_5] ∧
  (
  newB w85 (.cells ⟨[]⟩ T_int) fun b16_1 w86 =>
  cellsAt w86 ⟨b3, 5, none⟩ [.int .i64 x21_0, .string x21_1, .string x21_2, .slice x21_3p x21_3l x21_3c, .slice x21_4p x21_4l x21_4c, .string x21_5] ∧
  w86.cell? ⟨b3, 1, none⟩ = some (.slice x18p x18l x18c) ∧
  cellsAt w86 ⟨b2, 0, none⟩ [.int .i64 x14_0, .string x14_1, .string x14_2, .slice x14_3p x14_3l x14_3c, .slice x14_4p x14_4l x14_4c, .string x14_5] ∧
  (
  appJ Tryz.prog T_sl_int T_sl_int (.slice (some ⟨b16_1, 0, none⟩) 0 0) (.slice x18p x18l x18c) w86 fun q19_5p q19_5l q19_5c w87 =>
  cellsAt w87 ⟨b3, 5, none⟩ [.int .i64 x21_0, .string x21_1, .string x21_2, .slice x21_3p x21_3l x21_3c, .slice x21_4p x21_4l x21_4c, .string x21_5] ∧
  (
  callJ Tryz.prog fn_ref05_Twin #[.agg ⟨[.int .i64 x21_0, .string x21_1, .string x21_2, .slice x21_3p x21_3l x21_3c, .slice x21_4p x21_4l x21_4c, .string x21_5]⟩] w87 [.agg [.int .i64, .str, .str, .slice, .slice, .str]] fun (r22_11_0 : Int) (r22_11_1 : ByteArray) (r22_11_2 : ByteArray) (r22_11_3p : Option Addr) (r22_11_3l : Nat) (r22_11_3c : Nat) (r22_11_4p : Option Addr) (r22_11_4l : Nat) (r22_11_4c : Nat) (r22_11_5 : ByteArray) (w88 : World) =>
  newB w88 (.cells (zeroC Tryz.prog T_api_Node) T_api_Node) fun b7_9 w89 =>
  cellsAt w89 ⟨b3, 5, none⟩ [.int .i64 x21_0, .string x21_1, .string x21_2, .slice x21_3p x21_3l x21_3c, .slice x21_4p x21_4l x21_4c, .string x21_5] ∧
  w89.cell? ⟨b3, 1, none⟩ = some (.slice x18p x18l x18c) ∧
  cellsAt w89 ⟨b2, 0, none⟩ [.int .i64 x14_0, .string x14_1, .string x14_2, .slice x14_3p x14_3l x14_3c, .slice x14_4p x14_4l x14_4c, .string x14_5] ∧
  stN w89 ⟨b5_9, 0, none⟩ ⟨[.int .i64 r15_0, .string r15_1, .string r15_2, .slice r15_3p r15_3l r15_3c, .slice r15_4p r15_4l r15_4c, .string r15_5]⟩ 6 fun w90 =>
  stN w90 ⟨b7_9, 0, none⟩ ⟨[.int .i64 r22_11_0, .string r22_11_1, .string r22_11_2, .slice r22_11_3p r22_11_3l r22_11_3c, .slice r22_11_4p r22_11_4l r22_11_4c, .string r22_11_5]⟩ 6 fun w91 =>
  J_5 (some ⟨b5_9, 0, none⟩) q19_5p q19_5l q19_5c (some ⟨b7_9, 0, none⟩) w91) ∧ (
  newB w87 (.cells (zeroC Tryz.prog T_api_Node) T_api_Node) fun b7_10 w92 =>
  cellsAt w92 ⟨b3, 5, none⟩ [.int .i64 x21_0, .string x21_1, .string x21_2, .slice x21_3p x21_3l x21_3c, .slice x21_4p x21_4l x21_4c, .string x21_5] ∧
  w92.cell? ⟨b3, 1, none⟩ = some (.slice x18p x18l x18c) ∧
  cellsAt w92 ⟨b2, 0, none⟩ [.int .i64 x14_0, .string x14_1, .string x14_2, .slice x14_3p x14_3l x14_3c, .slice x14_4p x14_4l x14_4c, .string x14_5] ∧
  callJ Tryz.prog fn_ref05_Twin #[.agg ⟨[.int .i64 x21_0, .string x21_1, .string x21_2, .slice x21_3p x21_3l x21_3c, .slice x21_4p x21_4l x21_4c, .string x21_5]⟩] w92 [.agg [.int .i64, .str, .str, .slice, .slice, .str]] fun (r22_12_0 : Int) (r22_12_1 : ByteArray) (r22_12_2 : ByteArray) (r22_12_3p : Option Addr) (r22_12_3l : Nat) (r22_12_3c : Nat) (r22_12_4p : Option Addr) (r22_12_4l : Nat) (r22_12_4c : Nat) (r22_12_5 : ByteArray) (w93 : World) =>
  stN w93 ⟨b5_9, 0, none⟩ ⟨[.int .i64 r15_0, .string r15_1, .string r15_2, .slice r15_3p r15_3l r15_3c, .slice r15_4p r15_4l r15_4c, .string r15_5]⟩ 6 fun w94 =>
  stN w94 ⟨b7_10, 0, none⟩ ⟨[.int .i64 r22_12_0, .string r22_12_1, .string r22_12_2, .slice r22_12_3p r22_12_3l r22_12_3c, .slice r22_12_4p r22_12_4l r22_12_4c, .string r22_12_5]⟩ 6 fun w95 =>
  J_5 (some ⟨b5_9, 0, none⟩) q19_5p q19_5l q19_5c (some ⟨b7_10, 0, none⟩) w95)) ∧ (
  newB w86 (.cells (zeroC Tryz.prog T_api_Node) T_api_Node) fun b7_11 w96 =>
  cellsAt w96 ⟨b3, 5, none⟩ [.int .i64 x21_0, .string x21_1, .string x21_2, .slice x21_3p x21_3l x21_3c, .slice x21_4p x21_4l x21_4c, .string x21_5] ∧
  w96.cell? ⟨b3, 1, none⟩ = some (.slice x18p x18l x18c) ∧
  cellsAt w96 ⟨b2, 0, none⟩ [.int .i64 x14_0, .string x14_1, .string x14_2, .slice x14_3p x14_3l x14_3c, .slice x14_4p x14_4l x14_4c, .string x14_5] ∧
  appJ Tryz.prog T_sl_int T_sl_int (.slice (some ⟨b16_1, 0, none⟩) 0 0) (.slice x18p x18l x18c) w96 fun q19_6p q19_6l q19_6c w97 =>
  cellsAt w97 ⟨b3, 5, none⟩ [.int .i64 x21_0, .string x21_1, .string x21_2, .slice x21_3p x21_3l x21_3c, .slice x21_4p x21_4l x21_4c, .string x21_5] ∧
  callJ Tryz.prog fn_ref05_Twin #[.agg ⟨[.int .i64 x21_0, .string x21_1, .string x21_2, .slice x21_3p x21_3l x21_3c, .slice x21_4p x21_4l x21_4c, .string x21_5]⟩] w97 [.agg [.int .i64, .str, .str, .slice, .slice, .str]] fun (r22_13_0 : Int) (r22_13_1 : ByteArray) (r22_13_2 : ByteArray) (r22_13_3p : Option Addr) (r22_13_3l : Nat) (r22_13_3c : Nat) (r22_13_4p : Option Addr) (r22_13_4l : Nat) (r22_13_4c : Nat) (r22_13_5 : ByteArray) (w98 : World) =>
  stN w98 ⟨b5_9, 0, none⟩ ⟨[.int .i64 r15_0, .string r15_1, .string r15_2, .slice r15_3p r15_3l r15_3c, .slice r15_4p r15_4l r15_4c, .string r15_5]⟩ 6 fun w99 =>
  stN w99 ⟨b7_11, 0, none⟩ ⟨[.int .i64 r22_13_0, .string r22_13_1, .string r22_13_2, .slice r22_13_3p r22_13_3l r22_13_3c, .slice r22_13_4p r22_13_4l r22_13_4c, .string r22_13_5]⟩ 6 fun w100 =>
  J_5 (some ⟨b5_9, 0, none⟩) q19_6p q19_6l q19_6c (some ⟨b7_11, 0, none⟩) w100)) ∧ (
  newB w85 (.cells (zeroC Tryz.prog T_api_Node) T_api_Node) fun b7_12 w101 =>
  cellsAt w101 ⟨b3, 5, none⟩ [.int .i64 x21_0, .string x21_1, .string x21_2, .slice x21_3p x21_3l x21_3c, .slice x21_4p x21_4l x21_4c, .string x21_5] ∧
  w101.cell? ⟨b3, 1, none⟩ = some (.slice x18p x18l x18c) ∧
  cellsAt w101 ⟨b2, 0, none⟩ [.int .i64 x14_0, .string x14_1, .string x14_2, .slice x14_3p x14_3l x14_3c, .slice x14_4p x14_4l x14_4c, .string x14_5] ∧
  newB w101 (.cells ⟨[]⟩ T_int) fun b16_2 w102 =>
  cellsAt w102 ⟨b3, 5, none⟩ [.int .i64 x21_0, .string x21_1, .string x21_2, .slice x21_3p x21_3l x21_3c, .slice x21_4p x21_4l x21_4c, .string x21_5] ∧
  w102.cell? ⟨b3, 1, none⟩ = some (.slice x18p x18l x18c) ∧
  cellsAt w102 ⟨b2, 0, none⟩ [.int .i64 x14_0, .string x14_1, .string x14_2, .slice x14_3p x14_3l x14_3c, .slice x14_4p x14_4l x14_4c, .string x14_5] ∧
  appJ Tryz.prog T_sl_int T_sl_int (.slice (some ⟨b16_2, 0, none⟩) 0 0) (.slice x18p x18l x18c) w102 fun q19_7p q19_7l q19_7c w103 =>
  cellsAt w103 ⟨b3, 5, none⟩ [.int .i64 x21_0, .string x21_1, .string x21_2, .slice x21_3p x21_3l x21_3c, .slice x21_4p x21_4l x21_4c, .string x21_5] ∧
  callJ Tryz.prog fn_ref05_Twin #[.agg ⟨[.int .i64 x21_0, .string x21_1, .string x21_2, .slice x21_3p x21_3l x21_3c, .slice x21_4p x21_4l x21_4c, .string x21_5]⟩] w103 [.agg [.int .i64, .str, .str, .slice, .slice, .str]] fun (r22_14_0 : Int) (r22_14_1 : ByteArray) (r22_14_2 : ByteArray) (r22_14_3p : Option Addr) (r22_14_3l : Nat) (r22_14_3c : Nat) (r22_14_4p : Option Addr) (r22_14_4l : Nat) (r22_14_4c : Nat) (r22_14_5 : ByteArray) (w104 : World) =>
  stN w104 ⟨b5_9, 0, none⟩ ⟨[.int .i64 r15_0, .string r15_1, .string r15_2, .slice r15_3p r15_3l r15_3c, .slice r15_4p r15_4l r15_4c, .string r15_5]⟩ 6 fun w105 =>
  stN w105 ⟨b7_12, 0, none⟩ ⟨[.int .i64 r22_14_0, .string r22_14_1, .string r22_14_2, .slice r22_14_3p r22_14_3l r22_14_3c, .slice r22_14_4p r22_14_4l r22_14_4c, .string r22_14_5]⟩ 6 fun w106 =>
  J_5 (some ⟨b5_9, 0, none⟩) q19_7p q19_7l q19_7c (some ⟨b7_12, 0, none⟩) w106)) ∧ (
  newB w25 (.cells (zeroC Tryz.prog T_api_Node) T_api_Node) fun b7_13 w107 =>
  cellsAt w107 ⟨b3, 5, none⟩ [.int .i64 x21_0, .string x21_1, .string x21_2, .slice x21_3p x21_3l x21_3c, .slice x21_4p x21_4l x21_4c, .string x21_5] ∧
  w107.cell? ⟨b3, 1, none⟩ = some (.slice x18p x18l x18c) ∧
  cellsAt w107 ⟨b2, 0, none⟩ [.int .i64 x14_0, .string x14_1, .string x14_2, .slice x14_3p x14_3l x14_3c, .slice x14_4p x14_4l x14_4c, .string x14_5] ∧
  (
  newB w107 (.cells ⟨[]⟩ T_int) fun b16_3 w108 =>
  cellsAt w108 ⟨b3, 5, none⟩ [.int .i64 x21_0, .string x21_1, .string x21_2, .slice x21_3p x21_3l x21_3c, .slice x21_4p x21_4l x21_4c, .string x21_5] ∧
  w108.cell? ⟨b3, 1, none⟩ = some (.slice x18p x18l x18c) ∧
  cellsAt w108 ⟨b2, 0, none⟩ [.int .i64 x14_0, .string x14_1, .string x14_2, .slice x14_3p x14_3l x14_3c, .slice x14_4p x14_4l x14_4c, .string x14_5] ∧
  (
  appJ Tryz.prog T_sl_int T_sl_int (.slice (some ⟨b16_3, 0, none⟩) 0 0) (.slice x18p x18l x18c) w108 fun q19_8p q19_8l q19_8c w109 =>
  cellsAt w109 ⟨b3, 5, none⟩ [.int .i64 x21_0, .string x21_1, .string x21_2, .slice x21_3p x21_3l x21_3c, .slice x21_4p x21_4l x21_4c, .string x21_5] ∧
  (
  callJ Tryz.prog fn_ref05_Twin #[.agg ⟨[.int .i64 x21_0, .string x21_1, .string x21_2, .slice x21_3p x21_3l x21_3c, .slice x21_4p x21_4l x21_4c, .string x21_5]⟩] w109 [.agg [.int .i64, .str, .str, .slice, .slice, .str]] fun (r22_15_0 : Int) (r22_15_1 : ByteArray) (r22_15_2 : ByteArray) (r22_15_3p : Option Addr) (r22_15_3l : Nat) (r22_15_3c : Nat) (r22_15_4p : Option Addr) (r22_15_4l : Nat) (r22_15_4c : Nat) (r22_15_5 : ByteArray) (w110 : World) =>
  newB w110 (.cells (zeroC Tryz.prog T_api_Node) T_api_Node) fun b5_10 w111 =>
  cellsAt w111 ⟨b3, 5, none⟩ [.int .i64 x21_0, .string x21_1, .string x21_2, .slice x21_3p x21_3l x21_3c, .slice x21_4p x21_4l x21_4c, .string x21_5] ∧
  w111.cell? ⟨b3, 1, none⟩ = some (.slice x18p x18l x18c) ∧
  cellsAt w111 ⟨b2, 0, none⟩ [.int .i64 x14_0, .string x14_1, .string x14_2, .slice x14_3p x14_3l x14_3c, .slice x14_4p x14_4l x14_4c, .string x14_5] ∧
  stN w111 ⟨b5_10, 0, none⟩ ⟨[.int .i64 r15_0, .string r15_1, .string r15_2, .slice r15_3p r15_3l r15_3c, .slice r15_4p r15_4l r15_4c, .string r15_5]⟩ 6 fun w112 =>
  stN w112 ⟨b7_13, 0, none⟩ ⟨[.int .i64 r22_15_0, .string r22_15_1, .string r22_15_2, .slice r22_15_3p r22_15_3l r22_15_3c, .slice r22_15_4p r22_15_4l r22_15_4c, .string r22_15_5]⟩ 6 fun w113 =>
  J_5 (some ⟨b5_10, 0, none⟩) q19_8p q19_8l q19_8c (some ⟨b7_13, 0, none⟩) w113) ∧ (
  newB w109 (.cells (zeroC Tryz.prog T_api_Node) T_api_Node) fun b5_11 w114 =>
  cellsAt w114 ⟨b3, 5, none⟩ [.int .i64 x21_0, .string x21_1, .string x21_2, .slice x21_3p x21_3l x21_3c, .slice x21_4p x21_4l x21_4c, .string x21_5] ∧
  w114.cell? ⟨b3, 1, none⟩ = some (.slice x18p x18l x18c) ∧
  cellsAt w114 ⟨b2, 0, none⟩ [.int .i64 x14_0, .string x14_1, .string x14_2, .slice x14_3p x14_3l x14_3c, .slice x14_4p x14_4l x14_4c, .string x14_5] ∧
  callJ Tryz.prog fn_ref05_Twin #[.agg ⟨[.int .i64 x21_0, .string x21_1, .string x21_2, .slice x21_3p x21_3l x21_3c, .slice x21_4p x21_4l x21_4c, .string x21_5]⟩] w114 [.agg [.int .i64, .str, .str, .slice, .slice, .str]] fun (r22_16_0 : Int) (r22_16_1 : ByteArray) (r22_16_2 : ByteArray) (r22_16_3p : Option Addr) (r22_16_3l : Nat) (r22_16_3c : Nat) (r22_16_4p : Option Addr) (r22_16_4l : Nat) (r22_16_4c : Nat) (r22_16_5 : ByteArray) (w115 : World) =>
  stN w115 ⟨b5_11, 0, none⟩ ⟨[.int .i64 r15_0, .string r15_1, .string r15_2, .slice r15_3p r15_3l r15_3c, .slice r15_4p r15_4l r15_4c, .string r15_5]⟩ 6 fun w116 =>
  stN w116 ⟨b7_13, 0, none⟩ ⟨[.int .i64 r22_16_0, .string r22_16_1, .string r22_16_2, .slice r22_16_3p r22_16_3l r22_16_3c, .slice r22_16_4p r22_16_4l r22_16_4c, .string r22_16_5]⟩ 6 fun w117 =>
  J_5 (some ⟨b5_11, 0, none⟩) q19_8p q19_8l q19_8c (some ⟨b7_13, 0, none⟩) w117)) ∧ (
  newB w108 (.cells (zeroC Tryz.prog T_api_Node) T_api_Node) fun b5_12 w118 =>
  cellsAt w118 ⟨b3, 5, none⟩ [.int .i64 x21_0, .string x21_1, .string x21_2, .slice x21_3p x21_3l x21_3c, .slice x21_4p x21_4l x21_4c, .string x21_5] ∧
  w118.cell? ⟨b3, 1, none⟩ = some (.slice x18p x18l x18c) ∧
  cellsAt w118 ⟨b2, 0, none⟩ [.int .i64 x14_0, .string x14_1, .string x14_2, .slice x14_3p x14_3l x14_3c, .slice x14_4p x14_4l x14_4c, .string x14_5] ∧
  appJ Tryz.prog T_sl_int T_sl_int (.slice (some ⟨b16_3, 0, none⟩) 0 0) (.slice x18p x18l x18c) w118 fun q19_9p q19_9l q19_9c w119 =>
  cellsAt w119 ⟨b3, 5, none⟩ [.int .i64 x21_0, .string x21_1, .string x21_2, .slice x21_3p x21_3l x21_3c, .slice x21_4p x21_4l x21_4c, .string x21_5] ∧
  callJ Tryz.prog fn_ref05_Twin #[.agg ⟨[.int .i64 x21_0, .string x21_1, .string x21_2, .slice x21_3p x21_3l x21_3c, .slice x21_4p x21_4l x21_4c, .string x21_5]⟩] w119 [.agg [.int .i64, .str, .str, .slice, .slice, .str]] fun (r22_17_0 : Int) (r22_17_1 : ByteArray) (r22_17_2 : ByteArray) (r22_17_3p : Option Addr) (r22_17_3l : Nat) (r22_17_3c : Nat) (r22_17_4p : Option Addr) (r22_17_4l : Nat) (r22_17_4c : Nat) (r22_17_5 : ByteArray) (w120 : World) =>
  stN w120 ⟨b5_12, 0, none⟩ ⟨[.int .i64 r15_0, .string r15_1, .string r15_2, .slice r15_3p r15_3l r15_3c, .slice r15_4p r15_4l r15_4c, .string r15_5]⟩ 6 fun w121 =>
  stN w121 ⟨b7_13, 0, none⟩ ⟨[.int .i64 r22_17_0, .string r22_17_1, .string r22_17_2, .slice r22_17_3p r22_17_3l r22_17_3c, .slice r22_17_4p r22_17_4l r22_17_4c, .string r22_17_5]⟩ 6 fun w122 =>
  J_5 (some ⟨b5_12, 0, none⟩) q19_9p q19_9l q19_9c (some ⟨b7_13, 0, none⟩) w122)) ∧ (
  newB w107 (.cells (zeroC Tryz.prog T_api_Node) T_api_Node) fun b5_13 w123 =>
  cellsAt w123 ⟨b3, 5, none⟩ [.int .i64 x21_0, .string x21_1, .string x21_2, .slice x21_3p x21_3l x21_3c, .slice x21_4p x21_4l x21_4c, .string x21_5] ∧
  w123.cell? ⟨b3, 1, none⟩ = some (.slice x18p x18l x18c) ∧
  cellsAt w123 ⟨b2, 0, none⟩ [.int .i64 x14_0, .string x14_1, .string x14_2, .slice x14_3p x14_3l x14_3c, .slice x14_4p x14_4l x14_4c, .string x14_5] ∧
  newB w123 (.cells ⟨[]⟩ T_int) fun b16_4 w124 =>
  cellsAt w124 ⟨b3, 5, none⟩ [.int .i64 x21_0, .string x21_1, .string x21_2, .slice x21_3p x21_3l x21_3c, .slice x21_4p x21_4l x21_4c, .string x21_5] ∧
  w124.cell? ⟨b3, 1, none⟩ = some (.slice x18p x18l x18c) ∧
  cellsAt w124 ⟨b2, 0, none⟩ [.int .i64 x14_0, .string x14_1, .string x14_2, .slice x14_3p x14_3l x14_3c, .slice x14_4p x14_4l x14_4c, .string x14_5] ∧
  appJ Tryz.prog T_sl_int T_sl_int (.slice (some ⟨b16_4, 0, none⟩) 0 0) (.slice x18p x18l x18c) w124 fun q19_10p q19_10l q19_10c w125 =>
  cellsAt w125 ⟨b3, 5, none⟩ [.int .i64 x21_0, .string x21_1, .string x21_2, .slice x21_3p x21_3l x21_3c, .slice x21_4p x21_4l x21_4c, .string x21_5] ∧
  callJ Tryz.prog fn_ref05_Twin #[.agg ⟨[.int .i64 x21_0, .string x21_1, .string x21_2, .slice x21_3p x21_3l x21_3c, .slice x21_4p x21_4l x21_4c, .string x21_5]⟩] w125 [.agg [.int .i64, .str, .str, .slice, .slice, .str]] fun (r22_18_0 : Int) (r22_18_1 : ByteArray) (r22_18_2 : ByteArray) (r22_18_3p : Option Addr) (r22_18_3l : Nat) (r22_18_3c : Nat) (r22_18_4p : Option Addr) (r22_18_4l : Nat) (r22_18_4c : Nat) (r22_18_5 : ByteArray) (w126 : World) =>
  stN w126 ⟨b5_13, 0, none⟩ ⟨[.int .i64 r15_0, .string r15_1, .string r15_2, .slice r15_3p r15_3l r15_3c, .slice r15_4p r15_4l r15_4c, .string r15_5]⟩ 6 fun w127 =>
  stN w127 ⟨b7_13, 0, none⟩ ⟨[.int .i64 r22_18_0, .string r22_18_1, .string r22_18_2, .slice r22_18_3p r22_18_3l r22_18_3c, .slice r22_18_4p r22_18_4l r22_18_4c, .string r22_18_5]⟩ 6 fun w128 =>
  J_5 (some ⟨b5_13, 0, none⟩) q19_10p q19_10l q19_10c (some ⟨b7_13, 0, none⟩) w128)))) ∧ (
  (
  newB w3.drew (.cells ⟨[]⟩ T_int) fun b16_5 w129 =>
  cellsAt w129 ⟨b3, 5, none⟩ [.int .i64 x21_0, .string x21_1, .string x21_2, .slice x21_3p x21_3l x21_3c, .slice x21_4p x21_4l x21_4c, .string x21_5] ∧
  w129.cell? ⟨b3, 1, none⟩ = some (.slice x18p x18l x18c) ∧
  cellsAt w129 ⟨b2, 0, none⟩ [.int .i64 x14_0, .string x14_1, .string x14_2, .slice x14_3p x14_3l x14_3c, .slice x14_4p x14_4l x14_4c, .string x14_5] ∧
  (
  callJ Tryz.prog fn_ref05_Twin #[.agg ⟨[.int .i64 x14_0, .string x14_1, .string x14_2, .slice x14_3p x14_3l x14_3c, .slice x14_4p x14_4l x14_4c, .string x14_5]⟩] w129 [.agg [.int .i64, .str, .str, .slice, .slice, .str]] fun (r15_1_0 : Int) (r15_1_1 : ByteArray) (r15_1_2 : ByteArray) (r15_1_3p : Option Addr) (r15_1_3l : Nat) (r15_1_3c : Nat) (r15_1_4p : Option Addr) (r15_1_4l : Nat) (r15_1_4c : Nat) (r15_1_5 : ByteArray) (w130 : World) =>
  cellsAt w130 ⟨b3, 5, none⟩ [.int .i64 x21_0, .string x21_1, .string x21_2, .slice x21_3p x21_3l x21_3c, .slice x21_4p x21_4l x21_4c, .string x21_5] ∧
  w130.cell? ⟨b3, 1, none⟩ = some (.slice x18p x18l x18c) ∧
  (
  appJ Tryz.prog T_sl_int T_sl_int (.slice (some ⟨b16_5, 0, none⟩) 0 0) (.slice x18p x18l x18c) w130 fun q19_11p q19_11l q19_11c w131 =>
  cellsAt w131 ⟨b3, 5, none⟩ [.int .i64 x21_0, .string x21_1, .string x21_2, .slice x21_3p x21_3l x21_3c, .slice x21_4p x21_4l x21_4c, .string x21_5] ∧
  (
  callJ Tryz.prog fn_ref05_Twin #[.agg ⟨[.int .i64 x21_0, .string x21_1, .string x21_2, .slice x21_3p x21_3l x21_3c, .slice x21_4p x21_4l x21_4c, .string x21_5]⟩] w131 [.agg [.int .i64, .str, .str, .slice, .slice, .str]] fun (r22_19_0 : Int) (r22_19_1 : ByteArray) (r22_19_2 : ByteArray) (r22_19_3p : Option Addr) (r22_19_3l : Nat) (r22_19_3c : Nat) (r22_19_4p : Option Addr) (r22_19_4l : Nat) (r22_19_4c : Nat) (r22_19_5 : ByteArray) (w132 : World) =>
  (
  newB w132 (.cells (zeroC Tryz.prog T_api_Node) T_api_Node) fun b5_14 w133 =>
  cellsAt w133 ⟨b3, 5, none⟩ [.int .i64 x21_0, .string x21_1, .string x21_2, .slice x21_3p x21_3l x21_3c, .slice x21_4p x21_4l x21_4c, .string x21_5] ∧
  w133.cell? ⟨b3, 1, none⟩ = some (.slice x18p x18l x18c) ∧
  cellsAt w133 ⟨b2, 0, none⟩ [.int .i64 x14_0, .string x14_1, .string x14_2, .slice x14_3p x14_3l x14_3c, .slice x14_4p x14_4l x14_4c, .string x14_5] ∧
  newB w133 (.cells (zeroC Tryz.prog T_api_Node) T_api_Node) fun b7_14 w134 =>
  cellsAt w134 ⟨b3, 5, none⟩ [.int .i64 x21_0, .string x21_1, .string x21_2, .slice x21_3p x21_3l x21_3c, .slice x21_4p x21_4l x21_4c, .string x21_5] ∧
  w134.cell? ⟨b3, 1, none⟩ = some (.slice x18p x18l x18c) ∧
  cellsAt w134 ⟨b2, 0, none⟩ [.int .i64 x14_0, .string x14_1, .string x14_2, .slice x14_3p x14_3l x14_3c, .slice x14_4p x14_4l x14_4c, .string x14_5] ∧
  stN w134 ⟨b5_14, 0, none⟩ ⟨[.int .i64 r15_1_0, .string r15_1_1, .string r15_1_2, .slice r15_1_3p r15_1_3l r15_1_3c, .slice r15_1_4p r15_1_4l r15_1_4c, .string r15_1_5]⟩ 6 fun w135 =>
  stN w135 ⟨b7_14, 0, none⟩ ⟨[.int .i64 r22_19_0, .string r22_19_1, .string r22_19_2, .slice r22_19_3p r22_19_3l r22_19_3c, .slice r22_19_4p r22_19_4l r22_19_4c, .string r22_19_5]⟩ 6 fun w136 =>
  J_5 (some ⟨b5_14, 0, none⟩) q19_11p q19_11l q19_11c (some ⟨b7_14, 0, none⟩) w136) ∧ (
  newB w132 (.cells (zeroC Tryz.prog T_api_Node) T_api_Node) fun b7_15 w137 =>
  cellsAt w137 ⟨b3, 5, none⟩ [.int .i64 x21_0, .string x21_1, .string x21_2, .slice x21_3p x21_3l x21_3c, .slice x21_4p x21_4l x21_4c, .string x21_5] ∧
  w137.cell? ⟨b3, 1, none⟩ = some (.slice x18p x18l x18c) ∧
  cellsAt w137 ⟨b2, 0, none⟩ [.int .i64 x14_0, .string x14_1, .string x14_2, .slice x14_3p x14_3l x14_3c, .slice x14_4p x14_4l x14_4c, .string x14_5] ∧
  newB w137 (.cells (zeroC Tryz.prog T_api_Node) T_api_Node) fun b5_15 w138 =>
  cellsAt w138 ⟨b3, 5, none⟩ [.int .i64 x21_0, .string x21_1, .string x21_2, .slice x21_3p x21_3l x21_3c, .slice x21_4p x21_4l x21_4c, .string x21_5] ∧
  w138.cell? ⟨b3, 1, none⟩ = some (.slice x18p x18l x18c) ∧
  cellsAt w138 ⟨b2, 0, none⟩ [.int .i64 x14_0, .string x14_1, .string x14_2, .slice x14_3p x14_3l x14_3c, .slice x14_4p x14_4l x14_4c, .string x14_5] ∧
  stN w138 ⟨b5_15, 0, none⟩ ⟨[.int .i64 r15_1_0, .string r15_1_1, .string r15_1_2, .slice r15_1_3p r15_1_3l r15_1_3c, .slice r15_1_4p r15_1_4l r15_1_4c, .string r15_1_5]⟩ 6 fun w139 =>
  stN w139 ⟨b7_15, 0, none⟩ ⟨[.int .i64 r22_19_0, .string r22_19_1, .string r22_19_2, .slice r22_19_3p r22_19_3l r22_19_3c, .slice r22_19_4p r22_19_4l r22_19_4c, .string r22_19_5]⟩ 6 fun w140 =>
  J_5 (some ⟨b5_15, 0, none⟩) q19_11p q19_11l q19_11c (some ⟨b7_15, 0, none⟩) w140)) ∧ (
  (
  newB w131 (.cells (zeroC Tryz.prog T_api_Node) T_api_Node) fun b5_16 w141 =>
  cellsAt w141 ⟨b3, 5, none⟩ [.int .i64 x21_0, .string x21_1, .string x21_2, .slice x21_3p x21_3l x21_3c, .slice x21_4p x21_4l x21_4c, .string x21_5] ∧
  w141.cell? ⟨b3, 1, none⟩ = some (.slice x18p x18l x18c) ∧
  cellsAt w141 ⟨b2, 0, none⟩ [.int .i64 x14_0, .string x14_1, .string x14_2, .slice x14_3p x14_3l x14_3c, .slice x14_4p x14_4l x14_4c, .string x14_5] ∧
  (
  callJ Tryz.prog fn_ref05_Twin #[.agg ⟨[.int .i64 x21_0, .string x21_1, .string x21_2, .slice x21_3p x21_3l x21_3c, .slice x21_4p x21_4l x21_4c, .string x21_5]⟩] w141 [.agg [.int .i64, .str, .str, .slice, .slice, .str]] fun (r22_20_0 : Int) (r22_20_1 : ByteArray) (r22_20_2 : ByteArray) (r22_20_3p : Option Addr) (r22_20_3l : Nat) (r22_20_3c : Nat) (r22_20_4p : Option Addr) (r22_20_4l : Nat) (r22_20_4c : Nat) (r22_20_5 : ByteArray) (w142 : World) =>
  newB w142 (.cells (zeroC Tryz.prog T_api_Node) T_api_Node) fun b7_16 w143 =>
  cellsAt w143 ⟨b3, 5, none⟩ [.int .i64 x21_0, .string x21_1, .string x21_2, .slice x21_3p x21_3l x21_3c, .slice x21_4p x21_4l x21_4c, .string x21_5] ∧
  w143.cell? ⟨b3, 1, none⟩ = some (.slice x18p x18l x18c) ∧
  cellsAt w143 ⟨b2, 0, none⟩ [.int .i64 x14_0, .string x14_1, .string x14_2, .slice x14_3p x14_3l x14_3c, .slice x14_4p x14_4l x14_4c, .string x14_5] ∧
  stN w143 ⟨b5_16, 0, none⟩ ⟨[.int .i64 r15_1_0, .string r15_1_1, .string r15_1_2, .slice r15_1_3p r15_1_3l r15_1_3c, .slice r15_1_4p r15_1_4l r15_1_4c, .string r15_1_5]⟩ 6 fun w144 =>
  stN w144 ⟨b7_16, 0, none⟩ ⟨[.int .i64 r22_20_0, .string r22_20_1, .string r22_20_2, .slice r22_20_3p r22_20_3l r22_20_3c, .slice r22_20_4p r22_20_4l r22_20_4c, .string r22_20_5]⟩ 6 fun w145 =>
  J_5 (some ⟨b5_16, 0, none⟩) q19_11p q19_11l q19_11c (some ⟨b7_16, 0, none⟩) w145) ∧ (
  newB w141 (.cells (zeroC Tryz.prog T_api_Node) T_api_Node) fun b7_17 w146 =>
  cellsAt w146 ⟨b3, 5, none⟩ [.int .i64 x21_0, .string x21_1, .string x21_2, .slice x21_3p x21_3l x21_3c, .slice x21_4p x21_4l x21_4c, .string x21_5] ∧
  w146.cell? ⟨b3, 1, none⟩ = some (.slice x18p x18l x18c) ∧
  cellsAt w146 ⟨b2, 0, none⟩ [.int .i64 x14_0, .string x14_1, .string x14_2, .slice x14_3p x14_3l x14_3c, .slice x14_4p x14_4l x14_4c, .string x14_5] ∧
  callJ Tryz.prog fn_ref05_Twin #[.agg ⟨[.int .i64 x21_0, .string x21_1, .string x21_2, .slice x21_3p x21_3l x21_3c, .slice x21_4p x21_4l x21_4c, .string x21_5]⟩] w146 [.agg [.int .i64, .str, .str, .slice, .slice, .str]] fun (r22_21_0 : Int) (r22_21_1 : ByteArray) (r22_21_2 : ByteArray) (r22_21_3p : Option Addr) (r22_21_3l : Nat) (r22_21_3c : Nat) (r22_21_4p : Option Addr) (r22_21_4l : Nat) (r22_21_4c : Nat) (r22_21_5 : ByteArray) (w147 : World) =>
  stN w147 ⟨b5_16, 0, none⟩ ⟨[.int .i64 r15_1_0, .string r15_1_1, .string r15_1_2, .slice r15_1_3p r15_1_3l r15_1_3c, .slice r15_1_4p r15_1_4l r15_1_4c, .string r15_1_5]⟩ 6 fun w148 =>
  stN w148 ⟨b7_17, 0, none⟩ ⟨[.int .i64 r22_21_0, .string r22_21_1, .string r22_21_2, .slice r22_21_3p r22_21_3l r22_21_3c, .slice r22_21_4p r22_21_4l r22_21_4c, .string r22_21_5]⟩ 6 fun w149 =>
  J_5 (some ⟨b5_16, 0, none⟩) q19_11p q19_11l q19_11c (some ⟨b7_17, 0, none⟩) w149)) ∧ (
  newB w131 (.cells (zeroC Tryz.prog T_api_Node) T_api_Node) fun b7_18 w150 =>
  cellsAt w150 ⟨b3, 5, none⟩ [.int .i64 x21_0, .string x21_1, .string x21_2, .slice x21_3p x21_3l x21_3c, .slice x21_4p x21_4l x21_4c, .string x21_5] ∧
  w150.cell? ⟨b3, 1, none⟩ = some (.slice x18p x18l x18c) ∧
  cellsAt w150 ⟨b2, 0, none⟩ [.int .i64 x14_0, .string x14_1, .string x14_2, .slice x14_3p x14_3l x14_3c, .slice x14_4p x14_4l x14_4c, .string x14_5] ∧
  (
  callJ Tryz.prog fn_ref05_Twin #[.agg ⟨[.int .i64 x21_0, .string x21_1, .string x21_2, .slice x21_3p x21_3l x21_3c, .slice x21_4p x21_4l x21_4c, .string x21_5]⟩] w150 [.agg [.int .i64, .str, .str, .slice, .slice, .str]] fun (r22_22_0 : Int) (r22_22_1 : ByteArray) (r22_22_2 : ByteArray) (r22_22_3p : Option Addr) (r22_22_3l : Nat) (r22_22_3c : Nat) (r22_22_4p : Option Addr) (r22_22_4l : Nat) (r22_22_4c : Nat) (r22_22_5 : ByteArray) (w151 : World) =>
  newB w151 (.cells (zeroC Tryz.prog T_api_Node) T_api_Node) fun b5_17 w152 =>
  cellsAt w152 ⟨b3, 5, none⟩ [.int .i64 x21_0, .string x21_1, .string x21_2, .slice x21_3p x21_3l x21_3c, .slice x21_4p x21_4l x21_4c, .string x21_5] ∧
  w152.cell? ⟨b3, 1, none⟩ = some (.slice x18p x18l x18c) ∧
  cellsAt w152 ⟨b2, 0, none⟩ [.int .i64 x14_0, .string x14_1, .string x14_2, .slice x14_3p x14_3l x14_3c, .slice x14_4p x14_4l x14_4c, .string x14_5] ∧
  stN w152 ⟨b5_17, 0, none⟩ ⟨[.int .i64 r15_1_0, .string r15_1_1, .string r15_1_2, .slice r15_1_3p r15_1_3l r15_1_3c, .slice r15_1_4p r15_1_4l r15_1_4c, .string r15_1_5]⟩ 6 fun w153 =>
  stN w153 ⟨b7_18, 0, none⟩ ⟨[.int .i64 r22_22_0, .string r22_22_1, .string r22_22_2, .slice r22_22_3p r22_22_3l r22_22_3c, .slice r22_22_4p r22_22_4l r22_22_4c, .string r22_22_5]⟩ 6 fun w154 =>
  J_5 (some ⟨b5_17, 0, none⟩) q19_11p q19_11l q19_11c (some ⟨b7_18, 0, none⟩) w154) ∧ (
  newB w150 (.cells (zeroC Tryz.prog T_api_Node) T_api_Node) fun b5_18 w155 =>
  cellsAt w155 ⟨b3, 5, none⟩ [.int .i64 x21_0, .string x21_1, .string x21_2, .slice x21_3p x21_3l x21_3c, .slice x21_4p x21_4l x21_4c, .string x21_5] ∧
  w155.cell? ⟨b3, 1, none⟩ = some (.slice x18p x18l x18c) ∧
  cellsAt w155 ⟨b2, 0, none⟩ [.int .i64 x14_0, .string x14_1, .string x14_2, .slice x14_3p x14_3l x14_3c, .slice x14_4p x14_4l x14_4c, .string x14_5] ∧
  callJ Tryz.prog fn_ref05_Twin #[.agg ⟨[.int .i64 x21_0, .string x21_1, .string x21_2, .slice x21_3p x21_3l x21_3c, .slice x21_4p x21_4l x21_4c, .string x21_5]⟩] w155 [.agg [.int .i64, .str, .str, .slice, .slice, .str]] fun (r22_23_0 : Int) (r22_23_1 : ByteArray) (r22_23_2 : ByteArray) (r22_23_3p : Option Addr) (r22_23_3l : Nat) (r22_23_3c : Nat) (r22_23_4p : Option Addr) (r22_23_4l : Nat) (r22_23_4c : Nat) (r22_23_5 : ByteArray) (w156 : World) =>
  stN w156 ⟨b5_18, 0, none⟩ ⟨[.int .i64 r15_1_0, .string r15_1_1, .string r15_1_2, .slice r15_1_3p r15_1_3l r15_1_3c, .slice r15_1_4p r15_1_4l r15_1_4c, .string r15_1_5]⟩ 6 fun w157 =>
  stN w157 ⟨b7_18, 0, none⟩ ⟨[.int .i64 r22_23_0, .string r22_23_1, .string r22_23_2, .slice r22_23_3p r22_23_3l r22_23_3c, .slice r22_23_4p r22_23_4l r22_23_4c, .string r22_23_5]⟩ 6 fun w158 =>
  J_5 (some ⟨b5_18, 0, none⟩) q19_11p q19_11l q19_11c (some ⟨b7_18, 0, none⟩) w158)))) ∧ (
  (
  newB w130 (.cells (zeroC Tryz.prog T_api_Node) T_api_Node) fun b5_19 w159 =>
  cellsAt w159 ⟨b3, 5, none⟩ [.int .i64 x21_0, .string x21_1, .string x21_2, .slice x21_3p x21_3l x21_3c, .slice x21_4p x21_4l x21_4c, .string x21_5] ∧
  w159.cell? ⟨b3, 1, none⟩ = some (.slice x18p x18l x18c) ∧
  cellsAt w159 ⟨b2, 0, none⟩ [.int .i64 x14_0, .string x14_1, .string x14_2, .slice x14_3p x14_3l x14_3c, .slice x14_4p x14_4l x14_4c, .string x14_5] ∧
  (
  appJ Tryz.prog T_sl_int T_sl_int (.slice (some ⟨b16_5, 0, none⟩) 0 0) (.slice x18p x18l x18c) w159 fun q19_12p q19_12l q19_12c w160 =>
  cellsAt w160 ⟨b3, 5, none⟩ [.int .i64 x21_0, .string x21_1, .string x21_2, .slice x21_3p x21_3l x21_3c, .slice x21_4p x21_4l x21_4c, .string x21_5] ∧
  (
  callJ Tryz.prog fn_ref05_Twin #[.agg ⟨[.int .i64 x21_0, .string x21_1, .string x21_2, .slice x21_3p x21_3l x21_3c, .slice x21_4p x21_4l x21_4c, .string x21_5]⟩] w160 [.agg [.int .i64, .str, .str, .slice, .slice, .str]] fun (r22_24_0 : Int) (r22_24_1 : ByteArray) (r22_24_2 : ByteArray) (r22_24_3p : Option Addr) (r22_24_3l : Nat) (r22_24_3c : Nat) (r22_24_4p : Option Addr) (r22_24_4l : Nat) (r22_24_4c : Nat) (r22_24_5 : ByteArray) (w161 : World) =>
  newB w161 (.cells (zeroC Tryz.prog T_api_Node) T_api_Node) fun b7_19 w162 =>
  cellsAt w162 ⟨b3, 5, none⟩ [.int .i64 x21_0, .string x21_1, .string x21_2, .slice x21_3p x21_3l x21_3c, .slice x21_4p x21_4l x21_4c, .string x21_5] ∧
  w162.cell? ⟨b3, 1, none⟩ = some (.slice x18p x18l x18c) ∧
  cellsAt w162 ⟨b2, 0, none⟩ [.int .i64 x14_0, .string x14_1, .string x14_2, .slice x14_3p x14_3l x14_3c, .slice x14_4p x14_4l x14_4c, .string x14_5] ∧
  stN w162 ⟨b5_19, 0, none⟩ ⟨[.int .i64 r15_1_0, .string r15_1_1, .string r15_1_2, .slice r15_1_3p r15_1_3l r15_1_3c, .slice r15_1_4p r15_1_4l r15_1_4c, .string r15_1_5]⟩ 6 fun w163 =>
  stN w163 ⟨b7_19, 0, none⟩ ⟨[.int .i64 r22_24_0, .string r22_24_1, .string r22_24_2, .slice r22_24_3p r22_24_3l r22_24_3c, .slice r22_24_4p r22_24_4l r22_24_4c, .string r22_24_5]⟩ 6 fun w164 =>
  J_5 (some ⟨b5_19, 0, none⟩) q19_12p q19_12l q19_12c (some ⟨b7_19, 0, none⟩) w164) ∧ (
  newB w160 (.cells (zeroC Tryz.prog T_api_Node) T_api_Node) fun b7_20 w165 =>
  cellsAt w165 ⟨b3, 5, none⟩ [.int .i64 x21_0, .string x21_1, .string x21_2, .slice x21_3p x21_3l x21_3c, .slice x21_4p x21_4l x21_4c, .string x21_5] ∧
  w165.cell? ⟨b3, 1, none⟩ = some (.slice x18p x18l x18c) ∧
  cellsAt w165 ⟨b2, 0, none⟩ [.int .i64 x14_0, .string x14_1, .string x14_2, .slice x14_3p x14_3l x14_3c, .slice x14_4p x14_4l x14_4c, .string x14_5] ∧
  callJ Tryz.prog fn_ref05_Twin #[.agg ⟨[.int .i64 x21_0, .string x21_1, .string x21_2, .slice x21_3p x21_3l x21_3c, .slice x21_4p x21_4l x21_4c, .string x21_5]⟩] w165 [.agg [.int .i64, .str, .str, .slice, .slice, .str]] fun (r22_25_0 : Int) (r22_25_1 : ByteArray) (r22_25_2 : ByteArray) (r22_25_3p : Option Addr) (r22_25_3l : Nat) (r22_25_3c : Nat) (r22_25_4p : Option Addr) (r22_25_4l : Nat) (r22_25_4c : Nat) (r22_25_5 : ByteArray) (w166 : World) =>
  stN w166 ⟨b5_19, 0, none⟩ ⟨[.int .i64 r15_1_0, .string r15_1_1, .string r15_1_2, .slice r15_1_3p r15_1_3l r15_1_3c, .slice r15_1_4p r15_1_4l r15_1_4c, .string r15_1_5]⟩ 6 fun w167 =>
  stN w167 ⟨b7_20, 0, none⟩ ⟨[.int .i64 r22_25_0, .string r22_25_1, .string r22_25_2, .slice r22_25_3p r22_25_3l r22_25_3c, .slice r22_25_4p r22_25_4l r22_25_4c, .string r22_25_5]⟩ 6 fun w168 =>
  J_5 (some ⟨b5_19, 0, none⟩) q19_12p q19_12l q19_12c (some ⟨b7_20, 0, none⟩) w168)) ∧ (
  newB w159 (.cells (zeroC Tryz.prog T_api_Node) T_api_Node) fun b7_21 w169 =>
  cellsAt w169 ⟨b3, 5, none⟩ [.int .i64 x21_0, .string x21_1, .string x21_2, .slice x21_3p x21_3l x21_3c, .slice x21_4p x21_4l x21_4c, .string x21_5] ∧
  w169.cell? ⟨b3, 1, none⟩ = some (.slice x18p x18l x18c) ∧
  cellsAt w169 ⟨b2, 0, none⟩ [.int .i64 x14_0, .string x14_1, .string x14_2, .slice x14_3p x14_3l x14_3c, .slice x14_4p x14_4l x14_4c, .string x14_5] ∧
  appJ Tryz.prog T_sl_int T_sl_int (.slice (some ⟨b16_5, 0, none⟩) 0 0) (.slice x18p x18l x18c) w169 fun q19_13p q19_13l q19_13c w170 =>
  cellsAt w170 ⟨b3, 5, none⟩ [.int .i64 x21_0, .string x21_1, .string x21_2, .slice x21_3p x21_3l x21_3c, .slice x21_4p x21_4l x21_4c, .string x21_5] ∧
  callJ Tryz.prog fn_ref05_Twin #[.agg ⟨[.int .i64 x21_0, .string x21_1, .string x21_2, .slice x21_3p x21_3l x21_3c, .slice x21_4p x21_4l x21_4c, .string x21_5]⟩] w170 [.agg [.int .i64, .str, .str, .slice, .slice, .str]] fun (r22_26_0 : Int) (r22_26_1 : ByteArray) (r22_26_2 : ByteArray) (r22_26_3p : Option Addr) (r22_26_3l : Nat) (r22_26_3c : Nat) (r22_26_4p : Option Addr) (r22_26_4l : Nat) (r22_26_4c : Nat) (r22_26_5 : ByteArray) (w171 : World) =>
  stN w171 ⟨b5_19, 0, none⟩ ⟨[.int .i64 r15_1_0, .string r15_1_1, .string r15_1_2, .slice r15_1_3p r15_1_3l r15_1_3c, .slice r15_1_4p r15_1_4l r15_1_4c, .string r15_1_5]⟩ 6 fun w172 =>
  stN w172 ⟨b7_21, 0, none⟩ ⟨[.int .i64 r22_26_0, .string r22_26_1, .string r22_26_2, .slice r22_26_3p r22_26_3l r22_26_3c, .slice r22_26_4p r22_26_4l r22_26_4c, .string r22_26_5]⟩ 6 fun w173 =>
  J_5 (some ⟨b5_19, 0, none⟩) q19_13p q19_13l q19_13c (some ⟨b7_21, 0, none⟩) w173)) ∧ (
  newB w130 (.cells (zeroC Tryz.prog T_api_Node) T_api_Node) fun b7_22 w174 =>
  cellsAt w174 ⟨b3, 5, none⟩ [.int .i64 x21_0, .string x21_1, .string x21_2, .slice x21_3p x21_3l x21_3c, .slice x21_4p x21_4l x21_4c, .string x21_5] ∧
  w174.cell? ⟨b3, 1, none⟩ = some (.slice x18p x18l x18c) ∧
  cellsAt w174 ⟨b2, 0, none⟩ [.int .i64 x14_0, .string x14_1, .string x14_2, .slice x14_3p x14_3l x14_3c, .slice x14_4p x14_4l x14_4c, .string x14_5] ∧
  (
  appJ Tryz.prog T_sl_int T_sl_int (.slice (some ⟨b16_5, 0, none⟩) 0 0) (.slice x18p x18l x18c) w174 fun q19_14p q19_14l q19_14c w175 =>
  cellsAt w175 ⟨b3, 5, none⟩ [.int .i64 x21_0, .string x21_1, .string x21_2, .slice x21_3p x21_3l x21_3c, .slice x21_4p x21_4l x21_4c, .string x21_5] ∧
  (
  callJ Tryz.prog fn_ref05_Twin #[.agg ⟨[.int .i64 x21_0, .string x21_1, .string x21_2, .slice x21_3p x21_3l x21_3c, .slice x21_4p x21_4l x21_4c, .string x21_5]⟩] w175 [.agg [.int .i64, .str, .str, .slice, .slice, .str]] fun (r22_27_0 : Int) (r22_27_1 : ByteArray) (r22_27_2 : ByteArray) (r22_27_3p : Option Addr) (r22_27_3l : Nat) (r22_27_3c : Nat) (r22_27_4p : Option Addr) (r22_27_4l : Nat) (r22_27_4c : Nat) (r22_27_5 : ByteArray) (w176 : World) =>
  newB w176 (.cells (zeroC Tryz.prog T_api_Node) T_api_Node) fun b5_20 w177 =>
  cellsAt w177 ⟨b3, 5, none⟩ [.int .i64 x21_0, .string x21_1, .string x21_2, .slice x21_3p x21_3l x21_3c, .slice x21_4p x21_4l x21_4c, .string x21_5] ∧
  w177.cell? ⟨b3, 1, none⟩ = some (.slice x18p x18l x18c) ∧
  cellsAt w177 ⟨b2, 0, none⟩ [.int .i64 x14_0, .string x14_1, .string x14_2, .slice x14_3p x14_3l x14_3c, .slice x14_4p x14_4l x14_4c, .string x14_5] ∧
  stN w177 ⟨b5_20, 0, none⟩ ⟨[.int .i64 r15_1_0, .string r15_1_1, .string r15_1_2, .slice r15_1_3p r15_1_3l r15_1_3c, .slice r15_1_4p r15_1_4l r15_1_4c, .string r15_1_5]⟩ 6 fun w178 =>
  stN w178 ⟨b7_22, 0, none⟩ ⟨[.int .i64 r22_27_0, .string r22_27_1, .string r22_27_2, .slice r22_27_3p r22_27_3l r22_27_3c, .slice r22_27_4p r22_27_4l r22_27_4c, .string r22_27_5]⟩ 6 fun w179 =>
  J_5 (some ⟨b5_20, 0, none⟩) q19_14p q19_14l q19_14c (some ⟨b7_22, 0, none⟩) w179) ∧ (
  newB w175 (.cells (zeroC Tryz.prog T_api_Node) T_api_Node) fun b5_21 w180 =>
  cellsAt w180 ⟨b3, 5, none⟩ [.int .i64 x21_0, .string x21_1, .string x21_2, .slice x21_3p x21_3l x21_3c, .slice x21_4p x21_4l x21_4c, .string x21_5] ∧
  w180.cell? ⟨b3, 1, none⟩ = some (.slice x18p x18l x18c) ∧
  cellsAt w180 ⟨b2, 0, none⟩ [.int .i64 x14_0, .string x14_1, .string x14_2, .slice x14_3p x14_3l x14_3c, .slice x14_4p x14_4l x14_4c, .string x14_5] ∧
  callJ Tryz.prog fn_ref05_Twin #[.agg ⟨[.int .i64 x21_0, .string x21_1, .string x21_2, .slice x21_3p x21_3l x21_3c, .slice x21_4p x21_4l x21_4c, .string x21_5]⟩] w180 [.agg [.int .i64, .str, .str, .slice, .slice, .str]] fun (r22_28_0 : Int) (r22_28_1 : ByteArray) (r22_28_2 : ByteArray) (r22_28_3p : Option Addr) (r22_28_3l : Nat) (r22_28_3c : Nat) (r22_28_4p : Option Addr) (r22_28_4l : Nat) (r22_28_4c : Nat) (r22_28_5 : ByteArray) (w181 : World) =>
  stN w181 ⟨b5_21, 0, none⟩ ⟨[.int .i64 r15_1_0, .string r15_1_1, .string r15_1_2, .slice r15_1_3p r15_1_3l r15_1_3c, .slice r15_1_4p r15_1_4l r15_1_4c, .string r15_1_5]⟩ 6 fun w182 =>
  stN w182 ⟨b7_22, 0, none⟩ ⟨[.int .i64 r22_28_0, .string r22_28_1, .string r22_28_2, .slice r22_28_3p r22_28_3l r22_28_3c, .slice r22_28_4p r22_28_4l r22_28_4c, .string r22_28_5]⟩ 6 fun w183 =>
  J_5 (some ⟨b5_21, 0, none⟩) q19_14p q19_14l q19_14c (some ⟨b7_22, 0, none⟩) w183)) ∧ (
  newB w174 (.cells (zeroC Tryz.prog T_api_Node) T_api_Node) fun b5_22 w184 =>
  cellsAt w184 ⟨b3, 5, none⟩ [.int .i64 x21_0, .string x21_1, .string x21_2, .slice x21_3p x21_3l x21_3c, .slice x21_4p x21_4l x21_4c, .string x21_5] ∧
  w184.cell? ⟨b3, 1, none⟩ = some (.slice x18p x18l x18c) ∧
  cellsAt w184 ⟨b2, 0, none⟩ [.int .i64 x14_0, .string x14_1, .string x14_2, .slice x14_3p x14_3l x14_3c, .slice x14_4p x14_4l x14_4c, .string x14_5] ∧
  appJ Tryz.prog T_sl_int T_sl_int (.slice (some ⟨b16_5, 0, none⟩) 0 0) (.slice x18p x18l x18c) w184 fun q19_15p q19_15l q19_15c w185 =>
  cellsAt w185 ⟨b3, 5, none⟩ [.int .i64 x21_0, .string x21_1, .string x21_2, .slice x21_3p x21_3l x21_3c, .slice x21_4p x21_4l x21_4c, .string x21_5] ∧
  callJ Tryz.prog fn_ref05_Twin #[.agg ⟨[.int .i64 x21_0, .string x21_1, .string x21_2, .slice x21_3p x21_3l x21_3c, .slice x21_4p x21_4l x21_4c, .string x21_5]⟩] w185 [.agg [.int .i64, .str, .str, .slice, .slice, .str]] fun (r22_29_0 : Int) (r22_29_1 : ByteArray) (r22_29_2 : ByteArray) (r22_29_3p : Option Addr) (r22_29_3l : Nat) (r22_29_3c : Nat) (r22_29_4p : Option Addr) (r22_29_4l : Nat) (r22_29_4c : Nat) (r22_29_5 : ByteArray) (w186 : World) =>
  stN w186 ⟨b5_22, 0, none⟩ ⟨[.int .i64 r15_1_0, .string r15_1_1, .string r15_1_2, .slice r15_1_3p r15_1_3l r15_1_3c, .slice r15_1_4p r15_1_4l r15_1_4c, .string r15_1_5]⟩ 6 fun w187 =>
  stN w187 ⟨b7_22, 0, none⟩ ⟨[.int .i64 r22_29_0, .string r22_29_1, .string r22_29_2, .slice r22_29_3p r22_29_3l r22_29_3c, .slice r22_29_4p r22_29_4l r22_29_4c, .string r22_29_5]⟩ 6 fun w188 =>
  J_5 (some ⟨b5_22, 0, none⟩) q19_15p q19_15l q19_15c (some ⟨b7_22, 0, none⟩) w188)))) ∧ (
  (
  newB w129 (.cells (zeroC Tryz.prog T_api_Node) T_api_Node) fun b5_23 w189 =>
  cellsAt w189 ⟨b3, 5, none⟩ [.int .i64 x21_0, .string x21_1, .string x21_2, .slice x21_3p x21_3l x21_3c, .slice x21_4p x21_4l x21_4c, .string x21_5] ∧
  w189.cell? ⟨b3, 1, none⟩ = some (.slice x18p x18l x18c) ∧
  cellsAt w189 ⟨b2, 0, none⟩ [.int .i64 x14_0, .string x14_1, .string x14_2, .slice x14_3p x14_3l x14_3c, .slice x14_4p x14_4l x14_4c, .string x14_5] ∧
  (
  callJ Tryz.prog fn_ref05_Twin #[.agg ⟨[.int .i64 x14_0, .string x14_1, .string x14_2, .slice x14_3p x14_3l x14_3c, .slice x14_4p x14_4l x14_4c, .string x14_5]⟩] w189 [.agg [.int .i64, .str, .str, .slice, .slice, .str]] fun (r15_2_0 : Int) (r15_2_1 : ByteArray) (r15_2_2 : ByteArray) (r15_2_3p : Option Addr) (r15_2_3l : Nat) (r15_2_3c : Nat) (r15_2_4p : Option Addr) (r15_2_4l : Nat) (r15_2_4c : Nat) (r15_2_5 : ByteArray) (w190 : World) =>
  cellsAt w190 ⟨b3, 5, none⟩ [.int .i64 x21_0, .string x21_1, .string x21_2, .slice x21_3p x21_3l x21_3c, .slice x21_4p x21_4l x21_4c, .string x21_5] ∧
  w190.cell? ⟨b3, 1, none⟩ = some (.slice x18p x18l x18c) ∧
  (
  appJ Tryz.prog T_sl_int T_sl_int (.slice (some ⟨b16_5, 0, none⟩) 0 0) (.slice x18p x18l x18c) w190 fun q19_16p q19_16l q19_16c w191 =>
  cellsAt w191 ⟨b3, 5, none⟩ [.int .i64 x21_0, .string x21_1, .string x21_2, .slice x21_3p x21_3l x21_3c, .slice x21_4p x21_4l x21_4c, .string x21_5] ∧
  (
  callJ Tryz.prog fn_ref05_Twin #[.agg ⟨[.int .i64 x21_0, .string x21_1, .string x21_2, .slice x21_3p x21_3l x21_3c, .slice x21_4p x21_4l x21_4c, .string x21_5]⟩] w191 [.agg [.int .i64, .str, .str, .slice, .slice, .str]] fun (r22_30_0 : Int) (r22_30_1 : ByteArray) (r22_30_2 : ByteArray) (r22_30_3p : Option Addr) (r22_30_3l : Nat) (r22_30_3c : Nat) (r22_30_4p : Option Addr) (r22_30_4l : Nat) (r22_30_4c : Nat) (r22_30_5 : ByteArray) (w192 : World) =>
  newB w192 (.cells (zeroC Tryz.prog T_api_Node) T_api_Node) fun b7_23 w193 =>
  cellsAt w193 ⟨b3, 5, none⟩ [.int .i64 x21_0, .string x21_1, .string x21_2, .slice x21_3p x21_3l x21_3c, .slice x21_4p x21_4l x21_4c, .string x21_5] ∧
  w193.cell? ⟨b3, 1, none⟩ = some (.slice x18p x18l x18c) ∧
  cellsAt w193 ⟨b2, 0, none⟩ [.int .i64 x14_0, .string x14_1, .string x14_2, .slice x14_3p x14_3l x14_3c, .slice x14_4p x14_4l x14_4c, .string x14_5] ∧
  stN w193 ⟨b5_23, 0, none⟩ ⟨[.int .i64 r15_2_0, .string r15_2_1, .string r15_2_2, .slice r15_2_3p r15_2_3l r15_2_3c, .slice r15_2_4p r15_2_4l r15_2_4c, .string r15_2_5]⟩ 6 fun w194 =>
  stN w194 ⟨b7_23, 0, none⟩ ⟨[.int .i64 r22_30_0, .string r22_30_1, .string r22_30_2, .slice r22_30_3p r22_30_3l r22_30_3c, .slice r22_30_4p r22_30_4l r22_30_4c, .string r22_30_5]⟩ 6 fun w195 =>
  J_5 (some ⟨b5_23, 0, none⟩) q19_16p q19_16l q19_16c (some ⟨b7_23, 0, none⟩) w195) ∧ (
  newB w191 (.cells (zeroC Tryz.prog T_api_Node) T_api_Node) fun b7_24 w196 =>
  cellsAt w196 ⟨b3, 5, none⟩ [.int .i64 x21_0, .string x21_1, .string x21_2, .slice x21_3p x21_3l x21_3c, .slice x21_4p x21_4l x21_4c, .string x21_5] ∧
  w196.cell? ⟨b3, 1, none⟩ = some (.slice x18p x18l x18c) ∧
  cellsAt w196 ⟨b2, 0, none⟩ [.int .i64 x14_0, .string x14_1, .string x14_2, .slice x14_3p x14_3l x14_3c, .slice x14_4p x14_4l x14_4c, .string x14_5] ∧
  callJ Tryz.prog fn_ref05_Twin #[.agg ⟨[.int .i64 x21_0, .string x21_1, .string x21_2, .slice x21_3p x21_3l x21_3c, .slice x21_4p x21_4l x21_4c, .string x21_5]⟩] w196 [.agg [.int .i64, .str, .str, .slice, .slice, .str]] fun (r22_31_0 : Int) (r22_31_1 : ByteArray) (r22_31_2 : ByteArray) (r22_31_3p : Option Addr) (r22_31_3l : Nat) (r22_31_3c : Nat) (r22_31_4p : Option Addr) (r22_31_4l : Nat) (r22_31_4c : Nat) (r22_31_5 : ByteArray) (w197 : World) =>
  stN w197 ⟨b5_23, 0, none⟩ ⟨[.int .i64 r15_2_0, .string r15_2_1, .string r15_2_2, .slice r15_2_3p r15_2_3l r15_2_3c, .slice r15_2_4p r15_2_4l r15_2_4c, .string r15_2_5]⟩ 6 fun w198 =>
  stN w198 ⟨b7_24, 0, none⟩ ⟨[.int .i64 r22_31_0, .string r22_31_1, .string r22_31_2, .slice r22_31_3p r22_31_3l r22_31_3c, .slice r22_31_4p r22_31_4l r22_31_4c, .string r22_31_5]⟩ 6 fun w199 =>
  J_5 (some ⟨b5_23, 0, none⟩) q19_16p q19_16l q19_16c (some ⟨b7_24, 0, none⟩) w199)) ∧ (
  newB w190 (.cells (zeroC Tryz.prog T_api_Node) T_api_Node) fun b7_25 w200 =>
  cellsAt w200 ⟨b3, 5, none⟩ [.int .i64 x21_0, .string x21_1, .string x21_2, .slice x21_3p x21_3l x21_3c, .slice x21_4p x21_4l x21_4c, .string x21_5] ∧
  w200.cell? ⟨b3, 1, none⟩ = some (.slice x18p x18l x18c) ∧
  cellsAt w200 ⟨b2, 0, none⟩ [.int .i64 x14_0, .string x14_1, .string x14_2, .slice x14_3p x14_3l x14_3c, .slice x14_4p x14_4l x14_4c, .string x14_5] ∧
  appJ Tryz.prog T_sl_int T_sl_int (.slice (some ⟨b16_5, 0, none⟩) 0 0) (.slice x18p x18l x18c) w200 fun q19_17p q19_17l q19_17c w201 =>
  cellsAt w201 ⟨b3, 5, none⟩ [.int .i64 x21_0, .string x21_1, .string x21_2, .slice x21_3p x21_3l x21_3c, .slice x21_4p x21_4l x21_4c, .string x21_5] ∧
  callJ Tryz.prog fn_ref05_Twin #[.agg ⟨[.int .i64 x21_0, .string x21_1, .string x21_2, .slice x21_3p x21_3l x21_3c, .slice x21_4p x21_4l x21_4c, .string x21_5]⟩] w201 [.agg [.int .i64, .str, .str, .slice, .slice, .str]] fun (r22_32_0 : Int) (r22_32_1 : ByteArray) (r22_32_2 : ByteArray) (r22_32_3p : Option Addr) (r22_32_3l : Nat) (r22_32_3c : Nat) (r22_32_4p : Option Addr) (r22_32_4l : Nat) (r22_32_4c : Nat) (r22_32_5 : ByteArray) (w202 : World) =>
  stN w202 ⟨b5_23, 0, none⟩ ⟨[.int .i64 r15_2_0, .string r15_2_1, .string r15_2_2, .slice r15_2_3p r15_2_3l r15_2_3c, .slice r15_2_4p r15_2_4l r15_2_4c, .string r15_2_5]⟩ 6 fun w203 =>
  stN w203 ⟨b7_25, 0, none⟩ ⟨[.int .i64 r22_32_0, .string r22_32_1, .string r22_32_2, .slice r22_32_3p r22_32_3l r22_32_3c, .slice r22_32_4p r22_32_4l r22_32_4c, .string r22_32_5]⟩ 6 fun w204 =>
  J_5 (some ⟨b5_23, 0, none⟩) q19_17p q19_17l q19_17c (some ⟨b7_25, 0, none⟩) w204)) ∧ (
  newB w189 (.cells (zeroC Tryz.prog T_api_Node) T_api_Node) fun b7_26 w205 =>
  cellsAt w205 ⟨b3, 5, none⟩ [.int .i64 x21_0, .string x21_1, .string x21_2, .slice x21_3p x21_3l x21_3c, .slice x21_4p x21_4l x21_4c, .string x21_5] ∧
  w205.cell? ⟨b3, 1, none⟩ = some (.slice x18p x18l x18c) ∧
  cellsAt w205 ⟨b2, 0, none⟩ [.int .i64 x14_0, .string x14_1, .string x14_2, .slice x14_3p x14_3l x14_3c, .slice x14_4p x14_4l x14_4c, .string x14_5] ∧
  callJ Tryz.prog fn_ref05_Twin #[.agg ⟨[.int .i64 x14_0, .string x14_1, .string x14_2, .slice x14_3p x14_3l x14_3c, .slice x14_4p x14_4l x14_4c, .string x14_5]⟩] w205 [.agg [.int .i64, .str, .str, .slice, .slice, .str]] fun (r15_3_0 : Int) (r15_3_1 : ByteArray) (r15_3_2 : ByteArray) (r15_3_3p : Option Addr) (r15_3_3l : Nat) (r15_3_3c : Nat) (r15_3_4p : Option Addr) (r15_3_4l : Nat) (r15_3_4c : Nat) (r15_3_5 : ByteArray) (w206 : World) =>
  cellsAt w206 ⟨b3, 5, none⟩ [.int .i64 x21_0, .string x21_1, .string x21_2, .slice x21_3p x21_3l x21_3c, .slice x21_4p x21_4l x21_4c, .string x21_5] ∧
  w206.cell? ⟨b3, 1, none⟩ = some (.slice x18p x18l x18c) ∧
  appJ Tryz.prog T_sl_int T_sl_int (.slice (some ⟨b16_5, 0, none⟩) 0 0) (.slice x18p x18l x18c) w206 fun q19_18p q19_18l q19_18c w207 =>
  cellsAt w207 ⟨b3, 5, none⟩ [.int .i64 x21_0, .string x21_1, .string x21_2, .slice x21_3p x21_3l x21_3c, .slice x21_4p x21_4l x21_4c, .string x21_5] ∧
  callJ Tryz.prog fn_ref05_Twin #[.agg ⟨[.int .i64 x21_0, .string x21_1, .string x21_2, .slice x21_3p x21_3l x21_3c, .slice x21_4p x21_4l x21_4c, .string x21_5]⟩] w207 [.agg [.int .i64, .str, .str, .slice, .slice, .str]] fun (r22_33_0 : Int) (r22_33_1 : ByteArray) (r22_33_2 : ByteArray) (r22_33_3p : Option Addr) (r22_33_3l : Nat) (r22_33_3c : Nat) (r22_33_4p : Option Addr) (r22_33_4l : Nat) (r22_33_4c : Nat) (r22_33_5 : ByteArray) (w208 : World) =>
  stN w208 ⟨b5_23, 0, none⟩ ⟨[.int .i64 r15_3_0, .string r15_3_1, .string r15_3_2, .slice r15_3_3p r15_3_3l r15_3_3c, .slice r15_3_4p r15_3_4l r15_3_4c, .string r15_3_5]⟩ 6 fun w209 =>
  stN w209 ⟨b7_26, 0, none⟩ ⟨[.int .i64 r22_33_0, .string r22_33_1, .string r22_33_2, .slice r22_33_3p r22_33_3l r22_33_3c, .slice r22_33_4p r22_33_4l r22_33_4c, .string r22_33_5]⟩ 6 fun w210 =>
  J_5 (some ⟨b5_23, 0, none⟩) q19_18p q19_18l q19_18c (some ⟨b7_26, 0, none⟩) w210)) ∧ (
  newB w129 (.cells (zeroC Tryz.prog T_api_Node) T_api_Node) fun b7_27 w211 =>
  cellsAt w211 ⟨b3, 5, none⟩ [.int .i64 x21_0, .string x21_1, .string x21_2, .slice x21_3p x21_3l x21_3c, .slice x21_4p x21_4l x21_4c, .string x21_5] ∧
  w211.cell? ⟨b3, 1, none⟩ = some (.slice x18p x18l x18c) ∧
  cellsAt w211 ⟨b2, 0, none⟩ [.int .i64 x14_0, .string x14_1, .string x14_2, .slice x14_3p x14_3l x14_3c, .slice x14_4p x14_4l x14_4c, .string x14_5] ∧
  (
  callJ Tryz.prog fn_ref05_Twin #[.agg ⟨[.int .i64 x14_0, .string x14_1, .string x14_2, .slice x14_3p x14_3l x14_3c, .slice x14_4p x14_4l x14_4c, .string x14_5]⟩] w211 [.agg [.int .i64, .str, .str, .slice, .slice, .str]] fun (r15_4_0 : Int) (r15_4_1 : ByteArray) (r15_4_2 : ByteArray) (r15_4_3p : Option Addr) (r15_4_3l : Nat) (r15_4_3c : Nat) (r15_4_4p : Option Addr) (r15_4_4l : Nat) (r15_4_4c : Nat) (r15_4_5 : ByteArray) (w212 : World) =>
  cellsAt w212 ⟨b3, 5, none⟩ [.int .i64 x21_0, .string x21_1, .string x21_2, .slice x21_3p x21_3l x21_3c, .slice x21_4p x21_4l x21_4c, .string x21_5] ∧
  w212.cell? ⟨b3, 1, none⟩ = some (.slice x18p x18l x18c) ∧
  (
  appJ Tryz.prog T_sl_int T_sl_int (.slice (some ⟨b16_5, 0, none⟩) 0 0) (.slice x18p x18l x18c) w212 fun q19_19p q19_19l q19_19c w213 =>
  cellsAt w213 ⟨b3, 5, none⟩ [.int .i64 x21_0, .string x21_1, .string x21_2, .slice x21_3p x21_3l x21_3c, .slice x21_4p x21_4l x21_4c, .string x21_5] ∧
  (
  callJ Tryz.prog fn_ref05_Twin #[.agg ⟨[.int .i64 x21_0, .string x21_1, .string x21_2, .slice x21_3p x21_3l x21_3c, .slice x21_4p x21_4l x21_4c, .string x21_5]⟩] w213 [.agg [.int .i64, .str, .str, .slice, .slice, .str]] fun (r22_34_0 : Int) (r22_34_1 : ByteArray) (r22_34_2 : ByteArray) (r22_34_3p : Option Addr) (r22_34_3l : Nat) (r22_34_3c : Nat) (r22_34_4p : Option Addr) (r22_34_4l : Nat) (r22_34_4c : Nat) (r22_34_5 : ByteArray) (w214 : World) =>
  newB w214 (.cells (zeroC Tryz.prog T_api_Node) T_api_Node) fun b5_24 w215 =>
  cellsAt w215 ⟨b3, 5, none⟩ [.int .i64 x21_0, .string x21_1, .string x21_2, .slice x21_3p x21_3l x21_3c, .slice x21_4p x21_4l x21_4c, .string x21_5] ∧
  w215.cell? ⟨b3, 1, none⟩ = some (.slice x18p x18l x18c) ∧
  cellsAt w215 ⟨b2, 0, none⟩ [.int .i64 x14_0, .string x14_1, .string x14_2, .slice x14_3p x14_3l x14_3c, .slice x14_4p x14_4l x14_4c, .string x14_5] ∧
  stN w215 ⟨b5_24, 0, none⟩ ⟨[.int .i64 r15_4_0, .string r15_4_1, .string r15_4_2, .slice r15_4_3p r15_4_3l r15_4_3c, .slice r15_4_4p r15_4_4l r15_4_4c, .string r15_4_5]⟩ 6 fun w216 =>
  stN w216 ⟨b7_27, 0, none⟩ ⟨[.int .i64 r22_34_0, .string r22_34_1, .string r22_34_2, .slice r22_34_3p r22_34_3l r22_34_3c, .slice r22_34_4p r22_34_4l r22_34_4c, .string r22_34_5]⟩ 6 fun w217 =>
  J_5 (some ⟨b5_24, 0, none⟩) q19_19p q19_19l q19_19c (some ⟨b7_27, 0, none⟩) w217) ∧ (
  newB w213 (.cells (zeroC Tryz.prog T_api_Node) T_api_Node) fun b5_25 w218 =>
  cellsAt w218 ⟨b3, 5, none⟩ [.int .i64 x21_0, .string x21_1, .string x21_2, .slice x21_3p x21_3l x21_3c, .slice x21_4p x21_4l x21_4c, .string x21_5] ∧
  w218.cell? ⟨b3, 1, none⟩ = some (.slice x18p x18l x18c) ∧
  cellsAt w218 ⟨b2, 0, none⟩ [.int .i64 x14_0, .string x14_1, .string x14_2, .slice x14_3p x14_3l x14_3c, .slice x14_4p x14_4l x14_4c, .string x14_5] ∧
  callJ Tryz.prog fn_ref05_Twin #[.agg ⟨[.int .i64 x21_0, .string x21_1, .string x21_2, .slice x21_3p x21_3l x21_3c, .slice x21_4p x21_4l x21_4c, .string x21_5]⟩] w218 [.agg [.int .i64, .str, .str, .slice, .slice, .str]] fun (r22_35_0 : Int) (r22_35_1 : ByteArray) (r22_35_2 : ByteArray) (r22_35_3p : Option Addr) (r22_35_3l : Nat) (r22_35_3c : Nat) (r22_35_4p : Option Addr) (r22_35_4l : Nat) (r22_35_4c : Nat) (r22_35_5 : ByteArray) (w219 : World) =>
  stN w219 ⟨b5_25, 0, none⟩ ⟨[.int .i64 r15_4_0, .string r15_4_1, .string r15_4_2, .slice r15_4_3p r15_4_3l r15_4_3c, .slice r15_4_4p r15_4_4l r15_4_4c, .string r15_4_5]⟩ 6 fun w220 =>
  stN w220 ⟨b7_27, 0, none⟩ ⟨[.int .i64 r22_35_0, .string r22_35_1, .string r22_35_2, .slice r22_35_3p r22_35_3l r22_35_3c, .slice r22_35_4p r22_35_4l r22_35_4c, .string r22_35_5]⟩ 6 fun w221 =>
  J_5 (some ⟨b5_25, 0, none⟩) q19_19p q19_19l q19_19c (some ⟨b7_27, 0, none⟩) w221)) ∧ (
  newB w212 (.cells (zeroC Tryz.prog T_api_Node) T_api_Node) fun b5_26 w222 =>
  cellsAt w222 ⟨b3, 5, none⟩ [.int .i64 x21_0, .string x21_1, .string x21_2, .slice x21_3p x21_3l x21_3c, .slice x21_4p x21_4l x21_4c, .string x21_5] ∧
  w222.cell? ⟨b3, 1, none⟩ = some (.slice x18p x18l x18c) ∧
  cellsAt w222 ⟨b2, 0, none⟩ [.int .i64 x14_0, .string x14_1, .string x14_2, .slice x14_3p x14_3l x14_3c, .slice x14_4p x14_4l x14_4c, .string x14_5] ∧
  appJ Tryz.prog T_sl_int T_sl_int (.slice (some ⟨b16_5, 0, none⟩) 0 0) (.slice x18p x18l x18c) w222 fun q19_20p q19_20l q19_20c w223 =>
  cellsAt w223 ⟨b3, 5, none⟩ [.int .i64 x21_0, .string x21_1, .string x21_2, .slice x21_3p x21_3l x21_3c, .slice x21_4p x21_4l x21_4c, .string x21_5] ∧
  callJ Tryz.prog fn_ref05_Twin #[.agg ⟨[.int .i64 x21_0, .string x21_1, .string x21_2, .slice x21_3p x21_3l x21_3c, .slice x21_4p x21_4l x21_4c, .string x21_5]⟩] w223 [.agg [.int .i64, .str, .str, .slice, .slice, .str]] fun (r22_36_0 : Int) (r22_36_1 : ByteArray) (r22_36_2 : ByteArray) (r22_36_3p : Option Addr) (r22_36_3l : Nat) (r22_36_3c : Nat) (r22_36_4p : Option Addr) (r22_36_4l : Nat) (r22_36_4c : Nat) (r22_36_5 : ByteArray) (w224 : World) =>
  stN w224 ⟨b5_26, 0, none⟩ ⟨[.int .i64 r15_4_0, .string r15_4_1, .string r15_4_2, .slice r15_4_3p r15_4_3l r15_4_3c, .slice r15_4_4p r15_4_4l r15_4_4c, .string r15_4_5]⟩ 6 fun w225 =>
  stN w225 ⟨b7_27, 0, none⟩ ⟨[.int .i64 r22_36_0, .string r22_36_1, .string r22_36_2, .slice r22_36_3p r22_36_3l r22_36_3c, .slice r22_36_4p r22_36_4l r22_36_4c, .string r22_36_5]⟩ 6 fun w226 =>
  J_5 (some ⟨b5_26, 0, none⟩) q19_20p q19_20l q19_20c (some ⟨b7_27, 0, none⟩) w226)) ∧ (
  newB w211 (.cells (zeroC Tryz.prog T_api_Node) T_api_Node) fun b5_27 w227 =>
  cellsAt w227 ⟨b3, 5, none⟩ [.int .i64 x21_0, .string x21_1, .string x21_2, .slice x21_3p x21_3l x21_3c, .slice x21_4p x21_4l x21_4c, .string x21_5] ∧
  w227.cell? ⟨b3, 1, none⟩ = some (.slice x18p x18l x18c) ∧
  cellsAt w227 ⟨b2, 0, none⟩ [.int .i64 x14_0, .string x14_1, .string x14_2, .slice x14_3p x14_3l x14_3c, .slice x14_4p x14_4l x14_4c, .string x14_5] ∧
  callJ Tryz.prog fn_ref05_Twin #[.agg ⟨[.int .i64 x14_0, .string x14_1, .string x14_2, .slice x14_3p x14_3l x14_3c, .slice x14_4p x14_4l x14_4c, .string x14_5]⟩] w227 [.agg [.int .i64, .str, .str, .slice, .slice, .str]] fun (r15_5_0 : Int) (r15_5_1 : ByteArray) (r15_5_2 : ByteArray) (r15_5_3p : Option Addr) (r15_5_3l : Nat) (r15_5_3c : Nat) (r15_5_4p : Option Addr) (r15_5_4l : Nat) (r15_5_4c : Nat) (r15_5_5 : ByteArray) (w228 : World) =>
  cellsAt w228 ⟨b3, 5, none⟩ [.int .i64 x21_0, .string x21_1, .string x21_2, .slice x21_3p x21_3l x21_3c, .slice x21_4p x21_4l x21_4c, .string x21_5] ∧
  w228.cell? ⟨b3, 1, none⟩ = some (.slice x18p x18l x18c) ∧
  appJ Tryz.prog T_sl_int T_sl_int (.slice (some ⟨b16_5, 0, none⟩) 0 0) (.slice x18p x18l x18c) w228 fun q19_21p q19_21l q19_21c w229 =>
  cellsAt w229 ⟨b3, 5, none⟩ [.int .i64 x21_0, .string x21_1, .string x21_2, .slice x21_3p x21_3l x21_3c, .slice x21_4p x21_4l x21_4c, .string x21_5] ∧
  callJ Tryz.prog fn_ref05_Twin #[.agg ⟨[.int .i64 x21_0, .string x21_1, .string x21_2, .slice x21_3p x21_3l x21_3c, .slice x21_4p x21_4l x21_4c, .string x21_5]⟩] w229 [.agg [.int .i64, .str, .str, .slice, .slice, .str]] fun (r22_37_0 : Int) (r22_37_1 : ByteArray) (r22_37_2 : ByteArray) (r22_37_3p : Option Addr) (r22_37_3l : Nat) (r22_37_3c : Nat) (r22_37_4p : Option Addr) (r22_37_4l : Nat) (r22_37_4c : Nat) (r22_37_5 : ByteArray) (w230 : World) =>
  stN w230 ⟨b5_27, 0, none⟩ ⟨[.int .i64 r15_5_0, .string r15_5_1, .string r15_5_2, .slice r15_5_3p r15_5_3l r15_5_3c, .slice r15_5_4p r15_5_4l r15_5_4c, .string r15_5_5]⟩ 6 fun w231 =>
  stN w231 ⟨b7_27, 0, none⟩ ⟨[.int .i64 r22_37_0, .string r22_37_1, .string r22_37_2, .slice r22_37_3p r22_37_3l r22_37_3c, .slice r22_37_4p r22_37_4l r22_37_4c, .string r22_37_5]⟩ 6 fun w232 =>
  J_5 (some ⟨b5_27, 0, none⟩) q19_21p q19_21l q19_21c (some ⟨b7_27, 0, none⟩) w232)))) ∧ (
  (
  newB w3.drew (.cells (zeroC Tryz.prog T_api_Node) T_api_Node) fun b5_28 w233 =>
  cellsAt w233 ⟨b3, 5, none⟩ [.int .i64 x21_0, .string x21_1, .string x21_2, .slice x21_3p x21_3l x21_3c, .slice x21_4p x21_4l x21_4c, .string x21_5] ∧
  w233.cell? ⟨b3, 1, none⟩ = some (.slice x18p x18l x18c) ∧
  cellsAt w233 ⟨b2, 0, none⟩ [.int .i64 x14_0, .string x14_1, .string x14_2, .slice x14_3p x14_3l x14_3c, .slice x14_4p x14_4l x14_4c, .string x14_5] ∧
  (
  callJ Tryz.prog fn_ref05_Twin #[.agg ⟨[.int .i64 x14_0, .string x14_1, .string x14_2, .slice x14_3p x14_3l x14_3c, .slice x14_4p x14_4l x14_4c, .string x14_5]⟩] w233 [.agg [.int .i64, .str, .str, .slice, .slice, .str]] fun (r15_6_0 : Int) (r15_6_1 : ByteArray) (r15_6_2 : ByteArray) (r15_6_3p : Option Addr) (r15_6_3l : Nat) (r15_6_3c : Nat) (r15_6_4p : Option Addr) (r15_6_4l : Nat) (r15_6_4c : Nat) (r15_6_5 : ByteArray) (w234 : World) =>
  cellsAt w234 ⟨b3, 5, none⟩ [.int .i64 x21_0, .string x21_1, .string x21_2, .slice x21_3p x21_3l x21_3c, .slice x21_4p x21_4l x21_4c, .string x21_5] ∧
  w234.cell? ⟨b3, 1, none⟩ = some (.slice x18p x18l x18c) ∧
  (
  newB w234 (.cells ⟨[]⟩ T_int) fun b16_6 w235 =>
  cellsAt w235 ⟨b3, 5, none⟩ [.int .i64 x21_0, .string x21_1, .string x21_2, .slice x21_3p x21_3l x21_3c, .slice x21_4p x21_4l x21_4c, .string x21_5] ∧
  w235.cell? ⟨b3, 1, none⟩ = some (.slice x18p x18l x18c) ∧
  cellsAt w235 ⟨b2, 0, none⟩ [.int .i64 x14_0, .string x14_1, .string x14_2, .slice x14_3p x14_3l x14_3c, .slice x14_4p x14_4l x14_4c, .string x14_5] ∧
  (
  appJ Tryz.prog T_sl_int T_sl_int (.slice (some ⟨b16_6, 0, none⟩) 0 0) (.slice x18p x18l x18c) w235 fun q19_22p q19_22l q19_22c w236 =>
  cellsAt w236 ⟨b3, 5, none⟩ [.int .i64 x21_0, .string x21_1, .string x21_2, .slice x21_3p x21_3l x21_3c, .slice x21_4p x21_4l x21_4c, .string x21_5] ∧
  (
  callJ Tryz.prog fn_ref05_Twin #[.agg ⟨[.int .i64 x21_0, .string x21_1, .string x21_2, .slice x21_3p x21_3l x21_3c, .slice x21_4p x21_4l x21_4c, .string x21_5]⟩] w236 [.agg [.int .i64, .str, .str, .slice, .slice, .str]] fun (r22_38_0 : Int) (r22_38_1 : ByteArray) (r22_38_2 : ByteArray) (r22_38_3p : Option Addr) (r22_38_3l : Nat) (r22_38_3c : Nat) (r22_38_4p : Option Addr) (r22_38_4l : Nat) (r22_38_4c : Nat) (r22_38_5 : ByteArray) (w237 : World) =>
  newB w237 (.cells (zeroC Tryz.prog T_api_Node) T_api_Node) fun b7_28 w238 =>
  cellsAt w238 ⟨b3, 5, none⟩ [.int .i64 x21_0, .string x21_1, .string x21_2, .slice x21_3p x21_3l x21_3c, .slice x21_4p x21_4l x21_4c, .string x21_5] ∧
  w238.cell? ⟨b3, 1, none⟩ = some (.slice x18p x18l x18c) ∧
  cellsAt w238 ⟨b2, 0, none⟩ [.int .i64 x14_0, .string x14_1, .string x14_2, .slice x14_3p x14_3l x14_3c, .slice x14_4p x14_4l x14_4c, .string x14_5] ∧
  stN w238 ⟨b5_28, 0, none⟩ ⟨[.int .i64 r15_6_0, .string r15_6_1, .string r15_6_2, .slice r15_6_3p r15_6_3l r15_6_3c, .slice r15_6_4p r15_6_4l r15_6_4c, .string r15_6_5]⟩ 6 fun w239 =>
  stN w239 ⟨b7_28, 0, none⟩ ⟨[.int .i64 r22_38_0, .string r22_38_1, .string r22_38_2, .slice r22_38_3p r22_38_3l r22_38_3c, .slice r22_38_4p r22_38_4l r22_38_4c, .string r22_38_5]⟩ 6 fun w240 =>
  J_5 (some ⟨b5_28, 0, none⟩) q19_22p q19_22l q19_22c (some ⟨b7_28, 0, none⟩) w240) ∧ (
  newB w236 (.cells (zeroC Tryz.prog T_api_Node) T_api_Node) fun b7_29 w241 =>
  cellsAt w241 ⟨b3, 5, none⟩ [.int .i64 x21_0, .string x21_1, .string x21_2, .slice x21_3p x21_3l x21_3c, .slice x21_4p x21_4l x21_4c, .string x21_5] ∧
  w241.cell? ⟨b3, 1, none⟩ = some (.slice x18p x18l x18c) ∧
  cellsAt w241 ⟨b2, 0, none⟩ [.int .i64 x14_0, .string x14_1, .string x14_2, .slice x14_3p x14_3l x14_3c, .slice x14_4p x14_4l x14_4c, .string x14_5] ∧
  callJ Tryz.prog fn_ref05_Twin #[.agg ⟨[.int .i64 x21_0, .string x21_1, .string x21_2, .slice x21_3p x21_3l x21_3c, .slice x21_4p x21_4l x21_4c, .string x21_5]⟩] w241 [.agg [.int .i64, .str, .str, .slice, .slice, .str]] fun (r22_39_0 : Int) (r22_39_1 : ByteArray) (r22_39_2 : ByteArray) (r22_39_3p : Option Addr) (r22_39_3l : Nat) (r22_39_3c : Nat) (r22_39_4p : Option Addr) (r22_39_4l : Nat) (r22_39_4c : Nat) (r22_39_5 : ByteArray) (w242 : World) =>
  stN w242 ⟨b5_28, 0, none⟩ ⟨[.int .i64 r15_6_0, .string r15_6_1, .string r15_6_2, .slice r15_6_3p r15_6_3l r15_6_3c, .slice r15_6_4p r15_6_4l r15_6_4c, .string r15_6_5]⟩ 6 fun w243 =>
  stN w243 ⟨b7_29, 0, none⟩ ⟨[.int .i64 r22_39_0, .string r22_39_1, .string r22_39_2, .slice r22_39_3p r22_39_3l r22_39_3c, .slice r22_39_4p r22_39_4l r22_39_4c, .string r22_39_5]⟩ 6 fun w244 =>
  J_5 (some ⟨b5_28, 0, none⟩) q19_22p q19_22l q19_22c (some ⟨b7_29, 0, none⟩) w244)) ∧ (
  newB w235 (.cells (zeroC Tryz.prog T_api_Node) T_api_Node) fun b7_30 w245 =>
  cellsAt w245 ⟨b3, 5, none⟩ [.int .i64 x21_0, .string x21_1, .string x21_2, .slice x21_3p x21_3l x21_3c, .slice x21_4p x21_4l x21_4c, .string x21_5] ∧
  w245.cell? ⟨b3, 1, none⟩ = some (.slice x18p x18l x18c) ∧
  cellsAt w245 ⟨b2, 0, none⟩ [.int .i64 x14_0, .string x14_1, .string x14_2, .slice x14_3p x14_3l x14_3c, .slice x14_4p x14_4l x14_4c, .string x14_5] ∧
  appJ Tryz.prog T_sl_int T_sl_int (.slice (some ⟨b16_6, 0, none⟩) 0 0) (.slice x18p x18l x18c) w245 fun q19_23p q19_23l q19_23c w246 =>
  cellsAt w246 ⟨b3, 5, none⟩ [.int .i64 x21_0, .string x21_1, .string x21_2, .slice x21_3p x21_3l x21_3c, .slice x21_4p x21_4l x21_4c, .string x21_5] ∧
  callJ Tryz.prog fn_ref05_Twin #[.agg ⟨[.int .i64 x21_0, .string x21_1, .string x21_2, .slice x21_3p x21_3l x21_3c, .slice x21_4p x21_4l x21_4c, .string x21_5]⟩] w246 [.agg [.int .i64, .str, .str, .slice, .slice, .str]] fun (r22_40_0 : Int) (r22_40_1 : ByteArray) (r22_40_2 : ByteArray) (r22_40_3p : Option Addr) (r22_40_3l : Nat) (r22_40_3c : Nat) (r22_40_4p : Option Addr) (r22_40_4l : Nat) (r22_40_4c : Nat) (r22_40_5 : ByteArray) (w247 : World) =>
  stN w247 ⟨b5_28, 0, none⟩ ⟨[.int .i64 r15_6_0, .string r15_6_1, .string r15_6_2, .slice r15_6_3p r15_6_3l r15_6_3c, .slice r15_6_4p r15_6_4l r15_6_4c, .string r15_6_5]⟩ 6 fun w248 =>
  stN w248 ⟨b7_30, 0, none⟩ ⟨[.int .i64 r22_40_0, .string r22_40_1, .string r22_40_2, .slice r22_40_3p r22_40_3l r22_40_3c, .slice r22_40_4p r22_40_4l r22_40_4c, .string r22_40_5]⟩ 6 fun w249 =>
  J_5 (some ⟨b5_28, 0, none⟩) q19_23p q19_23l q19_23c (some ⟨b7_30, 0, none⟩) w249)) ∧ (
  newB w234 (.cells (zeroC Tryz.prog T_api_Node) T_api_Node) fun b7_31 w250 =>
  cellsAt w250 ⟨b3, 5, none⟩ [.int .i64 x21_0, .string x21_1, .string x21_2, .slice x21_3p x21_3l x21_3c, .slice x21_4p x21_4l x21_4c, .string x21_5] ∧
  w250.cell? ⟨b3, 1, none⟩ = some (.slice x18p x18l x18c) ∧
  cellsAt w250 ⟨b2, 0, none⟩ [.int .i64 x14_0, .string x14_1, .string x14_2, .slice x14_3p x14_3l x14_3c, .slice x14_4p x14_4l x14_4c, .string x14_5] ∧
  newB w250 (.cells ⟨[]⟩ T_int) fun b16_7 w251 =>
  cellsAt w251 ⟨b3, 5, none⟩ [.int .i64 x21_0, .string x21_1, .string x21_2, .slice x21_3p x21_3l x21_3c, .slice x21_4p x21_4l x21_4c, .string x21_5] ∧
  w251.cell? ⟨b3, 1, none⟩ = some (.slice x18p x18l x18c) ∧
  cellsAt w251 ⟨b2, 0, none⟩ [.int .i64 x14_0, .string x14_1, .string x14_2, .slice x14_3p x14_3l x14_3c, .slice x14_4p x14_4l x14_4c, .string x14_5] ∧
  appJ Tryz.prog T_sl_int T_sl_int (.slice (some ⟨b16_7, 0, none⟩) 0 0) (.slice x18p x18l x18c) w251 fun q19_24p q19_24l q19_24c w252 =>
  cellsAt w252 ⟨b3, 5, none⟩ [.int .i64 x21_0, .string x21_1, .string x21_2, .slice x21_3p x21_3l x21_3c, .slice x21_4p x21_4l x21_4c, .string x21_5] ∧
  callJ Tryz.prog fn_ref05_Twin #[.agg ⟨[.int .i64 x21_0, .string x21_1, .string x21_2, .slice x21_3p x21_3l x21_3c, .slice x21_4p x21_4l x21_4c, .string x21_5]⟩] w252 [.agg [.int .i64, .str, .str, .slice, .slice, .str]] fun (r22_41_0 : Int) (r22_41_1 : ByteArray) (r22_41_2 : ByteArray) (r22_41_3p : Option Addr) (r22_41_3l : Nat) (r22_41_3c : Nat) (r22_41_4p : Option Addr) (r22_41_4l : Nat) (r22_41_4c : Nat) (r22_41_5 : ByteArray) (w253 : World) =>
  stN w253 ⟨b5_28, 0, none⟩ ⟨[.int .i64 r15_6_0, .string r15_6_1, .string r15_6_2, .slice r15_6_3p r15_6_3l r15_6_3c, .slice r15_6_4p r15_6_4l r15_6_4c, .string r15_6_5]⟩ 6 fun w254 =>
  stN w254 ⟨b7_31, 0, none⟩ ⟨[.int .i64 r22_41_0, .string r22_41_1, .string r22_41_2, .slice r22_41_3p r22_41_3l r22_41_3c, .slice r22_41_4p r22_41_4l r22_41_4c, .string r22_41_5]⟩ 6 fun w255 =>
  J_5 (some ⟨b5_28, 0, none⟩) q19_24p q19_24l q19_24c (some ⟨b7_31, 0, none⟩) w255)) ∧ (
  (
  newB w233 (.cells ⟨[]⟩ T_int) fun b16_8 w256 =>
  cellsAt w256 ⟨b3, 5, none⟩ [.int .i64 x21_0, .string x21_1, .string x21_2, .slice x21_3p x21_3l x21_3c, .slice x21_4p x21_4l x21_4c, .string x21_5] ∧
  w256.cell? ⟨b3, 1, none⟩ = some (.slice x18p x18l x18c) ∧
  cellsAt w256 ⟨b2, 0, none⟩ [.int .i64 x14_0, .string x14_1, .string x14_2, .slice x14_3p x14_3l x14_3c, .slice x14_4p x14_4l x14_4c, .string x14_5] ∧
  (
  callJ Tryz.prog fn_ref05_Twin #[.agg ⟨[.int .i64 x14_0, .string x14_1, .string x14_2, .slice x14_3p x14_3l x14_3c, .slice x14_4p x14_4l x14_4c, .string x14_5]⟩] w256 [.agg [.int .i64, .str, .str, .slice, .slice, .str]] fun (r15_7_0 : Int) (r15_7_1 : ByteArray) (r15_7_2 : ByteArray) (r15_7_3p : Option Addr) (r15_7_3l : Nat) (r15_7_3c : Nat) (r15_7_4p : Option Addr) (r15_7_4l : Nat) (r15_7_4c : Nat) (r15_7_5 : ByteArray) (w257 : World) =>
  cellsAt w257 ⟨b3, 5, none⟩ [.int .i64 x21_0, .string x21_1, .string x21_2, .slice x21_3p x21_3l x21_3c, .slice x21_4p x21_4l x21_4c, .string x21_5] ∧
  w257.cell? ⟨b3, 1, none⟩ = some (.slice x18p x18l x18c) ∧
  (
  appJ Tryz.prog T_sl_int T_sl_int (.slice (some ⟨b16_8, 0, none⟩) 0 0) (.slice x18p x18l x18c) w257 fun q19_25p q19_25l q19_25c w258 =>
  cellsAt w258 ⟨b3, 5, none⟩ [.int .i64 x21_0, .string x21_1, .string x21_2, .slice x21_3p x21_3l x21_3c, .slice x21_4p x21_4l x21_4c, .string x21_5] ∧
  (
  callJ Tryz.prog fn_ref05_Twin #[.agg ⟨[.int .i64 x21_0, .string x21_1, .string x21_2, .slice x21_3p x21_3l x21_3c, .slice x21_4p x21_4l x21_4c, .string x21_5]⟩] w258 [.agg [.int .i64, .str, .str, .slice, .slice, .str]] fun (r22_42_0 : Int) (r22_42_1 : ByteArray) (r22_42_2 : ByteArray) (r22_42_3p : Option Addr) (r22_42_3l : Nat) (r22_42_3c : Nat) (r22_42_4p : Option Addr) (r22_42_4l : Nat) (r22_42_4c : Nat) (r22_42_5 : ByteArray) (w259 : World) =>
  newB w259 (.cells (zeroC Tryz.prog T_api_Node) T_api_Node) fun b7_32 w260 =>
  cellsAt w260 ⟨b3, 5, none⟩ [.int .i64 x21_0, .string x21_1, .string x21_2, .slice x21_3p x21_3l x21_3c, .slice x21_4p x21_4l x21_4c, .string x21_5] ∧
  w260.cell? ⟨b3, 1, none⟩ = some (.slice x18p x18l x18c) ∧
  cellsAt w260 ⟨b2, 0, none⟩ [.int .i64 x14_0, .string x14_1, .string x14_2, .slice x14_3p x14_3l x14_3c, .slice x14_4p x14_4l x14_4c, .string x14_5] ∧
  stN w260 ⟨b5_28, 0, none⟩ ⟨[.int .i64 r15_7_0, .string r15_7_1, .string r15_7_2, .slice r15_7_3p r15_7_3l r15_7_3c, .slice r15_7_4p r15_7_4l r15_7_4c, .string r15_7_5]⟩ 6 fun w261 =>
  stN w261 ⟨b7_32, 0, none⟩ ⟨[.int .i64 r22_42_0, .string r22_42_1, .string r22_42_2, .slice r22_42_3p r22_42_3l r22_42_3c, .slice r22_42_4p r22_42_4l r22_42_4c, .string r22_42_5]⟩ 6 fun w262 =>
  J_5 (some ⟨b5_28, 0, none⟩) q19_25p q19_25l q19_25c (some ⟨b7_32, 0, none⟩) w262) ∧ (
  newB w258 (.cells (zeroC Tryz.prog T_api_Node) T_api_Node) fun b7_33 w263 =>
  cellsAt w263 ⟨b3, 5, none⟩ [.int .i64 x21_0, .string x21_1, .string x21_2, .slice x21_3p x21_3l x21_3c, .slice x21_4p x21_4l x21_4c, .string x21_5] ∧
  w263.cell? ⟨b3, 1, none⟩ = some (.slice x18p x18l x18c) ∧
  cellsAt w263 ⟨b2, 0, none⟩ [.int .i64 x14_0, .string x14_1, .string x14_2, .slice x14_3p x14_3l x14_3c, .slice x14_4p x14_4l x14_4c, .string x14_5] ∧
  callJ Tryz.prog fn_ref05_Twin #[.agg ⟨[.int .i64 x21_0, .string x21_1, .string x21_2, .slice x21_3p x21_3l x21_3c, .slice x21_4p x21_4l x21_4c, .string x21_5]⟩] w263 [.agg [.int .i64, .str, .str, .slice, .slice, .str]] fun (r22_43_0 : Int) (r22_43_1 : ByteArray) (r22_43_2 : ByteArray) (r22_43_3p : Option Addr) (r22_43_3l : Nat) (r22_43_3c : Nat) (r22_43_4p : Option Addr) (r22_43_4l : Nat) (r22_43_4c : Nat) (r22_43_5 : ByteArray) (w264 : World) =>
  stN w264 ⟨b5_28, 0, none⟩ ⟨[.int .i64 r15_7_0, .string r15_7_1, .string r15_7_2, .slice r15_7_3p r15_7_3l r15_7_3c, .slice r15_7_4p r15_7_4l r15_7_4c, .string r15_7_5]⟩ 6 fun w265 =>
  stN w265 ⟨b7_33, 0, none⟩ ⟨[.int .i64 r22_43_0, .string r22_43_1, .string r22_43_2, .slice r22_43_3p r22_43_3l r22_43_3c, .slice r22_43_4p r22_43_4l r22_43_4c, .string r22_43_5]⟩ 6 fun w266 =>
  J_5 (some ⟨b5_28, 0, none⟩) q19_25p q19_25l q19_25c (some ⟨b7_33, 0, none⟩) w266)) ∧ (
  newB w257 (.cells (zeroC Tryz.prog T_api_Node) T_api_Node) fun b7_34 w267 =>
  cellsAt w267 ⟨b3, 5, none⟩ [.int .i64 x21_0, .string x21_1, .string x21_2, .slice x21_3p x21_3l x21_3c, .slice x21_4p x21_4l x21_4c, .string x21_5] ∧
  w267.cell? ⟨b3, 1, none⟩ = some (.slice x18p x18l x18c) ∧
  cellsAt w267 ⟨b2, 0, none⟩ [.int .i64 x14_0, .string x14_1, .string x14_2, .slice x14_3p x14_3l x14_3c, .slice x14_4p x14_4l x14_4c, .string x14_5] ∧
  appJ Tryz.prog T_sl_int T_sl_int (.slice (some ⟨b16_8, 0, none⟩) 0 0) (.slice x18p x18l x18c) w267 fun q19_26p q19_26l q19_26c w268 =>
  cellsAt w268 ⟨b3, 5, none⟩ [.int .i64 x21_0, .string x21_1, .string x21_2, .slice x21_3p x21_3l x21_3c, .slice x21_4p x21_4l x21_4c, .string x21_5] ∧
  callJ Tryz.prog fn_ref05_Twin #[.agg ⟨[.int .i64 x21_0, .string x21_1, .string x21_2, .slice x21_3p x21_3l x21_3c, .slice x21_4p x21_4l x21_4c, .string x21_5]⟩] w268 [.agg [.int .i64, .str, .str, .slice, .slice, .str]] fun (r22_44_0 : Int) (r22_44_1 : ByteArray) (r22_44_2 : ByteArray) (r22_44_3p : Option Addr) (r22_44_3l : Nat) (r22_44_3c : Nat) (r22_44_4p : Option Addr) (r22_44_4l : Nat) (r22_44_4c : Nat) (r22_44_5 : ByteArray) (w269 : World) =>
  stN w269 ⟨b5_28, 0, none⟩ ⟨[.int .i64 r15_7_0, .string r15_7_1, .string r15_7_2, .slice r15_7_3p r15_7_3l r15_7_3c, .slice r15_7_4p r15_7_4l r15_7_4c, .string r15_7_5]⟩ 6 fun w270 =>
  stN w270 ⟨b7_34, 0, none⟩ ⟨[.int .i64 r22_44_0, .string r22_44_1, .string r22_44_2, .slice r22_44_3p r22_44_3l r22_44_3c, .slice r22_44_4p r22_44_4l r22_44_4c, .string r22_44_5]⟩ 6 fun w271 =>
  J_5 (some ⟨b5_28, 0, none⟩) q19_26p q19_26l q19_26c (some ⟨b7_34, 0, none⟩) w271)) ∧ (
  newB w256 (.cells (zeroC Tryz.prog T_api_Node) T_api_Node) fun b7_35 w272 =>
  cellsAt w272 ⟨b3, 5, none⟩ [.int .i64 x21_0, .string x21_1, .string x21_2, .slice x21_3p x21_3l x21_3c, .slice x21_4p x21_4l x21_4c, .string x21_5] ∧
  w272.cell? ⟨b3, 1, none⟩ = some (.slice x18p x18l x18c) ∧
  cellsAt w272 ⟨b2, 0, none⟩ [.int .i64 x14_0, .string x14_1, .string x14_2, .slice x14_3p x14_3l x14_3c, .slice x14_4p x14_4l x14_4c, .string x14_5] ∧
  callJ Tryz.prog fn_ref05_Twin #[.agg ⟨[.int .i64 x14_0, .string x14_1, .string x14_2, .slice x14_3p x14_3l x14_3c, .slice x14_4p x14_4l x14_4c, .string x14_5]⟩] w272 [.agg [.int .i64, .str, .str, .slice, .slice, .str]] fun (r15_8_0 : Int) (r15_8_1 : ByteArray) (r15_8_2 : ByteArray) (r15_8_3p : Option Addr) (r15_8_3l : Nat) (r15_8_3c : Nat) (r15_8_4p : Option Addr) (r15_8_4l : Nat) (r15_8_4c : Nat) (r15_8_5 : ByteArray) (w273 : World) =>
  cellsAt w273 ⟨b3, 5, none⟩ [.int .i64 x21_0, .string x21_1, .string x21_2, .slice x21_3p x21_3l x21_3c, .slice x21_4p x21_4l x21_4c, .string x21_5] ∧
  w273.cell? ⟨b3, 1, none⟩ = some (.slice x18p x18l x18c) ∧
  appJ Tryz.prog T_sl_int T_sl_int (.slice (some ⟨b16_8, 0, none⟩) 0 0) (.slice x18p x18l x18c) w273 fun q19_27p q19_27l q19_27c w274 =>
  cellsAt w274 ⟨b3, 5, none⟩ [.int .i64 x21_0, .string x21_1, .string x21_2, .slice x21_3p x21_3l x21_3c, .slice x21_4p x21_4l x21_4c, .string x21_5] ∧
  callJ Tryz.prog fn_ref05_Twin #[.agg ⟨[.int .i64 x21_0, .string x21_1, .string x21_2, .slice x21_3p x21_3l x21_3c, .slice x21_4p x21_4l x21_4c, .string x21_5]⟩] w274 [.agg [.int .i64, .str, .str, .slice, .slice, .str]] fun (r22_45_0 : Int) (r22_45_1 : ByteArray) (r22_45_2 : ByteArray) (r22_45_3p : Option Addr) (r22_45_3l : Nat) (r22_45_3c : Nat) (r22_45_4p : Option Addr) (r22_45_4l : Nat) (r22_45_4c : Nat) (r22_45_5 : ByteArray) (w275 : World) =>
  stN w275 ⟨b5_28, 0, none⟩ ⟨[.int .i64 r15_8_0, .string r15_8_1, .string r15_8_2, .slice r15_8_3p r15_8_3l r15_8_3c, .slice r15_8_4p r15_8_4l r15_8_4c, .string r15_8_5]⟩ 6 fun w276 =>
  stN w276 ⟨b7_35, 0, none⟩ ⟨[.int .i64 r22_45_0, .string r22_45_1, .string r22_45_2, .slice r22_45_3p r22_45_3l r22_45_3c, .slice r22_45_4p r22_45_4l r22_45_4c, .string r22_45_5]⟩ 6 fun w277 =>
  J_5 (some ⟨b5_28, 0, none⟩) q19_27p q19_27l q19_27c (some ⟨b7_35, 0, none⟩) w277)) ∧ (
  newB w233 (.cells (zeroC Tryz.prog T_api_Node) T_api_Node) fun b7_36 w278 =>
  cellsAt w278 ⟨b3, 5, none⟩ [.int .i64 x21_0, .string x21_1, .string x21_2, .slice x21_3p x21_3l x21_3c, .slice x21_4p x21_4l x21_4c, .string x21_5] ∧
  w278.cell? ⟨b3, 1, none⟩ = some (.slice x18p x18l x18c) ∧
  cellsAt w278 ⟨b2, 0, none⟩ [.int .i64 x14_0, .string x14_1, .string x14_2, .slice x14_3p x14_3l x14_3c, .slice x14_4p x14_4l x14_4c, .string x14_5] ∧
  (
  callJ Tryz.prog fn_ref05_Twin #[.agg ⟨[.int .i64 x14_0, .string x14_1, .string x14_2, .slice x14_3p x14_3l x14_3c, .slice x14_4p x14_4l x14_4c, .string x14_5]⟩] w278 [.agg [.int .i64, .str, .str, .slice, .slice, .str]] fun (r15_9_0 : Int) (r15_9_1 : ByteArray) (r15_9_2 : ByteArray) (r15_9_3p : Option Addr) (r15_9_3l : Nat) (r15_9_3c : Nat) (r15_9_4p : Option Addr) (r15_9_4l : Nat) (r15_9_4c : Nat) (r15_9_5 : ByteArray) (w279 : World) =>
  cellsAt w279 ⟨b3, 5, none⟩ [.int .i64 x21_0, .string x21_1, .string x21_2, .slice x21_3p x21_3l x21_3c, .slice x21_4p x21_4l x21_4c, .string x21_5] ∧
  w279.cell? ⟨b3, 1, none⟩ = some (.slice x18p x18l x18c) ∧
  newB w279 (.cells ⟨[]⟩ T_int) fun b16_9 w280 =>
  cellsAt w280 ⟨b3, 5, none⟩ [.int .i64 x21_0, .string x21_1, .string x21_2, .slice x21_3p x21_3l x21_3c, .slice x21_4p x21_4l x21_4c, .string x21_5] ∧
  w280.cell? ⟨b3, 1, none⟩ = some (.slice x18p x18l x18c) ∧
  cellsAt w280 ⟨b2, 0, none⟩ [.int .i64 x14_0, .string x14_1, .string x14_2, .slice x14_3p x14_3l x14_3c, .slice x14_4p x14_4l x14_4c, .string x14_5] ∧
  appJ Tryz.prog T_sl_int T_sl_int (.slice (some ⟨b16_9, 0, none⟩) 0 0) (.slice x18p x18l x18c) w280 fun q19_28p q19_28l q19_28c w281 =>
  cellsAt w281 ⟨b3, 5, none⟩ [.int .i64 x21_0, .string x21_1, .string x21_2, .slice x21_3p x21_3l x21_3c, .slice x21_4p x21_4l x21_4c, .string x21_5] ∧
  callJ Tryz.prog fn_ref05_Twin #[.agg ⟨[.int .i64 x21_0, .string x21_1, .string x21_2, .slice x21_3p x21_3l x21_3c, .slice x21_4p x21_4l x21_4c, .string x21_5]⟩] w281 [.agg [.int .i64, .str, .str, .slice, .slice, .str]] fun (r22_46_0 : Int) (r22_46_1 : ByteArray) (r22_46_2 : ByteArray) (r22_46_3p : Option Addr) (r22_46_3l : Nat) (r22_46_3c : Nat) (r22_46_4p : Option Addr) (r22_46_4l : Nat) (r22_46_4c : Nat) (r22_46_5 : ByteArray) (w282 : World) =>
  stN w282 ⟨b5_28, 0, none⟩ ⟨[.int .i64 r15_9_0, .string r15_9_1, .string r15_9_2, .slice r15_9_3p r15_9_3l r15_9_3c, .slice r15_9_4p r15_9_4l r15_9_4c, .string r15_9_5]⟩ 6 fun w283 =>
  stN w283 ⟨b7_36, 0, none⟩ ⟨[.int .i64 r22_46_0, .string r22_46_1, .string r22_46_2, .slice r22_46_3p r22_46_3l r22_46_3c, .slice r22_46_4p r22_46_4l r22_46_4c, .string r22_46_5]⟩ 6 fun w284 =>
  J_5 (some ⟨b5_28, 0, none⟩) q19_28p q19_28l q19_28c (some ⟨b7_36, 0, none⟩) w284) ∧ (
  newB w278 (.cells ⟨[]⟩ T_int) fun b16_10 w285 =>
  cellsAt w285 ⟨b3, 5, none⟩ [.int .i64 x21_0, .string x21_1, .string x21_2, .slice x21_3p x21_3l x21_3c, .slice x21_4p x21_4l x21_4c, .string x21_5] ∧
  w285.cell? ⟨b3, 1, none⟩ = some (.slice x18p x18l x18c) ∧
  cellsAt w285 ⟨b2, 0, none⟩ [.int .i64 x14_0, .string x14_1, .string x14_2, .slice x14_3p x14_3l x14_3c, .slice x14_4p x14_4l x14_4c, .string x14_5] ∧
  callJ Tryz.prog fn_ref05_Twin #[.agg ⟨[.int .i64 x14_0, .string x14_1, .string x14_2, .slice x14_3p x14_3l x14_3c, .slice x14_4p x14_4l x14_4c, .string x14_5]⟩] w285 [.agg [.int .i64, .str, .str, .slice, .slice, .str]] fun (r15_10_0 : Int) (r15_10_1 : ByteArray) (r15_10_2 : ByteArray) (r15_10_3p : Option Addr) (r15_10_3l : Nat) (r15_10_3c : Nat) (r15_10_4p : Option Addr) (r15_10_4l : Nat) (r15_10_4c : Nat) (r15_10_5 : ByteArray) (w286 : World) =>
  cellsAt w286 ⟨b3, 5, none⟩ [.int .i64 x21_0, .string x21_1, .string x21_2, .slice x21_3p x21_3l x21_3c, .slice x21_4p x21_4l x21_4c, .string x21_5] ∧
  w286.cell? ⟨b3, 1, none⟩ = some (.slice x18p x18l x18c) ∧
  appJ Tryz.prog T_sl_int T_sl_int (.slice (some ⟨b16_10, 0, none⟩) 0 0) (.slice x18p x18l x18c) w286 fun q19_29p q19_29l q19_29c w287 =>
  cellsAt w287 ⟨b3, 5, none⟩ [.int .i64 x21_0, .string x21_1, .string x21_2, .slice x21_3p x21_3l x21_3c, .slice x21_4p x21_4l x21_4c, .string x21_5] ∧
  callJ Tryz.prog fn_ref05_Twin #[.agg ⟨[.int .i64 x21_0, .string x21_1, .string x21_2, .slice x21_3p x21_3l x21_3c, .slice x21_4p x21_4l x21_4c, .string x21_5]⟩] w287 [.agg [.int .i64, .str, .str, .slice, .slice, .str]] fun (r22_47_0 : Int) (r22_47_1 : ByteArray) (r22_47_2 : ByteArray) (r22_47_3p : Option Addr) (r22_47_3l : Nat) (r22_47_3c : Nat) (r22_47_4p : Option Addr) (r22_47_4l : Nat) (r22_47_4c : Nat) (r22_47_5 : ByteArray) (w288 : World) =>
  stN w288 ⟨b5_28, 0, none⟩ ⟨[.int .i64 r15_10_0, .string r15_10_1, .string r15_10_2, .slice r15_10_3p r15_10_3l r15_10_3c, .slice r15_10_4p r15_10_4l r15_10_4c, .string r15_10_5]⟩ 6 fun w289 =>
  stN w289 ⟨b7_36, 0, none⟩ ⟨[.int .i64 r22_47_0, .string r22_47_1, .string r22_47_2, .slice r22_47_3p r22_47_3l r22_47_3c, .slice r22_47_4p r22_47_4l r22_47_4c, .string r22_47_5]⟩ 6 fun w290 =>
  J_5 (some ⟨b5_28, 0, none⟩) q19_29p q19_29l q19_29c (some ⟨b7_36, 0, none⟩) w290)))) ∧ (
  newB w3.drew (.cells (zeroC Tryz.prog T_api_Node) T_api_Node) fun b7_37 w291 =>
  cellsAt w291 ⟨b3, 5, none⟩ [.int .i64 x21_0, .string x21_1, .string x21_2, .slice x21_3p x21_3l x21_3c, .slice x21_4p x21_4l x21_4c, .string x21_5] ∧
  w291.cell? ⟨b3, 1, none⟩ = some (.slice x18p x18l x18c) ∧
  cellsAt w291 ⟨b2, 0, none⟩ [.int .i64 x14_0, .string x14_1, .string x14_2, .slice x14_3p x14_3l x14_3c, .slice x14_4p x14_4l x14_4c, .string x14_5] ∧
  (
  callJ Tryz.prog fn_ref05_Twin #[.agg ⟨[.int .i64 x14_0, .string x14_1, .string x14_2, .slice x14_3p x14_3l x14_3c, .slice x14_4p x14_4l x14_4c, .string x14_5]⟩] w291 [.agg [.int .i64, .str, .str, .slice, .slice, .str]] fun (r15_11_0 : Int) (r15_11_1 : ByteArray) (r15_11_2 : ByteArray) (r15_11_3p : Option Addr) (r15_11_3l : Nat) (r15_11_3c : Nat) (r15_11_4p : Option Addr) (r15_11_4l : Nat) (r15_11_4c : Nat) (r15_11_5 : ByteArray) (w292 : World) =>
  cellsAt w292 ⟨b3, 5, none⟩ [.int .i64 x21_0, .string x21_1, .string x21_2, .slice x21_3p x21_3l x21_3c, .slice x21_4p x21_4l x21_4c, .string x21_5] ∧
  w292.cell? ⟨b3, 1, none⟩ = some (.slice x18p x18l x18c) ∧
  (
  newB w292 (.cells ⟨[]⟩ T_int) fun b16_11 w293 =>
  cellsAt w293 ⟨b3, 5, none⟩ [.int .i64 x21_0, .string x21_1, .string x21_2, .slice x21_3p x21_3l x21_3c, .slice x21_4p x21_4l x21_4c, .string x21_5] ∧
  w293.cell? ⟨b3, 1, none⟩ = some (.slice x18p x18l x18c) ∧
  cellsAt w293 ⟨b2, 0, none⟩ [.int .i64 x14_0, .string x14_1, .string x14_2, .slice x14_3p x14_3l x14_3c, .slice x14_4p x14_4l x14_4c, .string x14_5] ∧
  (
  appJ Tryz.prog T_sl_int T_sl_int (.slice (some ⟨b16_11, 0, none⟩) 0 0) (.slice x18p x18l x18c) w293 fun q19_30p q19_30l q19_30c w294 =>
  cellsAt w294 ⟨b3, 5, none⟩ [.int .i64 x21_0, .string x21_1, .string x21_2, .slice x21_3p x21_3l x21_3c, .slice x21_4p x21_4l x21_4c, .string x21_5] ∧
  (
  callJ Tryz.prog fn_ref05_Twin #[.agg ⟨[.int .i64 x21_0, .string x21_1, .string x21_2, .slice x21_3p x21_3l x21_3c, .slice x21_4p x21_4l x21_4c, .string x21_5]⟩] w294 [.agg [.int .i64, .str, .str, .slice, .slice, .str]] fun (r22_48_0 : Int) (r22_48_1 : ByteArray) (r22_48_2 : ByteArray) (r22_48_3p : Option Addr) (r22_48_3l : Nat) (r22_48_3c : Nat) (r22_48_4p : Option Addr) (r22_48_4l : Nat) (r22_48_4c : Nat) (r22_48_5 : ByteArray) (w295 : World) =>
  newB w295 (.cells (zeroC Tryz.prog T_api_Node) T_api_Node) fun b5_29 w296 =>
  cellsAt w296 ⟨b3, 5, none⟩ [.int .i64 x21_0, .string x21_1, .string x21_2, .slice x21_3p x21_3l x21_3c, .slice x21_4p x21_4l x21_4c, .string x21_5] ∧
  w296.cell? ⟨b3, 1, none⟩ = some (.slice x18p x18l x18c) ∧
  cellsAt w296 ⟨b2, 0, none⟩ [.int .i64 x14_0, .string x14_1, .string x14_2, .slice x14_3p x14_3l x14_3c, .slice x14_4p x14_4l x14_4c, .string x14_5] ∧
  stN w296 ⟨b5_29, 0, none⟩ ⟨[.int .i64 r15_11_0, .string r15_11_1, .string r15_11_2, .slice r15_11_3p r15_11_3l r15_11_3c, .slice r15_11_4p r15_11_4l r15_11_4c, .string r15_11_5]⟩ 6 fun w297 =>
  stN w297 ⟨b7_37, 0, none⟩ ⟨[.int .i64 r22_48_0, .string r22_48_1, .string r22_48_2, .slice r22_48_3p r22_48_3l r22_48_3c, .slice r22_48_4p r22_48_4l r22_48_4c, .string r22_48_5]⟩ 6 fun w298 =>
  J_5 (some ⟨b5_29, 0, none⟩) q19_30p q19_30l q19_30c (some ⟨b7_37, 0, none⟩) w298) ∧ (
  newB w294 (.cells (zeroC Tryz.prog T_api_Node) T_api_Node) fun b5_30 w299 =>
  cellsAt w299 ⟨b3, 5, none⟩ [.int .i64 x21_0, .string x21_1, .string x21_2, .slice x21_3p x21_3l x21_3c, .slice x21_4p x21_4l x21_4c, .string x21_5] ∧
  w299.cell? ⟨b3, 1, none⟩ = some (.slice x18p x18l x18c) ∧
  cellsAt w299 ⟨b2, 0, none⟩ [.int .i64 x14_0, .string x14_1, .string x14_2, .slice x14_3p x14_3l x14_3c, .slice x14_4p x14_4l x14_4c, .string x14_5] ∧
  callJ Tryz.prog fn_ref05_Twin #[.agg ⟨[.int .i64 x21_0, .string x21_1, .string x21_2, .slice x21_3p x21_3l x21_3c, .slice x21_4p x21_4l x21_4c, .string x21_5]⟩] w299 [.agg [.int .i64, .str, .str, .slice, .slice, .str]] fun (r22_49_0 : Int) (r22_49_1 : ByteArray) (r22_49_2 : ByteArray) (r22_49_3p : Option Addr) (r22_49_3l : Nat) (r22_49_3c : Nat) (r22_49_4p : Option Addr) (r22_49_4l : Nat) (r22_49_4c : Nat) (r22_49_5 : ByteArray) (w300 : World) =>
  stN w300 ⟨b5_30, 0, none⟩ ⟨[.int .i64 r15_11_0, .string r15_11_1, .string r15_11_2, .slice r15_11_3p r15_11_3l r15_11_3c, .slice r15_11_4p r15_11_4l r15_11_4c, .string r15_11_5]⟩ 6 fun w301 =>
  stN w301 ⟨b7_37, 0, none⟩ ⟨[.int .i64 r22_49_0, .string r22_49_1, .string r22_49_2, .slice r22_49_3p r22_49_3l r22_49_3c, .slice r22_49_4p r22_49_4l r22_49_4c, .string r22_49_5]⟩ 6 fun w302 =>
  J_5 (some ⟨b5_30, 0, none⟩) q19_30p q19_30l q19_30c (some ⟨b7_37, 0, none⟩) w302)) ∧ (
  newB w293 (.cells (zeroC Tryz.prog T_api_Node) T_api_Node) fun b5_31 w303 =>
  cellsAt w303 ⟨b3, 5, none⟩ [.int .i64 x21_0, .string x21_1, .string x21_2, .slice x21_3p x21_3l x21_3c, .slice x21_4p x21_4l x21_4c, .string x21_5] ∧
  w303.cell? ⟨b3, 1, none⟩ = some (.slice x18p x18l x18c) ∧
  cellsAt w303 ⟨b2, 0, none⟩ [.int .i64 x14_0, .string x14_1, .string x14_2, .slice x14_3p x14_3l x14_3c, .slice x14_4p x14_4l x14_4c, .string x14_5] ∧
  appJ Tryz.prog T_sl_int T_sl_int (.slice (some ⟨b16_11, 0, none⟩) 0 0) (.slice x18p x18l x18c) w303 fun q19_31p q19_31l q19_31c w304 =>
  cellsAt w304 ⟨b3, 5, none⟩ [.int .i64 x21_0, .string x21_1, .string x21_2, .slice x21_3p x21_3l x21_3c, .slice x21_4p x21_4l x21_4c, .string x21_5] ∧
  callJ Tryz.prog fn_ref05_Twin #[.agg ⟨[.int .i64 x21_0, .string x21_1, .string x21_2, .slice x21_3p x21_3l x21_3c, .slice x21_4p x21_4l x21_4c, .string x21_5]⟩] w304 [.agg [.int .i64, .str, .str, .slice, .slice, .str]] fun (r22_50_0 : Int) (r22_50_1 : ByteArray) (r22_50_2 : ByteArray) (r22_50_3p : Option Addr) (r22_50_3l : Nat) (r22_50_3c : Nat) (r22_50_4p : Option Addr) (r22_50_4l : Nat) (r22_50_4c : Nat) (r22_50_5 : ByteArray) (w305 : World) =>
  stN w305 ⟨b5_31, 0, none⟩ ⟨[.int .i64 r15_11_0, .string r15_11_1, .string r15_11_2, .slice r15_11_3p r15_11_3l r15_11_3c, .slice r15_11_4p r15_11_4l r15_11_4c, .string r15_11_5]⟩ 6 fun w306 =>
  stN w306 ⟨b7_37, 0, none⟩ ⟨[.int .i64 r22_50_0, .string r22_50_1, .string r22_50_2, .slice r22_50_3p r22_50_3l r22_50_3c, .slice r22_50_4p r22_50_4l r22_50_4c, .string r22_50_5]⟩ 6 fun w307 =>
  J_5 (some ⟨b5_31, 0, none⟩) q19_31p q19_31l q19_31c (some ⟨b7_37, 0, none⟩) w307)) ∧ (
  newB w292 (.cells (zeroC Tryz.prog T_api_Node) T_api_Node) fun b5_32 w308 =>
  cellsAt w308 ⟨b3, 5, none⟩ [.int .i64 x21_0, .string x21_1, .string x21_2, .slice x21_3p x21_3l x21_3c, .slice x21_4p x21_4l x21_4c, .string x21_5] ∧
  w308.cell? ⟨b3, 1, none⟩ = some (.slice x18p x18l x18c) ∧
  cellsAt w308 ⟨b2, 0, none⟩ [.int .i64 x14_0, .string x14_1, .string x14_2, .slice x14_3p x14_3l x14_3c, .slice x14_4p x14_4l x14_4c, .string x14_5] ∧
  newB w308 (.cells ⟨[]⟩ T_int) fun b16_12 w309 =>
  cellsAt w309 ⟨b3, 5, none⟩ [.int .i64 x21_0, .string x21_1, .string x21_2, .slice x21_3p x21_3l x21_3c, .slice x21_4p x21_4l x21_4c, .string x21_5] ∧
  w309.cell? ⟨b3, 1, none⟩ = some (.slice x18p x18l x18c) ∧
  cellsAt w309 ⟨b2, 0, none⟩ [.int .i64 x14_0, .string x14_1, .string x14_2, .slice x14_3p x14_3l x14_3c, .slice x14_4p x14_4l x14_4c, .string x14_5] ∧
  appJ Tryz.prog T_sl_int T_sl_int (.slice (some ⟨b16_12, 0, none⟩) 0 0) (.slice x18p x18l x18c) w309 fun q19_32p q19_32l q19_32c w310 =>
  cellsAt w310 ⟨b3, 5, none⟩ [.int .i64 x21_0, .string x21_1, .string x21_2, .slice x21_3p x21_3l x21_3c, .slice x21_4p x21_4l x21_4c, .string x21_5] ∧
  callJ Tryz.prog fn_ref05_Twin #[.agg ⟨[.int .i64 x21_0, .string x21_1, .string x21_2, .slice x21_3p x21_3l x21_3c, .slice x21_4p x21_4l x21_4c, .string x21_5]⟩] w310 [.agg [.int .i64, .str, .str, .slice, .slice, .str]] fun (r22_51_0 : Int) (r22_51_1 : ByteArray) (r22_51_2 : ByteArray) (r22_51_3p : Option Addr) (r22_51_3l : Nat) (r22_51_3c : Nat) (r22_51_4p : Option Addr) (r22_51_4l : Nat) (r22_51_4c : Nat) (r22_51_5 : ByteArray) (w311 : World) =>
  stN w311 ⟨b5_32, 0, none⟩ ⟨[.int .i64 r15_11_0, .string r15_11_1, .string r15_11_2, .slice r15_11_3p r15_11_3l r15_11_3c, .slice r15_11_4p r15_11_4l r15_11_4c, .string r15_11_5]⟩ 6 fun w312 =>
  stN w312 ⟨b7_37, 0, none⟩ ⟨[.int .i64 r22_51_0, .string r22_51_1, .string r22_51_2, .slice r22_51_3p r22_51_3l r22_51_3c, .slice r22_51_4p r22_51_4l r22_51_4c, .string r22_51_5]⟩ 6 fun w313 =>
  J_5 (some ⟨b5_32, 0, none⟩) q19_32p q19_32l q19_32c (some ⟨b7_37, 0, none⟩) w313)) ∧ (
  (
  newB w291 (.cells ⟨[]⟩ T_int) fun b16_13 w314 =>
  cellsAt w314 ⟨b3, 5, none⟩ [.int .i64 x21_0, .string x21_1, .string x21_2, .slice x21_3p x21_3l x21_3c, .slice x21_4p x21_4l x21_4c, .string x21_5] ∧
  w314.cell? ⟨b3, 1, none⟩ = some (.slice x18p x18l x18c) ∧
  cellsAt w314 ⟨b2, 0, none⟩ [.int .i64 x14_0, .string x14_1, .string x14_2, .slice x14_3p x14_3l x14_3c, .slice x14_4p x14_4l x14_4c, .string x14_5] ∧
  (
  callJ Tryz.prog fn_ref05_Twin #[.agg ⟨[.int .i64 x14_0, .string x14_1, .string x14_2, .slice x14_3p x14_3l x14_3c, .slice x14_4p x14_4l x14_4c, .string x14_5]⟩] w314 [.agg [.int .i64, .str, .str, .slice, .slice, .str]] fun (r15_12_0 : Int) (r15_12_1 : ByteArray) (r15_12_2 : ByteArray) (r15_12_3p : Option Addr) (r15_12_3l : Nat) (r15_12_3c : Nat) (r15_12_4p : Option Addr) (r15_12_4l : Nat) (r15_12_4c : Nat) (r15_12_5 : ByteArray) (w315 : World) =>
  cellsAt w315 ⟨b3, 5, none⟩ [.int .i64 x21_0, .string x21_1, .string x21_2, .slice x21_3p x21_3l x21_3c, .slice x21_4p x21_4l x21_4c, .string x21_5] ∧
  w315.cell? ⟨b3, 1, none⟩ = some (.slice x18p x18l x18c) ∧
  (
  appJ Tryz.prog T_sl_int T_sl_int (.slice (some ⟨b16_13, 0, none⟩) 0 0) (.slice x18p x18l x18c) w315 fun q19_33p q19_33l q19_33c w316 =>
  cellsAt w316 ⟨b3, 5, none⟩ [.int .i64 x21_0, .string x21_1, .string x21_2, .slice x21_3p x21_3l x21_3c, .slice x21_4p x21_4l x21_4c, .string x21_5] ∧
  (
  callJ Tryz.prog fn_ref05_Twin #[.agg ⟨[.int .i64 x21_0, .string x21_1, .string x21_2, .slice x21_3p x21_3l x21_3c, .slice x21_4p x21_4l x21_4c, .string x21_5]⟩] w316 [.agg [.int .i64, .str, .str, .slice, .slice, .str]] fun (r22_52_0 : Int) (r22_52_1 : ByteArray) (r22_52_2 : ByteArray) (r22_52_3p : Option Addr) (r22_52_3l : Nat) (r22_52_3c : Nat) (r22_52_4p : Option Addr) (r22_52_4l : Nat) (r22_52_4c : Nat) (r22_52_5 : ByteArray) (w317 : World) =>
  newB w317 (.cells (zeroC Tryz.prog T_api_Node) T_api_Node) fun b5_33 w318 =>
  cellsAt w318 ⟨b3, 5, none⟩ [.int .i64 x21_0, .string x21_1, .string x21_2, .slice x21_3p x21_3l x21_3c, .slice x21_4p x21_4l x21_4c, .string x21_5] ∧
  w318.cell? ⟨b3, 1, none⟩ = some (.slice x18p x18l x18c) ∧
  cellsAt w318 ⟨b2, 0, none⟩ [.int .i64 x14_0, .string x14_1, .string x14_2, .slice x14_3p x14_3l x14_3c, .slice x14_4p x14_4l x14_4c, .string x14_5] ∧
  stN w318 ⟨b5_33, 0, none⟩ ⟨[.int .i64 r15_12_0, .string r15_12_1, .string r15_12_2, .slice r15_12_3p r15_12_3l r15_12_3c, .slice r15_12_4p r15_12_4l r15_12_4c, .string r15_12_5]⟩ 6 fun w319 =>
  stN w319 ⟨b7_37, 0, none⟩ ⟨[.int .i64 r22_52_0, .string r22_52_1, .string r22_52_2, .slice r22_52_3p r22_52_3l r22_52_3c, .slice r22_52_4p r22_52_4l r22_52_4c, .string r22_52_5]⟩ 6 fun w320 =>
  J_5 (some ⟨b5_33, 0, none⟩) q19_33p q19_33l q19_33c (some ⟨b7_37, 0, none⟩) w320) ∧ (
  newB w316 (.cells (zeroC Tryz.prog T_api_Node) T_api_Node) fun b5_34 w321 =>
  cellsAt w321 ⟨b3, 5, none⟩ [.int .i64 x21_0, .string x21_1, .string x21_2, .slice x21_3p x21_3l x21_3c, .slice x21_4p x21_4l x21_4c, .string x21_5] ∧
  w321.cell? ⟨b3, 1, none⟩ = some (.slice x18p x18l x18c) ∧
  cellsAt w321 ⟨b2, 0, none⟩ [.int .i64 x14_0, .string x14_1, .string x14_2, .slice x14_3p x14_3l x14_3c, .slice x14_4p x14_4l x14_4c, .string x14_5] ∧
  callJ Tryz.prog fn_ref05_Twin #[.agg ⟨[.int .i64 x21_0, .string x21_1, .string x21_2, .slice x21_3p x21_3l x21_3c, .slice x21_4p x21_4l x21_4c, .string x21_5]⟩] w321 [.agg [.int .i64, .str, .str, .slice, .slice, .str]] fun (r22_53_0 : Int) (r22_53_1 : ByteArray) (r22_53_2 : ByteArray) (r22_53_3p : Option Addr) (r22_53_3l : Nat) (r22_53_3c : Nat) (r22_53_4p : Option Addr) (r22_53_4l : Nat) (r22_53_4c : Nat) (r22_53_5 : ByteArray) (w322 : World) =>
  stN w322 ⟨b5_34, 0, none⟩ ⟨[.int .i64 r15_12_0, .string r15_12_1, .string r15_12_2, .slice r15_12_3p r15_12_3l r15_12_3c, .slice r15_12_4p r15_12_4l r15_12_4c, .string r15_12_5]⟩ 6 fun w323 =>
  stN w323 ⟨b7_37, 0, none⟩ ⟨[.int .i64 r22_53_0, .string r22_53_1, .string r22_53_2, .slice r22_53_3p r22_53_3l r22_53_3c, .slice r22_53_4p r22_53_4l r22_53_4c, .string r22_53_5]⟩ 6 fun w324 =>
  J_5 (some ⟨b5_34, 0, none⟩) q19_33p q19_33l q19_33c (some ⟨b7_37, 0, none⟩) w324)) ∧ (
  newB w315 (.cells (zeroC Tryz.prog T_api_Node) T_api_Node) fun b5_35 w325 =>
  cellsAt w325 ⟨b3, 5, none⟩ [.int .i64 x21_0, .string x21_1, .string x21_2, .slice x21_3p x21_3l x21_3c, .slice x21_4p x21_4l x21_4c, .string x21_5] ∧
  w325.cell? ⟨b3, 1, none⟩ = some (.slice x18p x18l x18c) ∧
  cellsAt w325 ⟨b2, 0, none⟩ [.int .i64 x14_0, .string x14_1, .string x14_2, .slice x14_3p x14_3l x14_3c, .slice x14_4p x14_4l x14_4c, .string x14_5] ∧
  appJ Tryz.prog T_sl_int T_sl_int (.slice (some ⟨b16_13, 0, none⟩) 0 0) (.slice x18p x18l x18c) w325 fun q19_34p q19_34l q19_34c w326 =>
  cellsAt w326 ⟨b3, 5, none⟩ [.int .i64 x21_0, .string x21_1, .string x21_2, .slice x21_3p x21_3l x21_3c, .slice x21_4p x21_4l x21_4c, .string x21_5] ∧
  callJ Tryz.prog fn_ref05_Twin #[.agg ⟨[.int .i64 x21_0, .string x21_1, .string x21_2, .slice x21_3p x21_3l x21_3c, .slice x21_4p x21_4l x21_4c, .string x21_5]⟩] w326 [.agg [.int .i64, .str, .str, .slice, .slice, .str]] fun (r22_54_0 : Int) (r22_54_1 : ByteArray) (r22_54_2 : ByteArray) (r22_54_3p : Option Addr) (r22_54_3l : Nat) (r22_54_3c : Nat) (r22_54_4p : Option Addr) (r22_54_4l : Nat) (r22_54_4c : Nat) (r22_54_5 : ByteArray) (w327 : World) =>
  stN w327 ⟨b5_35, 0, none⟩ ⟨[.int .i64 r15_12_0, .string r15_12_1, .string r15_12_2, .slice r15_12_3p r15_12_3l r15_12_3c, .slice r15_12_4p r15_12_4l r15_12_4c, .string r15_12_5]⟩ 6 fun w328 =>
  stN w328 ⟨b7_37, 0, none⟩ ⟨[.int .i64 r22_54_0, .string r22_54_1, .string r22_54_2, .slice r22_54_3p r22_54_3l r22_54_3c, .slice r22_54_4p r22_54_4l r22_54_4c, .string r22_54_5]⟩ 6 fun w329 =>
  J_5 (some ⟨b5_35, 0, none⟩) q19_34p q19_34l q19_34c (some ⟨b7_37, 0, none⟩) w329)) ∧ (
  newB w314 (.cells (zeroC Tryz.prog T_api_Node) T_api_Node) fun b5_36 w330 =>
  cellsAt w330 ⟨b3, 5, none⟩ [.int .i64 x21_0, .string x21_1, .string x21_2, .slice x21_3p x21_3l x21_3c, .slice x21_4p x21_4l x21_4c, .string x21_5] ∧
  w330.cell? ⟨b3, 1, none⟩ = some (.slice x18p x18l x18c) ∧
  cellsAt w330 ⟨b2, 0, none⟩ [.int .i64 x14_0, .string x14_1, .string x14_2, .slice x14_3p x14_3l x14_3c, .slice x14_4p x14_4l x14_4c, .string x14_5] ∧
  callJ Tryz.prog fn_ref05_Twin #[.agg ⟨[.int .i64 x14_0, .string x14_1, .string x14_2, .slice x14_3p x14_3l x14_3c, .slice x14_4p x14_4l x14_4c, .string x14_5]⟩] w330 [.agg [.int .i64, .str, .str, .slice, .slice, .str]] fun (r15_13_0 : Int) (r15_13_1 : ByteArray) (r15_13_2 : ByteArray) (r15_13_3p : Option Addr) (r15_13_3l : Nat) (r15_13_3c : Nat) (r15_13_4p : Option Addr) (r15_13_4l : Nat) (r15_13_4c : Nat) (r15_13_5 : ByteArray) (w331 : World) =>
  cellsAt w331 ⟨b3, 5, none⟩ [.int .i64 x21_0, .string x21_1, .string x21_2, .slice x21_3p x21_3l x21_3c, .slice x21_4p x21_4l x21_4c, .string x21_5] ∧
  w331.cell? ⟨b3, 1, none⟩ = some (.slice x18p x18l x18c) ∧
  appJ Tryz.prog T_sl_int T_sl_int (.slice (some ⟨b16_13, 0, none⟩) 0 0) (.slice x18p x18l x18c) w331 fun q19_35p q19_35l q19_35c w332 =>
  cellsAt w332 ⟨b3, 5, none⟩ [.int .i64 x21_0, .string x21_1, .string x21_2, .slice x21_3p x21_3l x21_3c, .slice x21_4p x21_4l x21_4c, .string x21_5] ∧
  callJ Tryz.prog fn_ref05_Twin #[.agg ⟨[.int .i64 x21_0, .string x21_1, .string x21_2, .slice x21_3p x21_3l x21_3c, .slice x21_4p x21_4l x21_4c, .string x21_5]⟩] w332 [.agg [.int .i64, .str, .str, .slice, .slice, .str]] fun (r22_55_0 : Int) (r22_55_1 : ByteArray) (r22_55_2 : ByteArray) (r22_55_3p : Option Addr) (r22_55_3l : Nat) (r22_55_3c : Nat) (r22_55_4p : Option Addr) (r22_55_4l : Nat) (r22_55_4c : Nat) (r22_55_5 : ByteArray) (w333 : World) =>
  stN w333 ⟨b5_36, 0, none⟩ ⟨[.int .i64 r15_13_0, .string r15_13_1, .string r15_13_2, .slice r15_13_3p r15_13_3l r15_13_3c, .slice r15_13_4p r15_13_4l r15_13_4c, .string r15_13_5]⟩ 6 fun w334 =>
  stN w334 ⟨b7_37, 0, none⟩ ⟨[.int .i64 r22_55_0, .string r22_55_1, .string r22_55_2, .slice r22_55_3p r22_55_3l r22_55_3c, .slice r22_55_4p r22_55_4l r22_55_4c, .string r22_55_5]⟩ 6 fun w335 =>
  J_5 (some ⟨b5_36, 0, none⟩) q19_35p q19_35l q19_35c (some ⟨b7_37, 0, none⟩) w335)) ∧ (
  newB w291 (.cells (zeroC Tryz.prog T_api_Node) T_api_Node) fun b5_37 w336 =>
  cellsAt w336 ⟨b3, 5, none⟩ [.int .i64 x21_0, .string x21_1, .string x21_2, .slice x21_3p x21_3l x21_3c, .slice x21_4p x21_4l x21_4c, .string x21_5] ∧
  w336.cell? ⟨b3, 1, none⟩ = some (.slice x18p x18l x18c) ∧
  cellsAt w336 ⟨b2, 0, none⟩ [.int .i64 x14_0, .string x14_1, .string x14_2, .slice x14_3p x14_3l x14_3c, .slice x14_4p x14_4l x14_4c, .string x14_5] ∧
  (
  callJ Tryz.prog fn_ref05_Twin #[.agg ⟨[.int .i64 x14_0, .string x14_1, .string x14_2, .slice x14_3p x14_3l x14_3c, .slice x14_4p x14_4l x14_4c, .string x14_5]⟩] w336 [.agg [.int .i64, .str, .str, .slice, .slice, .str]] fun (r15_14_0 : Int) (r15_14_1 : ByteArray) (r15_14_2 : ByteArray) (r15_14_3p : Option Addr) (r15_14_3l : Nat) (r15_14_3c : Nat) (r15_14_4p : Option Addr) (r15_14_4l : Nat) (r15_14_4c : Nat) (r15_14_5 : ByteArray) (w337 : World) =>
  cellsAt w337 ⟨b3, 5, none⟩ [.int .i64 x21_0, .string x21_1, .string x21_2, .slice x21_3p x21_3l x21_3c, .slice x21_4p x21_4l x21_4c, .string x21_5] ∧
  w337.cell? ⟨b3, 1, none⟩ = some (.slice x18p x18l x18c) ∧
  newB w337 (.cells ⟨[]⟩ T_int) fun b16_14 w338 =>
  cellsAt w338 ⟨b3, 5, none⟩ [.int .i64 x21_0, .string x21_1, .string x21_2, .slice x21_3p x21_3l x21_3c, .slice x21_4p x21_4l x21_4c, .string x21_5] ∧
  w338.cell? ⟨b3, 1, none⟩ = some (.slice x18p x18l x18c) ∧
  cellsAt w338 ⟨b2, 0, none⟩ [.int .i64 x14_0, .string x14_1, .string x14_2, .slice x14_3p x14_3l x14_3c, .slice x14_4p x14_4l x14_4c, .string x14_5] ∧
  appJ Tryz.prog T_sl_int T_sl_int (.slice (some ⟨b16_14, 0, none⟩) 0 0) (.slice x18p x18l x18c) w338 fun q19_36p q19_36l q19_36c w339 =>
  cellsAt w339 ⟨b3, 5, none⟩ [.int .i64 x21_0, .string x21_1, .string x21_2, .slice x21_3p x21_3l x21_3c, .slice x21_4p x21_4l x21_4c, .string x21_5] ∧
  callJ Tryz.prog fn_ref05_Twin #[.agg ⟨[.int .i64 x21_0, .string x21_1, .string x21_2, .slice x21_3p x21_3l x21_3c, .slice x21_4p x21_4l x21_4c, .string x21_5]⟩] w339 [.agg [.int .i64, .str, .str, .slice, .slice, .str]] fun (r22_56_0 : Int) (r22_56_1 : ByteArray) (r22_56_2 : ByteArray) (r22_56_3p : Option Addr) (r22_56_3l : Nat) (r22_56_3c : Nat) (r22_56_4p : Option Addr) (r22_56_4l : Nat) (r22_56_4c : Nat) (r22_56_5 : ByteArray) (w340 : World) =>
  stN w340 ⟨b5_37, 0, none⟩ ⟨[.int .i64 r15_14_0, .string r15_14_1, .string r15_14_2, .slice r15_14_3p r15_14_3l r15_14_3c, .slice r15_14_4p r15_14_4l r15_14_4c, .string r15_14_5]⟩ 6 fun w341 =>
  stN w341 ⟨b7_37, 0, none⟩ ⟨[.int .i64 r22_56_0, .string r22_56_1, .string r22_56_2, .slice r22_56_3p r22_56_3l r22_56_3c, .slice r22_56_4p r22_56_4l r22_56_4c, .string r22_56_5]⟩ 6 fun w342 =>
  J_5 (some ⟨b5_37, 0, none⟩) q19_36p q19_36l q19_36c (some ⟨b7_37, 0, none⟩) w342) ∧ (
  newB w336 (.cells ⟨[]⟩ T_int) fun b16_15 w343 =>
  cellsAt w343 ⟨b3, 5, none⟩ [.int .i64 x21_0, .string x21_1, .string x21_2, .slice x21_3p x21_3l x21_3c, .slice x21_4p x21_4l x21_4c, .string x21_5] ∧
  w343.cell? ⟨b3, 1, none⟩ = some (.slice x18p x18l x18c) ∧
  cellsAt w343 ⟨b2, 0, none⟩ [.int .i64 x14_0, .string x14_1, .string x14_2, .slice x14_3p x14_3l x14_3c, .slice x14_4p x14_4l x14_4c, .string x14_5] ∧
  callJ Tryz.prog fn_ref05_Twin #[.agg ⟨[.int .i64 x14_0, .string x14_1, .string x14_2, .slice x14_3p x14_3l x14_3c, .slice x14_4p x14_4l x14_4c, .string x14_5]⟩] w343 [.agg [.int .i64, .str, .str, .slice, .slice, .str]] fun (r15_15_0 : Int) (r15_15_1 : ByteArray) (r15_15_2 : ByteArray) (r15_15_3p : Option Addr) (r15_15_3l : Nat) (r15_15_3c : Nat) (r15_15_4p : Option Addr) (r15_15_4l : Nat) (r15_15_4c : Nat) (r15_15_5 : ByteArray) (w344 : World) =>
  cellsAt w344 ⟨b3, 5, none⟩ [.int .i64 x21_0, .string x21_1, .string x21_2, .slice x21_3p x21_3l x21_3c, .slice x21_4p x21_4l x21_4c, .string x21_5] ∧
  w344.cell? ⟨b3, 1, none⟩ = some (.slice x18p x18l x18c) ∧
  appJ Tryz.prog T_sl_int T_sl_int (.slice (some ⟨b16_15, 0, none⟩) 0 0) (.slice x18p x18l x18c) w344 fun q19_37p q19_37l q19_37c w345 =>
  cellsAt w345 ⟨b3, 5, none⟩ [.int .i64 x21_0, .string x21_1, .string x21_2, .slice x21_3p x21_3l x21_3c, .slice x21_4p x21_4l x21_4c, .string x21_5] ∧
  callJ Tryz.prog fn_ref05_Twin #[.agg ⟨[.int .i64 x21_0, .string x21_1, .string x21_2, .slice x21_3p x21_3l x21_3c, .slice x21_4p x21_4l x21_4c, .string x21_5]⟩] w345 [.agg [.int .i64, .str, .str, .slice, .slice, .str]] fun (r22_57_0 : Int) (r22_57_1 : ByteArray) (r22_57_2 : ByteArray) (r22_57_3p : Option Addr) (r22_57_3l : Nat) (r22_57_3c : Nat) (r22_57_4p : Option Addr) (r22_57_4l : Nat) (r22_57_4c : Nat) (r22_57_5 : ByteArray) (w346 : World) =>
  stN w346 ⟨b5_37, 0, none⟩ ⟨[.int .i64 r15_15_0, .string r15_15_1, .string r15_15_2, .slice r15_15_3p r15_15_3l r15_15_3c, .slice r15_15_4p r15_15_4l r15_15_4c, .string r15_15_5]⟩ 6 fun w347 =>
  stN w347 ⟨b7_37, 0, none⟩ ⟨[.int .i64 r22_57_0, .string r22_57_1, .string r22_57_2, .slice r22_57_3p r22_57_3l r22_57_3c, .slice r22_57_4p r22_57_4l r22_57_4c, .string r22_57_5]⟩ 6 fun w348 =>
  J_5 (some ⟨b5_37, 0, none⟩) q19_37p q19_37l q19_37c (some ⟨b7_37, 0, none⟩) w348)))))))
def ann_law09_EditApplies : Ann := .s (.o) (.s (.s (.o) (.c (.s (.o) (.o)) (.o))) (.j [(5, .ptr), (6, .slice), (7, .ptr)] (.d (.take 0 (.take 3 (.take 4 (.take 6 (.take 7 (.eff 1 (.eff 2 (.eff 5 (.eff 8 (.eff 9 (.eff 10 (.eff 11 (.take 12 (.eff 13 (.done) (.none))) (.none)) (.none)) (.eff 10 (.eff 9 (.eff 11 (.take 12 (.eff 13 (.done) (.none))) (.none)) (.none)) (.none))) (.eff 9 (.eff 8 (.eff 10 (.eff 11 (.take 12 (.eff 13 (.done) (.none))) (.none)) (.none)) (.eff 10 (.eff 8 (.eff 11 (.take 12 (.eff 13 (.done) (.none))) (.none)) (.none)) (.none))) (.eff 10 (.eff 8 (.eff 9 (.eff 11 (.take 12 (.eff 13 (.done) (.none))) (.none)) (.none)) (.eff 9 (.eff 8 (.eff 11 (.take 12 (.eff 13 (.done) (.none))) (.none)) (.none)) (.none))) (.none)))) (.eff 9 (.eff 5 (.eff 8 (.eff 10 (.eff 11 (.take 12 (.eff 13 (.done) (.none))) (.none)) (.none)) (.eff 10 (.eff 8 (.eff 11 (.take 12 (.eff 13 (.done) (.none))) (.none)) (.none)) (.none))) (.eff 10 (.eff 5 (.eff 8 (.eff 11 (.take 12 (.eff 13 (.done) (.none))) (.none)) (.none)) (.none)) (.none))) (.eff 10 (.eff 5 (.eff 8 (.eff 9 (.eff 11 (.take 12 (.eff 13 (.done) (.none))) (.none)) (.none)) (.eff 9 (.eff 8 (.eff 11 (.take 12 (.eff 13 (.done) (.none))) (.none)) (.none)) (.none))) (.eff 9 (.eff 5 (.eff 8 (.eff 11 (.take 12 (.eff 13 (.done) (.none))) (.none)) (.none)) (.none)) (.none))) (.none)))) (.eff 9 (.eff 2 (.eff 5 (.eff 8 (.eff 10 (.eff 11 (.take 12 (.eff 13 (.done) (.none))) (.none)) (.none)) (.eff 10 (.eff 8 (.eff 11 (.take 12 (.eff 13 (.done) (.none))) (.none)) (.none)) (.none))) (.eff 10 (.eff 5 (.eff 8 (.eff 11 (.take 12 (.eff 13 (.done) (.none))) (.none)) (.none)) (.none)) (.none))) (.eff 10 (.eff 2 (.eff 5 (.eff 8 (.eff 11 (.take 12 (.eff 13 (.done) (.none))) (.none)) (.none)) (.none)) (.none)) (.none))) (.eff 10 (.eff 2 (.eff 5 (.eff 8 (.eff 9 (.eff 11 (.take 12 (.eff 13 (.done) (.none))) (.none)) (.none)) (.eff 9 (.eff 8 (.eff 11 (.take 12 (.eff 13 (.done) (.none))) (.none)) (.none)) (.none))) (.eff 9 (.eff 5 (.eff 8 (.eff 11 (.take 12 (.eff 13 (.done) (.none))) (.none)) (.none)) (.none)) (.none))) (.eff 9 (.eff 2 (.eff 5 (.eff 8 (.eff 11 (.take 12 (.eff 13 (.done) (.none))) (.none)) (.none)) (.none)) (.none)) (.none))) (.none)))) (.eff 2 (.eff 1 (.eff 5 (.eff 8 (.eff 9 (.eff 10 (.eff 11 (.take 12 (.eff 13 (.done) (.none))) (.none)) (.none)) (.eff 10 (.eff 9 (.eff 11 (.take 12 (.eff 13 (.done) (.none))) (.none)) (.none)) (.none))) (.eff 9 (.eff 8 (.eff 10 (.eff 11 (.take 12 (.eff 13 (.done) (.none))) (.none)) (.none)) (.eff 10 (.eff 8 (.eff 11 (.take 12 (.eff 13 (.done) (.none))) (.none)) (.none)) (.none))) (.eff 10 (.eff 8 (.eff 9 (.eff 11 (.take 12 (.eff 13 (.done) (.none))) (.none)) (.none)) (.eff 9 (.eff 8 (.eff 11 (.take 12 (.eff 13 (.done) (.none))) (.none)) (.none)) (.none))) (.none)))) (.eff 9 (.eff 5 (.eff 8 (.eff 10 (.eff 11 (.take 12 (.eff 13 (.done) (.none))) (.none)) (.none)) (.eff 10 (.eff 8 (.eff 11 (.take 12 (.eff 13 (.done) (.none))) (.none)) (.none)) (.none))) (.eff 10 (.eff 5 (.eff 8 (.eff 11 (.take 12 (.eff 13 (.done) (.none))) (.none)) (.none)) (.none)) (.none))) (.eff 10 (.eff 5 (.eff 8 (.eff 9 (.eff 11 (.take 12 (.eff 13 (.done) (.none))) (.none)) (.none)) (.eff 9 (.eff 8 (.eff 11 (.take 12 (.eff 13 (.done) (.none))) (.none)) (.none)) (.none))) (.eff 9 (.eff 5 (.eff 8 (.eff 11 (.take 12 (.eff 13 (.done) (.none))) (.none)) (.none)) (.none)) (.none))) (.none)))) (.eff 9 (.eff 1 (.eff 5 (.eff 8 (.eff 10 (.eff 11 (.take 12 (.eff 13 (.done) (.none))) (.none)) (.none)) (.eff 10 (.eff 8 (.eff 11 (.take 12 (.eff 13 (.done) (.none))) (.none)) (.none)) (.none))) (.eff 10 (.eff 5 (.eff 8 (.eff 11 (.take 12 (.eff 13 (.done) (.none))) (.none)) (.none)) (.none)) (.none))) (.eff 10 (.eff 1 (.eff 5 (.eff 8 (.eff 11 (.take 12 (.eff 13 (.done) (.none))) (.none)) (.none)) (.none)) (.none)) (.none))) (.eff 10 (.eff 1 (.eff 5 (.eff 8 (.eff 9 (.eff 11 (.take 12 (.eff 13 (.done) (.none))) (.none)) (.none)) (.eff 9 (.eff 8 (.eff 11 (.take 12 (.eff 13 (.done) (.none))) (.none)) (.none)) (.none))) (.eff 9 (.eff 5 (.eff 8 (.eff 11 (.take 12 (.eff 13 (.done) (.none))) (.none)) (.none)) (.none)) (.none))) (.eff 9 (.eff 1 (.eff 5 (.eff 8 (.eff 11 (.take 12 (.eff 13 (.done) (.none))) (.none)) (.none)) (.none)) (.none)) (.none))) (.none)))) (.eff 9 (.eff 1 (.eff 2 (.eff 5 (.eff 8 (.eff 10 (.eff 11 (.take 12 (.eff 13 (.done) (.none))) (.none)) (.none)) (.eff 10 (.eff 8 (.eff 11 (.take 12 (.eff 13 (.done) (.none))) (.none)) (.none)) (.none))) (.eff 10 (.eff 5 (.eff 8 (.eff 11 (.take 12 (.eff 13 (.done) (.none))) (.none)) (.none)) (.none)) (.none))) (.eff 10 (.eff 2 (.eff 5 (.eff 8 (.eff 11 (.take 12 (.eff 13 (.done) (.none))) (.none)) (.none)) (.none)) (.none)) (.none))) (.eff 2 (.eff 1 (.eff 5 (.eff 8 (.eff 10 (.eff 11 (.take 12 (.eff 13 (.done) (.none))) (.none)) (.none)) (.eff 10 (.eff 8 (.eff 11 (.take 12 (.eff 13 (.done) (.none))) (.none)) (.none)) (.none))) (.eff 10 (.eff 5 (.eff 8 (.eff 11 (.take 12 (.eff 13 (.done) (.none))) (.none)) (.none)) (.none)) (.none))) (.eff 10 (.eff 1 (.eff 5 (.eff 8 (.eff 11 (.take 12 (.eff 13 (.done) (.none))) (.none)) (.none)) (.none)) (.none)) (.none))) (.eff 10 (.eff 1 (.eff 2 (.eff 5 (.eff 8 (.eff 11 (.take 12 (.eff 13 (.done) (.none))) (.none)) (.none)) (.none)) (.none)) (.eff 2 (.eff 1 (.eff 5 (.eff 8 (.eff 11 (.take 12 (.eff 13 (.done) (.none))) (.none)) (.none)) (.none)) (.none)) (.none))) (.none)))) (.eff 10 (.eff 1 (.eff 2 (.eff 5 (.eff 8 (.eff 9 (.eff 11 (.take 12 (.eff 13 (.done) (.none))) (.none)) (.none)) (.eff 9 (.eff 8 (.eff 11 (.take 12 (.eff 13 (.done) (.none))) (.none)) (.none)) (.none))) (.eff 9 (.eff 5 (.eff 8 (.eff 11 (.take 12 (.eff 13 (.done) (.none))) (.none)) (.none)) (.none)) (.none))) (.eff 9 (.eff 2 (.eff 5 (.eff 8 (.eff 11 (.take 12 (.eff 13 (.done) (.none))) (.none)) (.none)) (.none)) (.none)) (.none))) (.eff 2 (.eff 1 (.eff 5 (.eff 8 (.eff 9 (.eff 11 (.take 12 (.eff 13 (.done) (.none))) (.none)) (.none)) (.eff 9 (.eff 8 (.eff 11 (.take 12 (.eff 13 (.done) (.none))) (.none)) (.none)) (.none))) (.eff 9 (.eff 5 (.eff 8 (.eff 11 (.take 12 (.eff 13 (.done) (.none))) (.none)) (.none)) (.none)) (.none))) (.eff 9 (.eff 1 (.eff 5 (.eff 8 (.eff 11 (.take 12 (.eff 13 (.done) (.none))) (.none)) (.none)) (.none)) (.none)) (.none))) (.eff 9 (.eff 1 (.eff 2 (.eff 5 (.eff 8 (.eff 11 (.take 12 (.eff 13 (.done) (.none))) (.none)) (.none)) (.none)) (.none)) (.eff 2 (.eff 1 (.eff 5 (.eff 8 (.eff 11 (.take 12 (.eff 13 (.done) (.none))) (.none)) (.none)) (.none)) (.none)) (.none))) (.none)))) (.none))))))))))) (.s (.o) (.j [(10, .ptr), (11, .int .i64)] (.d (.take 0 (.take 1 (.eff 2 (.eff 3 (.take 4 (.take 5 (.take 6 (.eff 7 (.eff 8 (.take 9 (.done)) (.none)) (.none))))) (.eff 7 (.eff 3 (.take 4 (.take 5 (.take 6 (.eff 8 (.take 9 (.done)) (.none))))) (.none)) (.none))) (.eff 7 (.eff 2 (.eff 3 (.take 4 (.take 5 (.take 6 (.eff 8 (.take 9 (.done)) (.none))))) (.none)) (.none)) (.none)))))) (.j [(4, .bool)] (.o) (.o))))))
theorem eq_law09_EditApplies (d0_0 : Int) (d0_1 : ByteArray) (d0_2 : ByteArray) (d0_3p : Option Addr) (d0_3l : Nat) (d0_3c : Nat) (d0_4p : Option Addr) (d0_4l : Nat) (d0_4c : Nat) (d0_5 : ByteArray) (e1_0 : Int) (e1_1p : Option Addr) (e1_1l : Nat) (e1_1c : Nat) (e1_2 : ByteArray) (e1_3 : ByteArray) (e1_4 : ByteArray) (e1_5 : Int) (e1_6 : ByteArray) (e1_7 : ByteArray) (e1_8p : Option Addr) (e1_8l : Nat) (e1_8c : Nat) (e1_9p : Option Addr) (e1_9l : Nat) (e1_9c : Nat) (e1_10 : ByteArray) (w : World) (J : Bool → World → Prop) : vcFun Tryz.prog Tryz.f3 ann_law09_EditApplies [.one .bool] [.agg ⟨[.int .i64 d0_0, .string d0_1, .string d0_2, .slice d0_3p d0_3l d0_3c, .slice d0_4p d0_4l d0_4c, .string d0_5]⟩, .agg ⟨[.int .i64 e1_0, .slice e1_1p e1_1l e1_1c, .string e1_2, .string e1_3, .string e1_4, .int .i64 e1_5, .string e1_6, .string e1_7, .slice e1_8p e1_8l e1_8c, .slice e1_9p e1_9l e1_9c, .string e1_10]⟩] w J = VC_law09_EditApplies d0_0 d0_1 d0_2 d0_3p d0_3l d0_3c d0_4p d0_4l d0_4c d0_5 e1_0 e1_1p e1_1l e1_1c e1_2 e1_3 e1_4 e1_5 e1_6 e1_7 e1_8p e1_8l e1_8c e1_9p e1_9l e1_9c e1_10 w J := by kernel_rfl
theorem c_law09_EditApplies {d0_0 : Int} {d0_1 : ByteArray} {d0_2 : ByteArray} {d0_3p : Option Addr} {d0_3l : Nat} {d0_3c : Nat} {d0_4p : Option Addr} {d0_4l : Nat} {d0_4c : Nat} {d0_5 : ByteArray} {e1_0 : Int} {e1_1p : Option Addr} {e1_1l : Nat} {e1_1c : Nat} {e1_2 : ByteArray} {e1_3 : ByteArray} {e1_4 : ByteArray} {e1_5 : Int} {e1_6 : ByteArray} {e1_7 : ByteArray} {e1_8p : Option Addr} {e1_8l : Nat} {e1_8c : Nat} {e1_9p : Option Addr} {e1_9l : Nat} {e1_9c : Nat} {e1_10 : ByteArray} {w : World} {J : Bool → World → Prop} (h : VC_law09_EditApplies d0_0 d0_1 d0_2 d0_3p d0_3l d0_3c d0_4p d0_4l d0_4c d0_5 e1_0 e1_1p e1_1l e1_1c e1_2 e1_3 e1_4 e1_5 e1_6 e1_7 e1_8p e1_8l e1_8c e1_9p e1_9l e1_9c e1_10 w J) : callJ Tryz.prog fn_law09_EditApplies #[.agg ⟨[.int .i64 d0_0, .string d0_1, .string d0_2, .slice d0_3p d0_3l d0_3c, .slice d0_4p d0_4l d0_4c, .string d0_5]⟩, .agg ⟨[.int .i64 e1_0, .slice e1_1p e1_1l e1_1c, .string e1_2, .string e1_3, .string e1_4, .int .i64 e1_5, .string e1_6, .string e1_7, .slice e1_8p e1_8l e1_8c, .slice e1_9p e1_9l e1_9c, .string e1_10]⟩] w [.one .bool] J := vc_calls Tryz.func3 ann_law09_EditApplies (Eq.mpr (eq_law09_EditApplies d0_0 d0_1 d0_2 d0_3p d0_3l d0_3c d0_4p d0_4l d0_4c d0_5 e1_0 e1_1p e1_1l e1_1c e1_2 e1_3 e1_4 e1_5 e1_6 e1_7 e1_8p e1_8l e1_8c e1_9p e1_9l e1_9c e1_10 w J) h)

end Go.Proofs.YtkgfbphdmnapdaaGreatDoor
