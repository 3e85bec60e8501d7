/- What the conditions of these functions are, reckoned by the reading; printed by program. -/
import Derived.Test.YtmmfookfpdcohaaGreatDoorNm
import Derived.KernelRfl
set_option maxRecDepth 100000
set_option linter.unusedVariables false
namespace Go.Proofs.YtmmfookfpdcohaaGreatDoor
open Go Go.Vc

/-- lectern/lecternlaw05.TreeWalks -/
def VC_law05_TreeWalks (n0_0 : Int) (n0_1 : ByteArray) (n0_2 : ByteArray) (n0_3p : Option Addr) (n0_3l : Nat) (n0_3c : Nat) (n0_4p : Option Addr) (n0_4l : Nat) (n0_4c : Nat) (n0_5 : ByteArray) (most1 : Int) (w : World) (J : Bool → World → Prop) : Prop :=
  newB w (.cells ⟨[.int .i64 n0_0, .string n0_1, .string n0_2, .slice n0_3p n0_3l n0_3c, .slice n0_4p n0_4l n0_4c, .string n0_5]⟩ T_api_Node) fun b2 w1 =>
  newB w1 (.cells #[.int .i64 most1] T_int) fun b3 w2 =>
  callJ Tryz.prog fn_law05_awake #[] w2 [.one .bool] fun (r12 : Bool) (w3 : World) =>
  condB (!r12) (
  J false w3) (
  ldI .i64 w3 ⟨b2, 0, none⟩ fun x14_0 =>
  ldStr w3 ⟨b2, 1, none⟩ fun x14_1 =>
  ldStr w3 ⟨b2, 2, none⟩ fun x14_2 =>
  ldS w3 ⟨b2, 3, none⟩ fun x14_3p x14_3l x14_3c =>
  ldS w3 ⟨b2, 4, none⟩ fun x14_4p x14_4l x14_4c =>
  ldStr w3 ⟨b2, 5, none⟩ fun x14_5 =>
  callJ Tryz.prog fn_ref05_Small #[.agg ⟨[.int .i64 x14_0, .string x14_1, .string x14_2, .slice x14_3p x14_3l x14_3c, .slice x14_4p x14_4l x14_4c, .string x14_5]⟩, .int .i64 (300 : Int)] w3 [.one .bool] fun (r15 : Bool) (w4 : World) =>
  condB (!r15) (
  J true w4) (
  ldI .i64 w4 ⟨b2, 0, none⟩ fun x17_0 =>
  ldStr w4 ⟨b2, 1, none⟩ fun x17_1 =>
  ldStr w4 ⟨b2, 2, none⟩ fun x17_2 =>
  ldS w4 ⟨b2, 3, none⟩ fun x17_3p x17_3l x17_3c =>
  ldS w4 ⟨b2, 4, none⟩ fun x17_4p x17_4l x17_4c =>
  ldStr w4 ⟨b2, 5, none⟩ fun x17_5 =>
  callJ Tryz.prog fn_tree_All #[.agg ⟨[.int .i64 x17_0, .string x17_1, .string x17_2, .slice x17_3p x17_3l x17_3c, .slice x17_4p x17_4l x17_4c, .string x17_5]⟩] w4 [.one .val] fun (r18 : Value) (w5 : World) =>
  isFn r18 ∧
  withJ (fun (paths6 : Option Addr) (nodes7 : Option Addr) (w6 : World) =>
  ldI .i64 w6 ⟨b2, 0, none⟩ fun x25_0 =>
  ldStr w6 ⟨b2, 1, none⟩ fun x25_1 =>
  ldStr w6 ⟨b2, 2, none⟩ fun x25_2 =>
  ldS w6 ⟨b2, 3, none⟩ fun x25_3p x25_3l x25_3c =>
  ldS w6 ⟨b2, 4, none⟩ fun x25_4p x25_4l x25_4c =>
  ldStr w6 ⟨b2, 5, none⟩ fun x25_5 =>
  callJ Tryz.prog fn_ref05_Twin #[.agg ⟨[.int .i64 x25_0, .string x25_1, .string x25_2, .slice x25_3p x25_3l x25_3c, .slice x25_4p x25_4l x25_4c, .string x25_5]⟩] w6 [.agg [.int .i64, .str, .str, .slice, .slice, .str]] fun (r26_0 : Int) (r26_1 : ByteArray) (r26_2 : ByteArray) (r26_3p : Option Addr) (r26_3l : Nat) (r26_3c : Nat) (r26_4p : Option Addr) (r26_4l : Nat) (r26_4c : Nat) (r26_5 : ByteArray) (w7 : World) =>
  newB w7 (.cells (zeroC Tryz.prog T_api_Node) T_api_Node) fun b8 w8 =>
  stN w8 ⟨b8, 0, none⟩ ⟨[.int .i64 r26_0, .string r26_1, .string r26_2, .slice r26_3p r26_3l r26_3c, .slice r26_4p r26_4l r26_4c, .string r26_5]⟩ 6 fun w9 =>
  newB w9 (.cells (zeroC Tryz.prog T_int) T_int) fun b9 w10 =>
  newB w10 (.cells (zeroC Tryz.prog T_bool) T_bool) fun b10 w11 =>
  stV w11 ⟨b9, 0, none⟩ (.int .i64 (0 : Int)) fun w12 =>
  stV w12 ⟨b10, 0, none⟩ (.bool true) fun w13 =>
  callVal Tryz.prog r18 [.func (.func 15) #[] #[.pointer (some ⟨b9, 0, none⟩), .pointer nodes7, .pointer paths6, .pointer (some ⟨b10, 0, none⟩), .pointer (some ⟨b3, 0, none⟩)]] w13 [] fun (w14 : World) =>
  nonNil nodes7 fun a30 =>
  ldS w14 a30 fun x30p x30l x30c =>
  withJ (fun (want11 : Int) (w15 : World) =>
  withJ (fun (x4 : Bool) (w16 : World) =>
  J x4 w16) fun J_4 =>
  ldB w15 ⟨b10, 0, none⟩ fun x40 =>
  condB x40 (
  ldI .i64 w15 ⟨b9, 0, none⟩ fun x42 =>
  condB (x42 == want11) (
  ldI .i64 w15 ⟨b2, 0, none⟩ fun x47_0 =>
  ldStr w15 ⟨b2, 1, none⟩ fun x47_1 =>
  ldStr w15 ⟨b2, 2, none⟩ fun x47_2 =>
  ldS w15 ⟨b2, 3, none⟩ fun x47_3p x47_3l x47_3c =>
  ldS w15 ⟨b2, 4, none⟩ fun x47_4p x47_4l x47_4c =>
  ldStr w15 ⟨b2, 5, none⟩ fun x47_5 =>
  ldI .i64 w15 ⟨b8, 0, none⟩ fun x48_0 =>
  ldStr w15 ⟨b8, 1, none⟩ fun x48_1 =>
  ldStr w15 ⟨b8, 2, none⟩ fun x48_2 =>
  ldS w15 ⟨b8, 3, none⟩ fun x48_3p x48_3l x48_3c =>
  ldS w15 ⟨b8, 4, none⟩ fun x48_4p x48_4l x48_4c =>
  ldStr w15 ⟨b8, 5, none⟩ fun x48_5 =>
  callJ Tryz.prog fn_ref05_Same #[.agg ⟨[.int .i64 x47_0, .string x47_1, .string x47_2, .slice x47_3p x47_3l x47_3c, .slice x47_4p x47_4l x47_4c, .string x47_5]⟩, .agg ⟨[.int .i64 x48_0, .string x48_1, .string x48_2, .slice x48_3p x48_3l x48_3c, .slice x48_4p x48_4l x48_4c, .string x48_5]⟩] w15 [.one .bool] fun (r49 : Bool) (w17 : World) =>
  J_4 r49 w17) (
  J_4 false w15)) (
  J_4 false w15)) fun J_11 =>
  withJ (fun (x38 : Bool) (w18 : World) =>
  condB x38 (
  ldI .i64 w18 ⟨b3, 0, none⟩ fun x39 =>
  J_11 x39 w18) (
  J_11 ((x30l : Nat) : Int) w18)) fun J_38 =>
  ldI .i64 w14 ⟨b3, 0, none⟩ fun x32 =>
  condB (decide (x32 > (0 : Int))) (
  ldI .i64 w14 ⟨b3, 0, none⟩ fun x35 =>
  J_38 (decide (x35 < ((x30l : Nat) : Int))) w14) (
  J_38 false w14)) fun J_6 =>
  ldI .i64 w5.drew ⟨b2, 0, none⟩ fun x21_0 =>
  ldStr w5.drew ⟨b2, 1, none⟩ fun x21_1 =>
  ldStr w5.drew ⟨b2, 2, none⟩ fun x21_2 =>
  ldS w5.drew ⟨b2, 3, none⟩ fun x21_3p x21_3l x21_3c =>
  ldS w5.drew ⟨b2, 4, none⟩ fun x21_4p x21_4l x21_4c =>
  ldStr w5.drew ⟨b2, 5, none⟩ fun x21_5 =>
  ldI .i64 w5.drew ⟨b2, 0, none⟩ fun x23_0 =>
  ldStr w5.drew ⟨b2, 1, none⟩ fun x23_1 =>
  ldStr w5.drew ⟨b2, 2, none⟩ fun x23_2 =>
  ldS w5.drew ⟨b2, 3, none⟩ fun x23_3p x23_3l x23_3c =>
  ldS w5.drew ⟨b2, 4, none⟩ fun x23_4p x23_4l x23_4c =>
  ldStr w5.drew ⟨b2, 5, none⟩ fun x23_5 =>
  (
  callJ Tryz.prog fn_ref05_Paths #[.agg ⟨[.int .i64 x21_0, .string x21_1, .string x21_2, .slice x21_3p x21_3l x21_3c, .slice x21_4p x21_4l x21_4c, .string x21_5]⟩] w5.drew [.one .slice] fun (r22p : Option Addr) (r22l : Nat) (r22c : Nat) (w19 : World) =>
  cellsAt w19 ⟨b2, 0, none⟩ [.int .i64 x23_0, .string x23_1, .string x23_2, .slice x23_3p x23_3l x23_3c, .slice x23_4p x23_4l x23_4c, .string x23_5] ∧
  (
  callJ Tryz.prog fn_ref05_Flat #[.agg ⟨[.int .i64 x23_0, .string x23_1, .string x23_2, .slice x23_3p x23_3l x23_3c, .slice x23_4p x23_4l x23_4c, .string x23_5]⟩] w19 [.one .slice] fun (r24p : Option Addr) (r24l : Nat) (r24c : Nat) (w20 : World) =>
  (
  newB w20 (.cells (zeroC Tryz.prog T_sl_sl_int) T_sl_sl_int) fun b6 w21 =>
  cellsAt w21 ⟨b2, 0, none⟩ [.int .i64 x23_0, .string x23_1, .string x23_2, .slice x23_3p x23_3l x23_3c, .slice x23_4p x23_4l x23_4c, .string x23_5] ∧
  cellsAt w21 ⟨b2, 0, none⟩ [.int .i64 x21_0, .string x21_1, .string x21_2, .slice x21_3p x21_3l x21_3c, .slice x21_4p x21_4l x21_4c, .string x21_5] ∧
  newB w21 (.cells (zeroC Tryz.prog T_sl_api_Node) T_sl_api_Node) fun b7 w22 =>
  cellsAt w22 ⟨b2, 0, none⟩ [.int .i64 x23_0, .string x23_1, .string x23_2, .slice x23_3p x23_3l x23_3c, .slice x23_4p x23_4l x23_4c, .string x23_5] ∧
  cellsAt w22 ⟨b2, 0, none⟩ [.int .i64 x21_0, .string x21_1, .string x21_2, .slice x21_3p x21_3l x21_3c, .slice x21_4p x21_4l x21_4c, .string x21_5] ∧
  stV w22 ⟨b6, 0, none⟩ (.slice r22p r22l r22c) fun w23 =>
  stV w23 ⟨b7, 0, none⟩ (.slice r24p r24l r24c) fun w24 =>
  J_6 (some ⟨b6, 0, none⟩) (some ⟨b7, 0, none⟩) w24) ∧ (
  newB w20 (.cells (zeroC Tryz.prog T_sl_api_Node) T_sl_api_Node) fun b7_1 w25 =>
  cellsAt w25 ⟨b2, 0, none⟩ [.int .i64 x23_0, .string x23_1, .string x23_2, .slice x23_3p x23_3l x23_3c, .slice x23_4p x23_4l x23_4c, .string x23_5] ∧
  cellsAt w25 ⟨b2, 0, none⟩ [.int .i64 x21_0, .string x21_1, .string x21_2, .slice x21_3p x21_3l x21_3c, .slice x21_4p x21_4l x21_4c, .string x21_5] ∧
  newB w25 (.cells (zeroC Tryz.prog T_sl_sl_int) T_sl_sl_int) fun b6_1 w26 =>
  cellsAt w26 ⟨b2, 0, none⟩ [.int .i64 x23_0, .string x23_1, .string x23_2, .slice x23_3p x23_3l x23_3c, .slice x23_4p x23_4l x23_4c, .string x23_5] ∧
  cellsAt w26 ⟨b2, 0, none⟩ [.int .i64 x21_0, .string x21_1, .string x21_2, .slice x21_3p x21_3l x21_3c, .slice x21_4p x21_4l x21_4c, .string x21_5] ∧
  stV w26 ⟨b6_1, 0, none⟩ (.slice r22p r22l r22c) fun w27 =>
  stV w27 ⟨b7_1, 0, none⟩ (.slice r24p r24l r24c) fun w28 =>
  J_6 (some ⟨b6_1, 0, none⟩) (some ⟨b7_1, 0, none⟩) w28)) ∧ (
  (
  newB w19 (.cells (zeroC Tryz.prog T_sl_sl_int) T_sl_sl_int) fun b6_2 w29 =>
  cellsAt w29 ⟨b2, 0, none⟩ [.int .i64 x23_0, .string x23_1, .string x23_2, .slice x23_3p x23_3l x23_3c, .slice x23_4p x23_4l x23_4c, .string x23_5] ∧
  cellsAt w29 ⟨b2, 0, none⟩ [.int .i64 x21_0, .string x21_1, .string x21_2, .slice x21_3p x21_3l x21_3c, .slice x21_4p x21_4l x21_4c, .string x21_5] ∧
  (
  callJ Tryz.prog fn_ref05_Flat #[.agg ⟨[.int .i64 x23_0, .string x23_1, .string x23_2, .slice x23_3p x23_3l x23_3c, .slice x23_4p x23_4l x23_4c, .string x23_5]⟩] w29 [.one .slice] fun (r24_1p : Option Addr) (r24_1l : Nat) (r24_1c : Nat) (w30 : World) =>
  newB w30 (.cells (zeroC Tryz.prog T_sl_api_Node) T_sl_api_Node) fun b7_2 w31 =>
  cellsAt w31 ⟨b2, 0, none⟩ [.int .i64 x23_0, .string x23_1, .string x23_2, .slice x23_3p x23_3l x23_3c, .slice x23_4p x23_4l x23_4c, .string x23_5] ∧
  cellsAt w31 ⟨b2, 0, none⟩ [.int .i64 x21_0, .string x21_1, .string x21_2, .slice x21_3p x21_3l x21_3c, .slice x21_4p x21_4l x21_4c, .string x21_5] ∧
  stV w31 ⟨b6_2, 0, none⟩ (.slice r22p r22l r22c) fun w32 =>
  stV w32 ⟨b7_2, 0, none⟩ (.slice r24_1p r24_1l r24_1c) fun w33 =>
  J_6 (some ⟨b6_2, 0, none⟩) (some ⟨b7_2, 0, none⟩) w33) ∧ (
  newB w29 (.cells (zeroC Tryz.prog T_sl_api_Node) T_sl_api_Node) fun b7_3 w34 =>
  cellsAt w34 ⟨b2, 0, none⟩ [.int .i64 x23_0, .string x23_1, .string x23_2, .slice x23_3p x23_3l x23_3c, .slice x23_4p x23_4l x23_4c, .string x23_5] ∧
  cellsAt w34 ⟨b2, 0, none⟩ [.int .i64 x21_0, .string x21_1, .string x21_2, .slice x21_3p x21_3l x21_3c, .slice x21_4p x21_4l x21_4c, .string x21_5] ∧
  callJ Tryz.prog fn_ref05_Flat #[.agg ⟨[.int .i64 x23_0, .string x23_1, .string x23_2, .slice x23_3p x23_3l x23_3c, .slice x23_4p x23_4l x23_4c, .string x23_5]⟩] w34 [.one .slice] fun (r24_2p : Option Addr) (r24_2l : Nat) (r24_2c : Nat) (w35 : World) =>
  stV w35 ⟨b6_2, 0, none⟩ (.slice r22p r22l r22c) fun w36 =>
  stV w36 ⟨b7_3, 0, none⟩ (.slice r24_2p r24_2l r24_2c) fun w37 =>
  J_6 (some ⟨b6_2, 0, none⟩) (some ⟨b7_3, 0, none⟩) w37)) ∧ (
  newB w19 (.cells (zeroC Tryz.prog T_sl_api_Node) T_sl_api_Node) fun b7_4 w38 =>
  cellsAt w38 ⟨b2, 0, none⟩ [.int .i64 x23_0, .string x23_1, .string x23_2, .slice x23_3p x23_3l x23_3c, .slice x23_4p x23_4l x23_4c, .string x23_5] ∧
  cellsAt w38 ⟨b2, 0, none⟩ [.int .i64 x21_0, .string x21_1, .string x21_2, .slice x21_3p x21_3l x21_3c, .slice x21_4p x21_4l x21_4c, .string x21_5] ∧
  (
  callJ Tryz.prog fn_ref05_Flat #[.agg ⟨[.int .i64 x23_0, .string x23_1, .string x23_2, .slice x23_3p x23_3l x23_3c, .slice x23_4p x23_4l x23_4c, .string x23_5]⟩] w38 [.one .slice] fun (r24_3p : Option Addr) (r24_3l : Nat) (r24_3c : Nat) (w39 : World) =>
  newB w39 (.cells (zeroC Tryz.prog T_sl_sl_int) T_sl_sl_int) fun b6_3 w40 =>
  cellsAt w40 ⟨b2, 0, none⟩ [.int .i64 x23_0, .string x23_1, .string x23_2, .slice x23_3p x23_3l x23_3c, .slice x23_4p x23_4l x23_4c, .string x23_5] ∧
  cellsAt w40 ⟨b2, 0, none⟩ [.int .i64 x21_0, .string x21_1, .string x21_2, .slice x21_3p x21_3l x21_3c, .slice x21_4p x21_4l x21_4c, .string x21_5] ∧
  stV w40 ⟨b6_3, 0, none⟩ (.slice r22p r22l r22c) fun w41 =>
  stV w41 ⟨b7_4, 0, none⟩ (.slice r24_3p r24_3l r24_3c) fun w42 =>
  J_6 (some ⟨b6_3, 0, none⟩) (some ⟨b7_4, 0, none⟩) w42) ∧ (
  newB w38 (.cells (zeroC Tryz.prog T_sl_sl_int) T_sl_sl_int) fun b6_4 w43 =>
  cellsAt w43 ⟨b2, 0, none⟩ [.int .i64 x23_0, .string x23_1, .string x23_2, .slice x23_3p x23_3l x23_3c, .slice x23_4p x23_4l x23_4c, .string x23_5] ∧
  cellsAt w43 ⟨b2, 0, none⟩ [.int .i64 x21_0, .string x21_1, .string x21_2, .slice x21_3p x21_3l x21_3c, .slice x21_4p x21_4l x21_4c, .string x21_5] ∧
  callJ Tryz.prog fn_ref05_Flat #[.agg ⟨[.int .i64 x23_0, .string x23_1, .string x23_2, .slice x23_3p x23_3l x23_3c, .slice x23_4p x23_4l x23_4c, .string x23_5]⟩] w43 [.one .slice] fun (r24_4p : Option Addr) (r24_4l : Nat) (r24_4c : Nat) (w44 : World) =>
  stV w44 ⟨b6_4, 0, none⟩ (.slice r22p r22l r22c) fun w45 =>
  stV w45 ⟨b7_4, 0, none⟩ (.slice r24_4p r24_4l r24_4c) fun w46 =>
  J_6 (some ⟨b6_4, 0, none⟩) (some ⟨b7_4, 0, none⟩) w46)))) ∧ (
  (
  newB w5.drew (.cells (zeroC Tryz.prog T_sl_sl_int) T_sl_sl_int) fun b6_5 w47 =>
  cellsAt w47 ⟨b2, 0, none⟩ [.int .i64 x23_0, .string x23_1, .string x23_2, .slice x23_3p x23_3l x23_3c, .slice x23_4p x23_4l x23_4c, .string x23_5] ∧
  cellsAt w47 ⟨b2, 0, none⟩ [.int .i64 x21_0, .string x21_1, .string x21_2, .slice x21_3p x21_3l x21_3c, .slice x21_4p x21_4l x21_4c, .string x21_5] ∧
  (
  callJ Tryz.prog fn_ref05_Paths #[.agg ⟨[.int .i64 x21_0, .string x21_1, .string x21_2, .slice x21_3p x21_3l x21_3c, .slice x21_4p x21_4l x21_4c, .string x21_5]⟩] w47 [.one .slice] fun (r22_1p : Option Addr) (r22_1l : Nat) (r22_1c : Nat) (w48 : World) =>
  cellsAt w48 ⟨b2, 0, none⟩ [.int .i64 x23_0, .string x23_1, .string x23_2, .slice x23_3p x23_3l x23_3c, .slice x23_4p x23_4l x23_4c, .string x23_5] ∧
  (
  callJ Tryz.prog fn_ref05_Flat #[.agg ⟨[.int .i64 x23_0, .string x23_1, .string x23_2, .slice x23_3p x23_3l x23_3c, .slice x23_4p x23_4l x23_4c, .string x23_5]⟩] w48 [.one .slice] fun (r24_5p : Option Addr) (r24_5l : Nat) (r24_5c : Nat) (w49 : World) =>
  newB w49 (.cells (zeroC Tryz.prog T_sl_api_Node) T_sl_api_Node) fun b7_5 w50 =>
  cellsAt w50 ⟨b2, 0, none⟩ [.int .i64 x23_0, .string x23_1, .string x23_2, .slice x23_3p x23_3l x23_3c, .slice x23_4p x23_4l x23_4c, .string x23_5] ∧
  cellsAt w50 ⟨b2, 0, none⟩ [.int .i64 x21_0, .string x21_1, .string x21_2, .slice x21_3p x21_3l x21_3c, .slice x21_4p x21_4l x21_4c, .string x21_5] ∧
  stV w50 ⟨b6_5, 0, none⟩ (.slice r22_1p r22_1l r22_1c) fun w51 =>
  stV w51 ⟨b7_5, 0, none⟩ (.slice r24_5p r24_5l r24_5c) fun w52 =>
  J_6 (some ⟨b6_5, 0, none⟩) (some ⟨b7_5, 0, none⟩) w52) ∧ (
  newB w48 (.cells (zeroC Tryz.prog T_sl_api_Node) T_sl_api_Node) fun b7_6 w53 =>
  cellsAt w53 ⟨b2, 0, none⟩ [.int .i64 x23_0, .string x23_1, .string x23_2, .slice x23_3p x23_3l x23_3c, .slice x23_4p x23_4l x23_4c, .string x23_5] ∧
  cellsAt w53 ⟨b2, 0, none⟩ [.int .i64 x21_0, .string x21_1, .string x21_2, .slice x21_3p x21_3l x21_3c, .slice x21_4p x21_4l x21_4c, .string x21_5] ∧
  callJ Tryz.prog fn_ref05_Flat #[.agg ⟨[.int .i64 x23_0, .string x23_1, .string x23_2, .slice x23_3p x23_3l x23_3c, .slice x23_4p x23_4l x23_4c, .string x23_5]⟩] w53 [.one .slice] fun (r24_6p : Option Addr) (r24_6l : Nat) (r24_6c : Nat) (w54 : World) =>
  stV w54 ⟨b6_5, 0, none⟩ (.slice r22_1p r22_1l r22_1c) fun w55 =>
  stV w55 ⟨b7_6, 0, none⟩ (.slice r24_6p r24_6l r24_6c) fun w56 =>
  J_6 (some ⟨b6_5, 0, none⟩) (some ⟨b7_6, 0, none⟩) w56)) ∧ (
  newB w47 (.cells (zeroC Tryz.prog T_sl_api_Node) T_sl_api_Node) fun b7_7 w57 =>
  cellsAt w57 ⟨b2, 0, none⟩ [.int .i64 x23_0, .string x23_1, .string x23_2, .slice x23_3p x23_3l x23_3c, .slice x23_4p x23_4l x23_4c, .string x23_5] ∧
  cellsAt w57 ⟨b2, 0, none⟩ [.int .i64 x21_0, .string x21_1, .string x21_2, .slice x21_3p x21_3l x21_3c, .slice x21_4p x21_4l x21_4c, .string x21_5] ∧
  callJ Tryz.prog fn_ref05_Paths #[.agg ⟨[.int .i64 x21_0, .string x21_1, .string x21_2, .slice x21_3p x21_3l x21_3c, .slice x21_4p x21_4l x21_4c, .string x21_5]⟩] w57 [.one .slice] fun (r22_2p : Option Addr) (r22_2l : Nat) (r22_2c : Nat) (w58 : World) =>
  cellsAt w58 ⟨b2, 0, none⟩ [.int .i64 x23_0, .string x23_1, .string x23_2, .slice x23_3p x23_3l x23_3c, .slice x23_4p x23_4l x23_4c, .string x23_5] ∧
  callJ Tryz.prog fn_ref05_Flat #[.agg ⟨[.int .i64 x23_0, .string x23_1, .string x23_2, .slice x23_3p x23_3l x23_3c, .slice x23_4p x23_4l x23_4c, .string x23_5]⟩] w58 [.one .slice] fun (r24_7p : Option Addr) (r24_7l : Nat) (r24_7c : Nat) (w59 : World) =>
  stV w59 ⟨b6_5, 0, none⟩ (.slice r22_2p r22_2l r22_2c) fun w60 =>
  stV w60 ⟨b7_7, 0, none⟩ (.slice r24_7p r24_7l r24_7c) fun w61 =>
  J_6 (some ⟨b6_5, 0, none⟩) (some ⟨b7_7, 0, none⟩) w61)) ∧ (
  newB w5.drew (.cells (zeroC Tryz.prog T_sl_api_Node) T_sl_api_Node) fun b7_8 w62 =>
  cellsAt w62 ⟨b2, 0, none⟩ [.int .i64 x23_0, .string x23_1, .string x23_2, .slice x23_3p x23_3l x23_3c, .slice x23_4p x23_4l x23_4c, .string x23_5] ∧
  cellsAt w62 ⟨b2, 0, none⟩ [.int .i64 x21_0, .string x21_1, .string x21_2, .slice x21_3p x21_3l x21_3c, .slice x21_4p x21_4l x21_4c, .string x21_5] ∧
  (
  callJ Tryz.prog fn_ref05_Paths #[.agg ⟨[.int .i64 x21_0, .string x21_1, .string x21_2, .slice x21_3p x21_3l x21_3c, .slice x21_4p x21_4l x21_4c, .string x21_5]⟩] w62 [.one .slice] fun (r22_3p : Option Addr) (r22_3l : Nat) (r22_3c : Nat) (w63 : World) =>
  cellsAt w63 ⟨b2, 0, none⟩ [.int .i64 x23_0, .string x23_1, .string x23_2, .slice x23_3p x23_3l x23_3c, .slice x23_4p x23_4l x23_4c, .string x23_5] ∧
  (
  callJ Tryz.prog fn_ref05_Flat #[.agg ⟨[.int .i64 x23_0, .string x23_1, .string x23_2, .slice x23_3p x23_3l x23_3c, .slice x23_4p x23_4l x23_4c, .string x23_5]⟩] w63 [.one .slice] fun (r24_8p : Option Addr) (r24_8l : Nat) (r24_8c : Nat) (w64 : World) =>
  newB w64 (.cells (zeroC Tryz.prog T_sl_sl_int) T_sl_sl_int) fun b6_6 w65 =>
  cellsAt w65 ⟨b2, 0, none⟩ [.int .i64 x23_0, .string x23_1, .string x23_2, .slice x23_3p x23_3l x23_3c, .slice x23_4p x23_4l x23_4c, .string x23_5] ∧
  cellsAt w65 ⟨b2, 0, none⟩ [.int .i64 x21_0, .string x21_1, .string x21_2, .slice x21_3p x21_3l x21_3c, .slice x21_4p x21_4l x21_4c, .string x21_5] ∧
  stV w65 ⟨b6_6, 0, none⟩ (.slice r22_3p r22_3l r22_3c) fun w66 =>
  stV w66 ⟨b7_8, 0, none⟩ (.slice r24_8p r24_8l r24_8c) fun w67 =>
  J_6 (some ⟨b6_6, 0, none⟩) (some ⟨b7_8, 0, none⟩) w67) ∧ (
  newB w63 (.cells (zeroC Tryz.prog T_sl_sl_int) T_sl_sl_int) fun b6_7 w68 =>
  cellsAt w68 ⟨b2, 0, none⟩ [.int .i64 x23_0, .string x23_1, .string x23_2, .slice x23_3p x23_3l x23_3c, .slice x23_4p x23_4l x23_4c, .string x23_5] ∧
  cellsAt w68 ⟨b2, 0, none⟩ [.int .i64 x21_0, .string x21_1, .string x21_2, .slice x21_3p x21_3l x21_3c, .slice x21_4p x21_4l x21_4c, .string x21_5] ∧
  callJ Tryz.prog fn_ref05_Flat #[.agg ⟨[.int .i64 x23_0, .string x23_1, .string x23_2, .slice x23_3p x23_3l x23_3c, .slice x23_4p x23_4l x23_4c, .string x23_5]⟩] w68 [.one .slice] fun (r24_9p : Option Addr) (r24_9l : Nat) (r24_9c : Nat) (w69 : World) =>
  stV w69 ⟨b6_7, 0, none⟩ (.slice r22_3p r22_3l r22_3c) fun w70 =>
  stV w70 ⟨b7_8, 0, none⟩ (.slice r24_9p r24_9l r24_9c) fun w71 =>
  J_6 (some ⟨b6_7, 0, none⟩) (some ⟨b7_8, 0, none⟩) w71)) ∧ (
  newB w62 (.cells (zeroC Tryz.prog T_sl_sl_int) T_sl_sl_int) fun b6_8 w72 =>
  cellsAt w72 ⟨b2, 0, none⟩ [.int .i64 x23_0, .string x23_1, .string x23_2, .slice x23_3p x23_3l x23_3c, .slice x23_4p x23_4l x23_4c, .string x23_5] ∧
  cellsAt w72 ⟨b2, 0, none⟩ [.int .i64 x21_0, .string x21_1, .string x21_2, .slice x21_3p x21_3l x21_3c, .slice x21_4p x21_4l x21_4c, .string x21_5] ∧
  callJ Tryz.prog fn_ref05_Paths #[.agg ⟨[.int .i64 x21_0, .string x21_1, .string x21_2, .slice x21_3p x21_3l x21_3c, .slice x21_4p x21_4l x21_4c, .string x21_5]⟩] w72 [.one .slice] fun (r22_4p : Option Addr) (r22_4l : Nat) (r22_4c : Nat) (w73 : World) =>
  cellsAt w73 ⟨b2, 0, none⟩ [.int .i64 x23_0, .string x23_1, .string x23_2, .slice x23_3p x23_3l x23_3c, .slice x23_4p x23_4l x23_4c, .string x23_5] ∧
  callJ Tryz.prog fn_ref05_Flat #[.agg ⟨[.int .i64 x23_0, .string x23_1, .string x23_2, .slice x23_3p x23_3l x23_3c, .slice x23_4p x23_4l x23_4c, .string x23_5]⟩] w73 [.one .slice] fun (r24_10p : Option Addr) (r24_10l : Nat) (r24_10c : Nat) (w74 : World) =>
  stV w74 ⟨b6_8, 0, none⟩ (.slice r22_4p r22_4l r22_4c) fun w75 =>
  stV w75 ⟨b7_8, 0, none⟩ (.slice r24_10p r24_10l r24_10c) fun w76 =>
  J_6 (some ⟨b6_8, 0, none⟩) (some ⟨b7_8, 0, none⟩) w76)))))
def ann_law05_TreeWalks : Ann := .s (.o) (.s (.s (.o) (.c (.s (.o) (.o)) (.o))) (.s (.s (.o) (.c (.s (.o) (.o)) (.o))) (.s (.o) (.s (.s (.o) (.c .u (.o))) (.j [(6, .ptr), (7, .ptr)] (.d (.take 0 (.take 2 (.eff 1 (.eff 3 (.eff 4 (.eff 5 (.eff 6 (.eff 7 (.done) (.none)) (.none)) (.none)) (.eff 5 (.eff 4 (.eff 6 (.eff 7 (.done) (.none)) (.none)) (.none)) (.none))) (.eff 4 (.eff 3 (.eff 5 (.eff 6 (.eff 7 (.done) (.none)) (.none)) (.none)) (.eff 5 (.eff 3 (.eff 6 (.eff 7 (.done) (.none)) (.none)) (.none)) (.none))) (.eff 5 (.eff 3 (.eff 4 (.eff 6 (.eff 7 (.done) (.none)) (.none)) (.none)) (.eff 4 (.eff 3 (.eff 6 (.eff 7 (.done) (.none)) (.none)) (.none)) (.none))) (.none)))) (.eff 4 (.eff 1 (.eff 3 (.eff 5 (.eff 6 (.eff 7 (.done) (.none)) (.none)) (.none)) (.eff 5 (.eff 3 (.eff 6 (.eff 7 (.done) (.none)) (.none)) (.none)) (.none))) (.eff 5 (.eff 1 (.eff 3 (.eff 6 (.eff 7 (.done) (.none)) (.none)) (.none)) (.none)) (.none))) (.eff 5 (.eff 1 (.eff 3 (.eff 4 (.eff 6 (.eff 7 (.done) (.none)) (.none)) (.none)) (.eff 4 (.eff 3 (.eff 6 (.eff 7 (.done) (.none)) (.none)) (.none)) (.none))) (.eff 4 (.eff 1 (.eff 3 (.eff 6 (.eff 7 (.done) (.none)) (.none)) (.none)) (.none)) (.none))) (.none))))))) (.s (.o) (.s (.o) (.s (.o) (.s (.o) (.j [(11, .int .i64)] (.j [(38, .bool)] (.o) (.c (.o) (.o))) (.j [(4, .bool)] (.o) (.o))))))))))))
theorem eq_law05_TreeWalks (n0_0 : Int) (n0_1 : ByteArray) (n0_2 : ByteArray) (n0_3p : Option Addr) (n0_3l : Nat) (n0_3c : Nat) (n0_4p : Option Addr) (n0_4l : Nat) (n0_4c : Nat) (n0_5 : ByteArray) (most1 : Int) (w : World) (J : Bool → World → Prop) : vcFun Tryz.prog Tryz.f4 ann_law05_TreeWalks [.one .bool] [.agg ⟨[.int .i64 n0_0, .string n0_1, .string n0_2, .slice n0_3p n0_3l n0_3c, .slice n0_4p n0_4l n0_4c, .string n0_5]⟩, .int .i64 most1] w J = VC_law05_TreeWalks n0_0 n0_1 n0_2 n0_3p n0_3l n0_3c n0_4p n0_4l n0_4c n0_5 most1 w J := by kernel_rfl
theorem c_law05_TreeWalks {n0_0 : Int} {n0_1 : ByteArray} {n0_2 : ByteArray} {n0_3p : Option Addr} {n0_3l : Nat} {n0_3c : Nat} {n0_4p : Option Addr} {n0_4l : Nat} {n0_4c : Nat} {n0_5 : ByteArray} {most1 : Int} {w : World} {J : Bool → World → Prop} (h : VC_law05_TreeWalks n0_0 n0_1 n0_2 n0_3p n0_3l n0_3c n0_4p n0_4l n0_4c n0_5 most1 w J) : callJ Tryz.prog fn_law05_TreeWalks #[.agg ⟨[.int .i64 n0_0, .string n0_1, .string n0_2, .slice n0_3p n0_3l n0_3c, .slice n0_4p n0_4l n0_4c, .string n0_5]⟩, .int .i64 most1] w [.one .bool] J := vc_calls Tryz.func4 ann_law05_TreeWalks (Eq.mpr (eq_law05_TreeWalks n0_0 n0_1 n0_2 n0_3p n0_3l n0_3c n0_4p n0_4l n0_4c n0_5 most1 w J) h)

/-- lectern/lecternlaw05.TreeWalks$1 -/
def VC_law05_TreeWalks_1 (p0p : Option Addr) (p0l : Nat) (p0c : Nat) (x1_0 : Int) (x1_1 : ByteArray) (x1_2 : ByteArray) (x1_3p : Option Addr) (x1_3l : Nat) (x1_3c : Nat) (x1_4p : Option Addr) (x1_4l : Nat) (x1_4c : Nat) (x1_5 : ByteArray) (fv0 : Addr) (fv1 : Addr) (fv2 : Addr) (fv3 : Addr) (fv4 : Addr) (w : World) (J : Bool → World → Prop) : Prop :=
  newB w (.cells ⟨[.int .i64 x1_0, .string x1_1, .string x1_2, .slice x1_3p x1_3l x1_3c, .slice x1_4p x1_4l x1_4c, .string x1_5]⟩ T_api_Node) fun b8 w1 =>
  withJ (fun (x32 : Bool) (w2 : World) =>
  condB x32 (
  stV w2 fv3 (.bool false) fun w3 =>
  J false w3) (
  ldI .i64 w2 ⟨b8, 0, none⟩ fun x33_0 =>
  ldStr w2 ⟨b8, 1, none⟩ fun x33_1 =>
  ldStr w2 ⟨b8, 2, none⟩ fun x33_2 =>
  ldS w2 ⟨b8, 3, none⟩ fun x33_3p x33_3l x33_3c =>
  ldS w2 ⟨b8, 4, none⟩ fun x33_4p x33_4l x33_4c =>
  ldStr w2 ⟨b8, 5, none⟩ fun x33_5 =>
  callJ Tryz.prog fn_law05_spoil #[.agg ⟨[.int .i64 x33_0, .string x33_1, .string x33_2, .slice x33_3p x33_3l x33_3c, .slice x33_4p x33_4l x33_4c, .string x33_5]⟩] w2 [] fun (w4 : World) =>
  ∃ I_37 : Int → World → Nat → Prop, (∃ m : Nat, I_37 (0 : Int) w4 m) ∧ ∀ (x37 : Int) (w5 : World) (m : Nat), I_37 x37 w5 m → (
  condB (decide (x37 < ((p0l : Nat) : Int))) (
  idxA p0p p0l x37 fun a42 =>
  stV w5 ((a42.add (x37.toNat * 1))) (.int .i64 (-1 : Int)) fun w6 =>
  ∃ m' : Nat, m' < m ∧ I_37 (w64 (x37 + (1 : Int))) w6 m') (
  ldI .i64 w5 fv0 fun x44 =>
  stV w5 fv0 (.int .i64 (w64 (x44 + (1 : Int)))) fun w7 =>
  ldI .i64 w7 fv0 fun x46 =>
  ldI .i64 w7 fv4 fun x47 =>
  J (x46 != x47) w7)))) fun J_32 =>
  ldI .i64 w1.drew fv0 fun x11 =>
  ldS w1.drew fv1 fun x12p x12l x12c =>
  condB (decide (x11 ≥ ((x12l : Nat) : Int))) (
  J_32 true w1.drew) (
  ldS w1.drew fv2 fun x17p x17l x17c =>
  ldI .i64 w1.drew fv0 fun x18 =>
  idxA x17p x17l x18 fun a19 =>
  ldS w1.drew ((a19.add (x18.toNat * 1))) fun x20p x20l x20c =>
  callJ Tryz.prog fn_ref05_SameInts #[.slice p0p p0l p0c, .slice x20p x20l x20c] w1.drew [.one .bool] fun (r21 : Bool) (w8 : World) =>
  condB (!r21) (
  J_32 true w8) (
  ldI .i64 w8 ⟨b8, 0, none⟩ fun x25_0 =>
  ldStr w8 ⟨b8, 1, none⟩ fun x25_1 =>
  ldStr w8 ⟨b8, 2, none⟩ fun x25_2 =>
  ldS w8 ⟨b8, 3, none⟩ fun x25_3p x25_3l x25_3c =>
  ldS w8 ⟨b8, 4, none⟩ fun x25_4p x25_4l x25_4c =>
  ldStr w8 ⟨b8, 5, none⟩ fun x25_5 =>
  ldS w8 fv1 fun x26p x26l x26c =>
  ldI .i64 w8 fv0 fun x27 =>
  idxA x26p x26l x27 fun a28 =>
  ldI .i64 w8 ((a28.add (x27.toNat * 6))) fun x29_0 =>
  ldStr w8 (((a28.add (x27.toNat * 6)).add 1)) fun x29_1 =>
  ldStr w8 (((a28.add (x27.toNat * 6)).add 2)) fun x29_2 =>
  ldS w8 (((a28.add (x27.toNat * 6)).add 3)) fun x29_3p x29_3l x29_3c =>
  ldS w8 (((a28.add (x27.toNat * 6)).add 4)) fun x29_4p x29_4l x29_4c =>
  ldStr w8 (((a28.add (x27.toNat * 6)).add 5)) fun x29_5 =>
  callJ Tryz.prog fn_ref05_Same #[.agg ⟨[.int .i64 x25_0, .string x25_1, .string x25_2, .slice x25_3p x25_3l x25_3c, .slice x25_4p x25_4l x25_4c, .string x25_5]⟩, .agg ⟨[.int .i64 x29_0, .string x29_1, .string x29_2, .slice x29_3p x29_3l x29_3c, .slice x29_4p x29_4l x29_4c, .string x29_5]⟩] w8 [.one .bool] fun (r30 : Bool) (w9 : World) =>
  J_32 (!r30) w9))
def ann_law05_TreeWalks_1 : Ann := .s (.o) (.s (.j [(32, .bool)] (.d (.take 0 (.take 1 (.take 2 (.take 3 (.take 4 (.take 5 (.take 6 (.take 7 (.take 8 (.take 9 (.eff 10 (.take 11 (.take 12 (.take 13 (.take 14 (.take 15 (.take 16 (.take 17 (.take 18 (.eff 19 (.take 20 (.take 21 (.done))) (.none)))))))))) (.none))))))))))))) (.c (.s (.o) (.s (.o) (.o))) (.o))) (.s (.o) (.s (.s (.o) (.b (.l [(37, .int .i64)] (.s (.o) (.s (.c (.o) (.o)) (.s (.b (.s (.o) (.o))) (.o))))))) (.s (.o) (.s (.o) (.o))))))
theorem eq_law05_TreeWalks_1 (p0p : Option Addr) (p0l : Nat) (p0c : Nat) (x1_0 : Int) (x1_1 : ByteArray) (x1_2 : ByteArray) (x1_3p : Option Addr) (x1_3l : Nat) (x1_3c : Nat) (x1_4p : Option Addr) (x1_4l : Nat) (x1_4c : Nat) (x1_5 : ByteArray) (fv0 : Addr) (fv1 : Addr) (fv2 : Addr) (fv3 : Addr) (fv4 : Addr) (w : World) (J : Bool → World → Prop) : vcFun Tryz.prog Tryz.f15 ann_law05_TreeWalks_1 [.one .bool] [.slice p0p p0l p0c, .agg ⟨[.int .i64 x1_0, .string x1_1, .string x1_2, .slice x1_3p x1_3l x1_3c, .slice x1_4p x1_4l x1_4c, .string x1_5]⟩, .pointer (some fv0), .pointer (some fv1), .pointer (some fv2), .pointer (some fv3), .pointer (some fv4)] w J = VC_law05_TreeWalks_1 p0p p0l p0c x1_0 x1_1 x1_2 x1_3p x1_3l x1_3c x1_4p x1_4l x1_4c x1_5 fv0 fv1 fv2 fv3 fv4 w J := by kernel_rfl
theorem c_law05_TreeWalks_1 {p0p : Option Addr} {p0l : Nat} {p0c : Nat} {x1_0 : Int} {x1_1 : ByteArray} {x1_2 : ByteArray} {x1_3p : Option Addr} {x1_3l : Nat} {x1_3c : Nat} {x1_4p : Option Addr} {x1_4l : Nat} {x1_4c : Nat} {x1_5 : ByteArray} {fv0 : Addr} {fv1 : Addr} {fv2 : Addr} {fv3 : Addr} {fv4 : Addr} {w : World} {J : Bool → World → Prop} (h : VC_law05_TreeWalks_1 p0p p0l p0c x1_0 x1_1 x1_2 x1_3p x1_3l x1_3c x1_4p x1_4l x1_4c x1_5 fv0 fv1 fv2 fv3 fv4 w J) : callJ Tryz.prog fn_law05_TreeWalks_1 #[.slice p0p p0l p0c, .agg ⟨[.int .i64 x1_0, .string x1_1, .string x1_2, .slice x1_3p x1_3l x1_3c, .slice x1_4p x1_4l x1_4c, .string x1_5]⟩, .pointer (some fv0), .pointer (some fv1), .pointer (some fv2), .pointer (some fv3), .pointer (some fv4)] w [.one .bool] J := vc_calls Tryz.func15 ann_law05_TreeWalks_1 (Eq.mpr (eq_law05_TreeWalks_1 p0p p0l p0c x1_0 x1_1 x1_2 x1_3p x1_3l x1_3c x1_4p x1_4l x1_4c x1_5 fv0 fv1 fv2 fv3 fv4 w J) h)

/-- lectern/tree.All -/
def VC_tree_All (n0_0 : Int) (n0_1 : ByteArray) (n0_2 : ByteArray) (n0_3p : Option Addr) (n0_3l : Nat) (n0_3c : Nat) (n0_4p : Option Addr) (n0_4l : Nat) (n0_4c : Nat) (n0_5 : ByteArray) (w : World) (J : Value → World → Prop) : Prop :=
  newB w (.cells ⟨[.int .i64 n0_0, .string n0_1, .string n0_2, .slice n0_3p n0_3l n0_3c, .slice n0_4p n0_4l n0_4c, .string n0_5]⟩ T_api_Node) fun b1 w1 =>
  J (.func (.func 43) #[] #[.pointer (some ⟨b1, 0, none⟩)]) w1
def ann_tree_All : Ann := .s (.o) (.s (.o) (.o))
theorem eq_tree_All (n0_0 : Int) (n0_1 : ByteArray) (n0_2 : ByteArray) (n0_3p : Option Addr) (n0_3l : Nat) (n0_3c : Nat) (n0_4p : Option Addr) (n0_4l : Nat) (n0_4c : Nat) (n0_5 : ByteArray) (w : World) (J : Value → World → Prop) : vcFun Tryz.prog Tryz.f12 ann_tree_All [.one .val] [.agg ⟨[.int .i64 n0_0, .string n0_1, .string n0_2, .slice n0_3p n0_3l n0_3c, .slice n0_4p n0_4l n0_4c, .string n0_5]⟩] w J = VC_tree_All n0_0 n0_1 n0_2 n0_3p n0_3l n0_3c n0_4p n0_4l n0_4c n0_5 w J := by kernel_rfl
theorem c_tree_All {n0_0 : Int} {n0_1 : ByteArray} {n0_2 : ByteArray} {n0_3p : Option Addr} {n0_3l : Nat} {n0_3c : Nat} {n0_4p : Option Addr} {n0_4l : Nat} {n0_4c : Nat} {n0_5 : ByteArray} {w : World} {J : Value → World → Prop} (h : VC_tree_All n0_0 n0_1 n0_2 n0_3p n0_3l n0_3c n0_4p n0_4l n0_4c n0_5 w J) : callJ Tryz.prog fn_tree_All #[.agg ⟨[.int .i64 n0_0, .string n0_1, .string n0_2, .slice n0_3p n0_3l n0_3c, .slice n0_4p n0_4l n0_4c, .string n0_5]⟩] w [.one .val] J := vc_calls Tryz.func12 ann_tree_All (Eq.mpr (eq_tree_All n0_0 n0_1 n0_2 n0_3p n0_3l n0_3c n0_4p n0_4l n0_4c n0_5 w J) h)

/-- lectern/tree.All$1 -/
def VC_tree_All_1_f0_15c5 (cp0_0 : Addr) (cp0_1 : Addr) (cp0_2 : Addr) (cp0_3 : Addr) (cp0_4 : Addr) (fv0 : Addr) (w : World) (J : World → Prop) : Prop :=
  ldI .i64 w fv0 fun x3_0 =>
  ldStr w ((fv0.add 1)) fun x3_1 =>
  ldStr w ((fv0.add 2)) fun x3_2 =>
  ldS w ((fv0.add 3)) fun x3_3p x3_3l x3_3c =>
  ldS w ((fv0.add 4)) fun x3_4p x3_4l x3_4c =>
  ldStr w ((fv0.add 5)) fun x3_5 =>
  callJ Tryz.prog fn_tree_walk #[.agg ⟨[.int .i64 x3_0, .string x3_1, .string x3_2, .slice x3_3p x3_3l x3_3c, .slice x3_4p x3_4l x3_4c, .string x3_5]⟩, .slice none 0 0, .func (.func 15) #[] #[.pointer (some cp0_0), .pointer (some cp0_1), .pointer (some cp0_2), .pointer (some cp0_3), .pointer (some cp0_4)]] w [.one .bool] fun (r5 : Bool) (w1 : World) =>
  J w1
def ann_tree_All_1_f0_15c5 : Ann := .o
theorem eq_tree_All_1_f0_15c5 (cp0_0 : Addr) (cp0_1 : Addr) (cp0_2 : Addr) (cp0_3 : Addr) (cp0_4 : Addr) (fv0 : Addr) (w : World) (J : World → Prop) : vcFun Tryz.prog Tryz.f43 ann_tree_All_1_f0_15c5 [] [.func (.func 15) #[] #[.pointer (some cp0_0), .pointer (some cp0_1), .pointer (some cp0_2), .pointer (some cp0_3), .pointer (some cp0_4)], .pointer (some fv0)] w J = VC_tree_All_1_f0_15c5 cp0_0 cp0_1 cp0_2 cp0_3 cp0_4 fv0 w J := by kernel_rfl
theorem c_tree_All_1_f0_15c5 {cp0_0 : Addr} {cp0_1 : Addr} {cp0_2 : Addr} {cp0_3 : Addr} {cp0_4 : Addr} {fv0 : Addr} {w : World} {J : World → Prop} (h : VC_tree_All_1_f0_15c5 cp0_0 cp0_1 cp0_2 cp0_3 cp0_4 fv0 w J) : callJ Tryz.prog fn_tree_All_1 #[.func (.func 15) #[] #[.pointer (some cp0_0), .pointer (some cp0_1), .pointer (some cp0_2), .pointer (some cp0_3), .pointer (some cp0_4)], .pointer (some fv0)] w [] J := vc_calls Tryz.func43 ann_tree_All_1_f0_15c5 (Eq.mpr (eq_tree_All_1_f0_15c5 cp0_0 cp0_1 cp0_2 cp0_3 cp0_4 fv0 w J) h)

/-- lectern/tree.walk -/
def VC_tree_walk_f2_15c5 (n0_0 : Int) (n0_1 : ByteArray) (n0_2 : ByteArray) (n0_3p : Option Addr) (n0_3l : Nat) (n0_3c : Nat) (n0_4p : Option Addr) (n0_4l : Nat) (n0_4c : Nat) (n0_5 : ByteArray) (path1p : Option Addr) (path1l : Nat) (path1c : Nat) (cp2_0 : Addr) (cp2_1 : Addr) (cp2_2 : Addr) (cp2_3 : Addr) (cp2_4 : Addr) (w : World) (J : Bool → World → Prop) : Prop :=
  newB w (.cells ⟨[.int .i64 n0_0, .string n0_1, .string n0_2, .slice n0_3p n0_3l n0_3c, .slice n0_4p n0_4l n0_4c, .string n0_5]⟩ T_api_Node) fun b3 w1 =>
  ldI .i64 w1.drew ⟨b3, 0, none⟩ fun x12_0 =>
  ldStr w1.drew ⟨b3, 1, none⟩ fun x12_1 =>
  ldStr w1.drew ⟨b3, 2, none⟩ fun x12_2 =>
  ldS w1.drew ⟨b3, 3, none⟩ fun x12_3p x12_3l x12_3c =>
  ldS w1.drew ⟨b3, 4, none⟩ fun x12_4p x12_4l x12_4c =>
  ldStr w1.drew ⟨b3, 5, none⟩ fun x12_5 =>
  callJ Tryz.prog fn_slices_Clone_sl_int_int #[.slice path1p path1l path1c] w1.drew [.one .slice] fun (r11p : Option Addr) (r11l : Nat) (r11c : Nat) (w2 : World) =>
  cellsAt w2 ⟨b3, 0, none⟩ [.int .i64 x12_0, .string x12_1, .string x12_2, .slice x12_3p x12_3l x12_3c, .slice x12_4p x12_4l x12_4c, .string x12_5] ∧
  callJ Tryz.prog fn_tree_Copy #[.agg ⟨[.int .i64 x12_0, .string x12_1, .string x12_2, .slice x12_3p x12_3l x12_3c, .slice x12_4p x12_4l x12_4c, .string x12_5]⟩] w2 [.agg [.int .i64, .str, .str, .slice, .slice, .str]] fun (r13_0 : Int) (r13_1 : ByteArray) (r13_2 : ByteArray) (r13_3p : Option Addr) (r13_3l : Nat) (r13_3c : Nat) (r13_4p : Option Addr) (r13_4l : Nat) (r13_4c : Nat) (r13_5 : ByteArray) (w3 : World) =>
  callJ Tryz.prog fn_law05_TreeWalks_1 #[.slice r11p r11l r11c, .agg ⟨[.int .i64 r13_0, .string r13_1, .string r13_2, .slice r13_3p r13_3l r13_3c, .slice r13_4p r13_4l r13_4c, .string r13_5]⟩, .pointer (some cp2_0), .pointer (some cp2_1), .pointer (some cp2_2), .pointer (some cp2_3), .pointer (some cp2_4)] w3 [.one .bool] fun (r14 : Bool) (w4 : World) =>
  condB (!r14) (
  J false w4) (
  ldS w4 ⟨b3, 4, none⟩ fun x17p x17l x17c =>
  ∃ I_19 : Int → World → Nat → Prop, (∃ m : Nat, I_19 (0 : Int) w4 m) ∧ ∀ (x19 : Int) (w5 : World) (m : Nat), I_19 x19 w5 m → (
  condB (decide (x19 < ((x17l : Nat) : Int))) (
  idxA x17p x17l x19 fun a22 =>
  ldI .i64 w5 ((a22.add (x19.toNat * 6))) fun x23_0 =>
  ldStr w5 (((a22.add (x19.toNat * 6)).add 1)) fun x23_1 =>
  ldStr w5 (((a22.add (x19.toNat * 6)).add 2)) fun x23_2 =>
  ldS w5 (((a22.add (x19.toNat * 6)).add 3)) fun x23_3p x23_3l x23_3c =>
  ldS w5 (((a22.add (x19.toNat * 6)).add 4)) fun x23_4p x23_4l x23_4c =>
  ldStr w5 (((a22.add (x19.toNat * 6)).add 5)) fun x23_5 =>
  newB w5 (.cells (zeroC Tryz.prog T_api_Node) T_api_Node) fun b8 w6 =>
  stN w6 ⟨b8, 0, none⟩ ⟨[.int .i64 x23_0, .string x23_1, .string x23_2, .slice x23_3p x23_3l x23_3c, .slice x23_4p x23_4l x23_4c, .string x23_5]⟩ 6 fun w7 =>
  withJ (fun (x32 : Bool) (w8 : World) =>
  condB x32 (
  J false w8) (
  ∃ m' : Nat, m' < m ∧ I_19 (w64 (x19 + (1 : Int))) w8 m')) fun J_32 =>
  ldI .i64 w7.drew ⟨b8, 0, none⟩ fun x24_0 =>
  ldStr w7.drew ⟨b8, 1, none⟩ fun x24_1 =>
  ldStr w7.drew ⟨b8, 2, none⟩ fun x24_2 =>
  ldS w7.drew ⟨b8, 3, none⟩ fun x24_3p x24_3l x24_3c =>
  ldS w7.drew ⟨b8, 4, none⟩ fun x24_4p x24_4l x24_4c =>
  ldStr w7.drew ⟨b8, 5, none⟩ fun x24_5 =>
  (
  callJ Tryz.prog fn_slices_Clone_sl_int_int #[.slice path1p path1l path1c] w7.drew [.one .slice] fun (r26p : Option Addr) (r26l : Nat) (r26c : Nat) (w9 : World) =>
  cellsAt w9 ⟨b8, 0, none⟩ [.int .i64 x24_0, .string x24_1, .string x24_2, .slice x24_3p x24_3l x24_3c, .slice x24_4p x24_4l x24_4c, .string x24_5] ∧
  newB w9 (.cells ⟨[.int .i64 x19]⟩ T_int) fun b28 w10 =>
  cellsAt w10 ⟨b8, 0, none⟩ [.int .i64 x24_0, .string x24_1, .string x24_2, .slice x24_3p x24_3l x24_3c, .slice x24_4p x24_4l x24_4c, .string x24_5] ∧
  appJ Tryz.prog T_sl_int T_sl_int (.slice r26p r26l r26c) (.slice (some ⟨b28, 0, none⟩) 1 1) w10 fun q29p q29l q29c w11 =>
  cellsAt w11 ⟨b8, 0, none⟩ [.int .i64 x24_0, .string x24_1, .string x24_2, .slice x24_3p x24_3l x24_3c, .slice x24_4p x24_4l x24_4c, .string x24_5] ∧
  callJ Tryz.prog fn_tree_walk #[.agg ⟨[.int .i64 x24_0, .string x24_1, .string x24_2, .slice x24_3p x24_3l x24_3c, .slice x24_4p x24_4l x24_4c, .string x24_5]⟩, .slice q29p q29l q29c, .func (.func 15) #[] #[.pointer (some cp2_0), .pointer (some cp2_1), .pointer (some cp2_2), .pointer (some cp2_3), .pointer (some cp2_4)]] w11 [.one .bool] fun (r31 : Bool) (w12 : World) =>
  J_32 (!r31) w12) ∧ (
  newB w7.drew (.cells ⟨[.int .i64 x19]⟩ T_int) fun b28_1 w13 =>
  cellsAt w13 ⟨b8, 0, none⟩ [.int .i64 x24_0, .string x24_1, .string x24_2, .slice x24_3p x24_3l x24_3c, .slice x24_4p x24_4l x24_4c, .string x24_5] ∧
  callJ Tryz.prog fn_slices_Clone_sl_int_int #[.slice path1p path1l path1c] w13 [.one .slice] fun (r26_1p : Option Addr) (r26_1l : Nat) (r26_1c : Nat) (w14 : World) =>
  cellsAt w14 ⟨b8, 0, none⟩ [.int .i64 x24_0, .string x24_1, .string x24_2, .slice x24_3p x24_3l x24_3c, .slice x24_4p x24_4l x24_4c, .string x24_5] ∧
  appJ Tryz.prog T_sl_int T_sl_int (.slice r26_1p r26_1l r26_1c) (.slice (some ⟨b28_1, 0, none⟩) 1 1) w14 fun q29_1p q29_1l q29_1c w15 =>
  cellsAt w15 ⟨b8, 0, none⟩ [.int .i64 x24_0, .string x24_1, .string x24_2, .slice x24_3p x24_3l x24_3c, .slice x24_4p x24_4l x24_4c, .string x24_5] ∧
  callJ Tryz.prog fn_tree_walk #[.agg ⟨[.int .i64 x24_0, .string x24_1, .string x24_2, .slice x24_3p x24_3l x24_3c, .slice x24_4p x24_4l x24_4c, .string x24_5]⟩, .slice q29_1p q29_1l q29_1c, .func (.func 15) #[] #[.pointer (some cp2_0), .pointer (some cp2_1), .pointer (some cp2_2), .pointer (some cp2_3), .pointer (some cp2_4)]] w15 [.one .bool] fun (r31_1 : Bool) (w16 : World) =>
  J_32 (!r31_1) w16)) (
  J true w5)))
def ann_tree_walk_f2_15c5 : Ann := .s (.o) (.s (.s (.d (.take 0 (.take 1 (.take 3 (.eff 2 (.eff 4 (.eff 5 (.take 6 (.done)) (.none)) (.none)) (.none)))))) (.c (.s (.o) (.o)) (.o))) (.s (.s (.o) (.b (.l [(19, .int .i64)] (.s (.o) (.s (.c (.o) (.o)) (.s (.b (.s (.o) (.j [(32, .bool)] (.d (.take 0 (.take 1 (.take 3 (.take 6 (.eff 2 (.eff 4 (.eff 5 (.eff 7 (.take 8 (.done)) (.none)) (.none)) (.none)) (.eff 4 (.eff 2 (.eff 5 (.eff 7 (.take 8 (.done)) (.none)) (.none)) (.none)) (.none)))))))) (.c (.s (.o) (.o)) (.o))))) (.o))))))) (.s (.o) (.o))))
theorem eq_tree_walk_f2_15c5 (n0_0 : Int) (n0_1 : ByteArray) (n0_2 : ByteArray) (n0_3p : Option Addr) (n0_3l : Nat) (n0_3c : Nat) (n0_4p : Option Addr) (n0_4l : Nat) (n0_4c : Nat) (n0_5 : ByteArray) (path1p : Option Addr) (path1l : Nat) (path1c : Nat) (cp2_0 : Addr) (cp2_1 : Addr) (cp2_2 : Addr) (cp2_3 : Addr) (cp2_4 : Addr) (w : World) (J : Bool → World → Prop) : vcFun Tryz.prog Tryz.f44 ann_tree_walk_f2_15c5 [.one .bool] [.agg ⟨[.int .i64 n0_0, .string n0_1, .string n0_2, .slice n0_3p n0_3l n0_3c, .slice n0_4p n0_4l n0_4c, .string n0_5]⟩, .slice path1p path1l path1c, .func (.func 15) #[] #[.pointer (some cp2_0), .pointer (some cp2_1), .pointer (some cp2_2), .pointer (some cp2_3), .pointer (some cp2_4)]] w J = VC_tree_walk_f2_15c5 n0_0 n0_1 n0_2 n0_3p n0_3l n0_3c n0_4p n0_4l n0_4c n0_5 path1p path1l path1c cp2_0 cp2_1 cp2_2 cp2_3 cp2_4 w J := by kernel_rfl
theorem c_tree_walk_f2_15c5 {n0_0 : Int} {n0_1 : ByteArray} {n0_2 : ByteArray} {n0_3p : Option Addr} {n0_3l : Nat} {n0_3c : Nat} {n0_4p : Option Addr} {n0_4l : Nat} {n0_4c : Nat} {n0_5 : ByteArray} {path1p : Option Addr} {path1l : Nat} {path1c : Nat} {cp2_0 : Addr} {cp2_1 : Addr} {cp2_2 : Addr} {cp2_3 : Addr} {cp2_4 : Addr} {w : World} {J : Bool → World → Prop} (h : VC_tree_walk_f2_15c5 n0_0 n0_1 n0_2 n0_3p n0_3l n0_3c n0_4p n0_4l n0_4c n0_5 path1p path1l path1c cp2_0 cp2_1 cp2_2 cp2_3 cp2_4 w J) : callJ Tryz.prog fn_tree_walk #[.agg ⟨[.int .i64 n0_0, .string n0_1, .string n0_2, .slice n0_3p n0_3l n0_3c, .slice n0_4p n0_4l n0_4c, .string n0_5]⟩, .slice path1p path1l path1c, .func (.func 15) #[] #[.pointer (some cp2_0), .pointer (some cp2_1), .pointer (some cp2_2), .pointer (some cp2_3), .pointer (some cp2_4)]] w [.one .bool] J := vc_calls Tryz.func44 ann_tree_walk_f2_15c5 (Eq.mpr (eq_tree_walk_f2_15c5 n0_0 n0_1 n0_2 n0_3p n0_3l n0_3c n0_4p n0_4l n0_4c n0_5 path1p path1l path1c cp2_0 cp2_1 cp2_2 cp2_3 cp2_4 w J) h)

/-- slices.Clone[[]int,int] -/
def VC_slices_Clone_sl_int_int (s0p : Option Addr) (s0l : Nat) (s0c : Nat) (w : World) (J : Option Addr → Nat → Nat → World → Prop) : Prop :=
  condB s0p.isNone (
  J none 0 0 w) (
  newB w (.cells ⟨[]⟩ T_int) fun b5 w1 =>
  appJ Tryz.prog T_sl_int T_sl_int (.slice (some ⟨b5, 0, none⟩) 0 0) (.slice s0p s0l s0c) w1 fun q7p q7l q7c w2 =>
  J q7p q7l q7c w2)
def ann_slices_Clone_sl_int_int : Ann := .s (.o) (.s (.s (.o) (.c (.s (.o) (.o)) (.o))) (.s (.o) (.o)))
theorem eq_slices_Clone_sl_int_int (s0p : Option Addr) (s0l : Nat) (s0c : Nat) (w : World) (J : Option Addr → Nat → Nat → World → Prop) : vcFun Tryz.prog Tryz.f71 ann_slices_Clone_sl_int_int [.one .slice] [.slice s0p s0l s0c] w J = VC_slices_Clone_sl_int_int s0p s0l s0c w J := by kernel_rfl
theorem c_slices_Clone_sl_int_int {s0p : Option Addr} {s0l : Nat} {s0c : Nat} {w : World} {J : Option Addr → Nat → Nat → World → Prop} (h : VC_slices_Clone_sl_int_int s0p s0l s0c w J) : callJ Tryz.prog fn_slices_Clone_sl_int_int #[.slice s0p s0l s0c] w [.one .slice] J := vc_calls Tryz.func71 ann_slices_Clone_sl_int_int (Eq.mpr (eq_slices_Clone_sl_int_int s0p s0l s0c w J) h)

end Go.Proofs.YtmmfookfpdcohaaGreatDoor
