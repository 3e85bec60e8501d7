/- What the conditions of these functions are, reckoned by the reading; printed by program. -/
import Derived.Test.YtkgfbphdmnapdaaGreatDoorNm
import Derived.KernelRfl
set_option maxRecDepth 100000
set_option linter.unusedVariables false
namespace Go.Proofs.YtkgfbphdmnapdaaGreatDoor
open Go Go.Vc

/-- lectern/lecternref09.Apply -/
def VC_ref09_Apply (d0_0 : Int) (d0_1 : ByteArray) (d0_2 : ByteArray) (d0_3p : Option Addr) (d0_3l : Nat) (d0_3c : Nat) (d0_4p : Option Addr) (d0_4l : Nat) (d0_4c : Nat) (d0_5 : ByteArray) (e1_0 : Int) (e1_1p : Option Addr) (e1_1l : Nat) (e1_1c : Nat) (e1_2 : ByteArray) (e1_3 : ByteArray) (e1_4 : ByteArray) (e1_5 : Int) (e1_6 : ByteArray) (e1_7 : ByteArray) (e1_8p : Option Addr) (e1_8l : Nat) (e1_8c : Nat) (e1_9p : Option Addr) (e1_9l : Nat) (e1_9c : Nat) (e1_10 : ByteArray) (w : World) (J : Int → ByteArray → ByteArray → Option Addr → Nat → Nat → Option Addr → Nat → Nat → ByteArray → Int → World → Prop) : Prop :=
  newB w (.cells ⟨[.int .i64 d0_0, .string d0_1, .string d0_2, .slice d0_3p d0_3l d0_3c, .slice d0_4p d0_4l d0_4c, .string d0_5]⟩ T_api_Node) fun b2 w1 =>
  newB w1 (.cells ⟨[.int .i64 e1_0, .slice e1_1p e1_1l e1_1c, .string e1_2, .string e1_3, .string e1_4, .int .i64 e1_5, .string e1_6, .string e1_7, .slice e1_8p e1_8l e1_8c, .slice e1_9p e1_9l e1_9c, .string e1_10]⟩ T_ref09_Edit) fun b3 w2 =>
  newB w2 (.cells (zeroC Tryz.prog T_api_Node) T_api_Node) fun b4 w3 =>
  ldI .i64 w3 ⟨b2, 0, none⟩ fun x8_0 =>
  ldStr w3 ⟨b2, 1, none⟩ fun x8_1 =>
  ldStr w3 ⟨b2, 2, none⟩ fun x8_2 =>
  ldS w3 ⟨b2, 3, none⟩ fun x8_3p x8_3l x8_3c =>
  ldS w3 ⟨b2, 4, none⟩ fun x8_4p x8_4l x8_4c =>
  ldStr w3 ⟨b2, 5, none⟩ fun x8_5 =>
  callJ Tryz.prog fn_ref05_Check #[.agg ⟨[.int .i64 x8_0, .string x8_1, .string x8_2, .slice x8_3p x8_3l x8_3c, .slice x8_4p x8_4l x8_4c, .string x8_5]⟩] w3 [.one (.int .i64)] fun (r9 : Int) (w4 : World) =>
  condB (r9 != (0 : Int)) (
  stN w4 ⟨b4, 0, none⟩ ⟨[.int .i64 (0 : Int), .string ByteArray.empty, .string ByteArray.empty, .slice none 0 0, .slice none 0 0, .string ByteArray.empty]⟩ 6 fun w5 =>
  ldI .i64 w5 ⟨b4, 0, none⟩ fun r_0 =>
  ldStr w5 ⟨b4, 1, none⟩ fun r_1 =>
  ldStr w5 ⟨b4, 2, none⟩ fun r_2 =>
  ldS w5 ⟨b4, 3, none⟩ fun r_3p r_3l r_3c =>
  ldS w5 ⟨b4, 4, none⟩ fun r_4p r_4l r_4c =>
  ldStr w5 ⟨b4, 5, none⟩ fun r_5 =>
  J r_0 r_1 r_2 r_3p r_3l r_3c r_4p r_4l r_4c r_5 r9 w5) (
  withJ (fun (x21 : Bool) (w6 : World) =>
  condB x21 (
  stN w6 ⟨b4, 0, none⟩ ⟨[.int .i64 (0 : Int), .string ByteArray.empty, .string ByteArray.empty, .slice none 0 0, .slice none 0 0, .string ByteArray.empty]⟩ 6 fun w7 =>
  ldI .i64 w7 ⟨b4, 0, none⟩ fun r_0_1 =>
  ldStr w7 ⟨b4, 1, none⟩ fun r_1_1 =>
  ldStr w7 ⟨b4, 2, none⟩ fun r_2_1 =>
  ldS w7 ⟨b4, 3, none⟩ fun r_3_1p r_3_1l r_3_1c =>
  ldS w7 ⟨b4, 4, none⟩ fun r_4_1p r_4_1l r_4_1c =>
  ldStr w7 ⟨b4, 5, none⟩ fun r_5_1 =>
  J r_0_1 r_1_1 r_2_1 r_3_1p r_3_1l r_3_1c r_4_1p r_4_1l r_4_1c r_5_1 (1 : Int) w7) (
  ldS w6 ⟨b3, 1, none⟩ fun x24p x24l x24c =>
  condB (((x24l : Nat) : Int) == (0 : Int)) (
  stN w6 ⟨b4, 0, none⟩ ⟨[.int .i64 (0 : Int), .string ByteArray.empty, .string ByteArray.empty, .slice none 0 0, .slice none 0 0, .string ByteArray.empty]⟩ 6 fun w8 =>
  ldI .i64 w8 ⟨b4, 0, none⟩ fun r_0_2 =>
  ldStr w8 ⟨b4, 1, none⟩ fun r_1_2 =>
  ldStr w8 ⟨b4, 2, none⟩ fun r_2_2 =>
  ldS w8 ⟨b4, 3, none⟩ fun r_3_2p r_3_2l r_3_2c =>
  ldS w8 ⟨b4, 4, none⟩ fun r_4_2p r_4_2l r_4_2c =>
  ldStr w8 ⟨b4, 5, none⟩ fun r_5_2 =>
  J r_0_2 r_1_2 r_2_2 r_3_2p r_3_2l r_3_2c r_4_2p r_4_2l r_4_2c r_5_2 (35 : Int) w8) (
  withJ (fun (f6 : Int) (n7 : Option Addr) (w9 : World) =>
  withJ (fun (f6_1 : Int) (w10 : World) =>
  condB (f6_1 != (0 : Int)) (
  stN w10 ⟨b4, 0, none⟩ ⟨[.int .i64 (0 : Int), .string ByteArray.empty, .string ByteArray.empty, .slice none 0 0, .slice none 0 0, .string ByteArray.empty]⟩ 6 fun w11 =>
  ldI .i64 w11 ⟨b4, 0, none⟩ fun r_0_3 =>
  ldStr w11 ⟨b4, 1, none⟩ fun r_1_3 =>
  ldStr w11 ⟨b4, 2, none⟩ fun r_2_3 =>
  ldS w11 ⟨b4, 3, none⟩ fun r_3_3p r_3_3l r_3_3c =>
  ldS w11 ⟨b4, 4, none⟩ fun r_4_3p r_4_3l r_4_3c =>
  ldStr w11 ⟨b4, 5, none⟩ fun r_5_3 =>
  J r_0_3 r_1_3 r_2_3 r_3_3p r_3_3l r_3_3c r_4_3p r_4_3l r_4_3c r_5_3 f6_1 w11) (
  nonNil n7 fun a45 =>
  ldI .i64 w10 a45 fun x45_0 =>
  ldStr w10 ((a45.add 1)) fun x45_1 =>
  ldStr w10 ((a45.add 2)) fun x45_2 =>
  ldS w10 ((a45.add 3)) fun x45_3p x45_3l x45_3c =>
  ldS w10 ((a45.add 4)) fun x45_4p x45_4l x45_4c =>
  ldStr w10 ((a45.add 5)) fun x45_5 =>
  stN w10 ⟨b4, 0, none⟩ ⟨[.int .i64 x45_0, .string x45_1, .string x45_2, .slice x45_3p x45_3l x45_3c, .slice x45_4p x45_4l x45_4c, .string x45_5]⟩ 6 fun w12 =>
  ldI .i64 w12 ⟨b4, 0, none⟩ fun r_0_4 =>
  ldStr w12 ⟨b4, 1, none⟩ fun r_1_4 =>
  ldStr w12 ⟨b4, 2, none⟩ fun r_2_4 =>
  ldS w12 ⟨b4, 3, none⟩ fun r_3_4p r_3_4l r_3_4c =>
  ldS w12 ⟨b4, 4, none⟩ fun r_4_4p r_4_4l r_4_4c =>
  ldStr w12 ⟨b4, 5, none⟩ fun r_5_4 =>
  J r_0_4 r_1_4 r_2_4 r_3_4p r_3_4l r_3_4c r_4_4p r_4_4l r_4_4c r_5_4 (0 : Int) w12)) fun J_6_1 =>
  condB (f6 == (0 : Int)) (
  nonNil n7 fun a39 =>
  ldI .i64 w9 a39 fun x39_0 =>
  ldStr w9 ((a39.add 1)) fun x39_1 =>
  ldStr w9 ((a39.add 2)) fun x39_2 =>
  ldS w9 ((a39.add 3)) fun x39_3p x39_3l x39_3c =>
  ldS w9 ((a39.add 4)) fun x39_4p x39_4l x39_4c =>
  ldStr w9 ((a39.add 5)) fun x39_5 =>
  callJ Tryz.prog fn_ref05_Check #[.agg ⟨[.int .i64 x39_0, .string x39_1, .string x39_2, .slice x39_3p x39_3l x39_3c, .slice x39_4p x39_4l x39_4c, .string x39_5]⟩] w9 [.one (.int .i64)] fun (r40 : Int) (w13 : World) =>
  J_6_1 r40 w13) (
  J_6_1 f6 w9)) fun J_6 =>
  ldI .i64 w6.drew ⟨b2, 0, none⟩ fun x29_0 =>
  ldStr w6.drew ⟨b2, 1, none⟩ fun x29_1 =>
  ldStr w6.drew ⟨b2, 2, none⟩ fun x29_2 =>
  ldS w6.drew ⟨b2, 3, none⟩ fun x29_3p x29_3l x29_3c =>
  ldS w6.drew ⟨b2, 4, none⟩ fun x29_4p x29_4l x29_4c =>
  ldStr w6.drew ⟨b2, 5, none⟩ fun x29_5 =>
  ldS w6.drew ⟨b3, 1, none⟩ fun x32p x32l x32c =>
  ldI .i64 w6.drew ⟨b3, 0, none⟩ fun x33_0 =>
  ldS w6.drew ⟨b3, 1, none⟩ fun x33_1p x33_1l x33_1c =>
  ldStr w6.drew ⟨b3, 2, none⟩ fun x33_2 =>
  ldStr w6.drew ⟨b3, 3, none⟩ fun x33_3 =>
  ldStr w6.drew ⟨b3, 4, none⟩ fun x33_4 =>
  ldI .i64 w6.drew ⟨b3, 5, none⟩ fun x33_5 =>
  ldStr w6.drew ⟨b3, 6, none⟩ fun x33_6 =>
  ldStr w6.drew ⟨b3, 7, none⟩ fun x33_7 =>
  ldS w6.drew ⟨b3, 8, none⟩ fun x33_8p x33_8l x33_8c =>
  ldS w6.drew ⟨b3, 9, none⟩ fun x33_9p x33_9l x33_9c =>
  ldStr w6.drew ⟨b3, 10, none⟩ fun x33_10 =>
  (
  callJ Tryz.prog fn_ref05_Twin #[.agg ⟨[.int .i64 x29_0, .string x29_1, .string x29_2, .slice x29_3p x29_3l x29_3c, .slice x29_4p x29_4l x29_4c, .string x29_5]⟩] w6.drew [.agg [.int .i64, .str, .str, .slice, .slice, .str]] fun (r30_0 : Int) (r30_1 : ByteArray) (r30_2 : ByteArray) (r30_3p : Option Addr) (r30_3l : Nat) (r30_3c : Nat) (r30_4p : Option Addr) (r30_4l : Nat) (r30_4c : Nat) (r30_5 : ByteArray) (w14 : World) =>
  cellsAt w14 ⟨b3, 0, none⟩ [.int .i64 x33_0, .slice x33_1p x33_1l x33_1c, .string x33_2, .string x33_3, .string x33_4, .int .i64 x33_5, .string x33_6, .string x33_7, .slice x33_8p x33_8l x33_8c, .slice x33_9p x33_9l x33_9c, .string x33_10] ∧
  w14.cell? ⟨b3, 1, none⟩ = some (.slice x32p x32l x32c) ∧
  (
  callJ Tryz.prog fn_ref09_at #[.agg ⟨[.int .i64 r30_0, .string r30_1, .string r30_2, .slice r30_3p r30_3l r30_3c, .slice r30_4p r30_4l r30_4c, .string r30_5]⟩, .slice x32p x32l x32c, .agg ⟨[.int .i64 x33_0, .slice x33_1p x33_1l x33_1c, .string x33_2, .string x33_3, .string x33_4, .int .i64 x33_5, .string x33_6, .string x33_7, .slice x33_8p x33_8l x33_8c, .slice x33_9p x33_9l x33_9c, .string x33_10]⟩] w14 [.agg [.int .i64, .str, .str, .slice, .slice, .str], .one (.int .i64)] fun (r34_0_0 : Int) (r34_0_1 : ByteArray) (r34_0_2 : ByteArray) (r34_0_3p : Option Addr) (r34_0_3l : Nat) (r34_0_3c : Nat) (r34_0_4p : Option Addr) (r34_0_4l : Nat) (r34_0_4c : Nat) (r34_0_5 : ByteArray) (r34_1 : Int) (w15 : World) =>
  newB w15 (.cells (zeroC Tryz.prog T_api_Node) T_api_Node) fun b7 w16 =>
  cellsAt w16 ⟨b3, 0, none⟩ [.int .i64 x33_0, .slice x33_1p x33_1l x33_1c, .string x33_2, .string x33_3, .string x33_4, .int .i64 x33_5, .string x33_6, .string x33_7, .slice x33_8p x33_8l x33_8c, .slice x33_9p x33_9l x33_9c, .string x33_10] ∧
  w16.cell? ⟨b3, 1, none⟩ = some (.slice x32p x32l x32c) ∧
  cellsAt w16 ⟨b2, 0, none⟩ [.int .i64 x29_0, .string x29_1, .string x29_2, .slice x29_3p x29_3l x29_3c, .slice x29_4p x29_4l x29_4c, .string x29_5] ∧
  stN w16 ⟨b7, 0, none⟩ ⟨[.int .i64 r34_0_0, .string r34_0_1, .string r34_0_2, .slice r34_0_3p r34_0_3l r34_0_3c, .slice r34_0_4p r34_0_4l r34_0_4c, .string r34_0_5]⟩ 6 fun w17 =>
  J_6 r34_1 (some ⟨b7, 0, none⟩) w17) ∧ (
  newB w14 (.cells (zeroC Tryz.prog T_api_Node) T_api_Node) fun b7_1 w18 =>
  cellsAt w18 ⟨b3, 0, none⟩ [.int .i64 x33_0, .slice x33_1p x33_1l x33_1c, .string x33_2, .string x33_3, .string x33_4, .int .i64 x33_5, .string x33_6, .string x33_7, .slice x33_8p x33_8l x33_8c, .slice x33_9p x33_9l x33_9c, .string x33_10] ∧
  w18.cell? ⟨b3, 1, none⟩ = some (.slice x32p x32l x32c) ∧
  cellsAt w18 ⟨b2, 0, none⟩ [.int .i64 x29_0, .string x29_1, .string x29_2, .slice x29_3p x29_3l x29_3c, .slice x29_4p x29_4l x29_4c, .string x29_5] ∧
  callJ Tryz.prog fn_ref09_at #[.agg ⟨[.int .i64 r30_0, .string r30_1, .string r30_2, .slice r30_3p r30_3l r30_3c, .slice r30_4p r30_4l r30_4c, .string r30_5]⟩, .slice x32p x32l x32c, .agg ⟨[.int .i64 x33_0, .slice x33_1p x33_1l x33_1c, .string x33_2, .string x33_3, .string x33_4, .int .i64 x33_5, .string x33_6, .string x33_7, .slice x33_8p x33_8l x33_8c, .slice x33_9p x33_9l x33_9c, .string x33_10]⟩] w18 [.agg [.int .i64, .str, .str, .slice, .slice, .str], .one (.int .i64)] fun (r34_0_1_0 : Int) (r34_0_1_1 : ByteArray) (r34_0_1_2 : ByteArray) (r34_0_1_3p : Option Addr) (r34_0_1_3l : Nat) (r34_0_1_3c : Nat) (r34_0_1_4p : Option Addr) (r34_0_1_4l : Nat) (r34_0_1_4c : Nat) (r34_0_1_5 : ByteArray) (r34_1_1 : Int) (w19 : World) =>
  stN w19 ⟨b7_1, 0, none⟩ ⟨[.int .i64 r34_0_1_0, .string r34_0_1_1, .string r34_0_1_2, .slice r34_0_1_3p r34_0_1_3l r34_0_1_3c, .slice r34_0_1_4p r34_0_1_4l r34_0_1_4c, .string r34_0_1_5]⟩ 6 fun w20 =>
  J_6 r34_1_1 (some ⟨b7_1, 0, none⟩) w20)) ∧ (
  newB w6.drew (.cells (zeroC Tryz.prog T_api_Node) T_api_Node) fun b7_2 w21 =>
  cellsAt w21 ⟨b3, 0, none⟩ [.int .i64 x33_0, .slice x33_1p x33_1l x33_1c, .string x33_2, .string x33_3, .string x33_4, .int .i64 x33_5, .string x33_6, .string x33_7, .slice x33_8p x33_8l x33_8c, .slice x33_9p x33_9l x33_9c, .string x33_10] ∧
  w21.cell? ⟨b3, 1, none⟩ = some (.slice x32p x32l x32c) ∧
  cellsAt w21 ⟨b2, 0, none⟩ [.int .i64 x29_0, .string x29_1, .string x29_2, .slice x29_3p x29_3l x29_3c, .slice x29_4p x29_4l x29_4c, .string x29_5] ∧
  callJ Tryz.prog fn_ref05_Twin #[.agg ⟨[.int .i64 x29_0, .string x29_1, .string x29_2, .slice x29_3p x29_3l x29_3c, .slice x29_4p x29_4l x29_4c, .string x29_5]⟩] w21 [.agg [.int .i64, .str, .str, .slice, .slice, .str]] fun (r30_1_0 : Int) (r30_1_1 : ByteArray) (r30_1_2 : ByteArray) (r30_1_3p : Option Addr) (r30_1_3l : Nat) (r30_1_3c : Nat) (r30_1_4p : Option Addr) (r30_1_4l : Nat) (r30_1_4c : Nat) (r30_1_5 : ByteArray) (w22 : World) =>
  cellsAt w22 ⟨b3, 0, none⟩ [.int .i64 x33_0, .slice x33_1p x33_1l x33_1c, .string x33_2, .string x33_3, .string x33_4, .int .i64 x33_5, .string x33_6, .string x33_7, .slice x33_8p x33_8l x33_8c, .slice x33_9p x33_9l x33_9c, .string x33_10] ∧
  w22.cell? ⟨b3, 1, none⟩ = some (.slice x32p x32l x32c) ∧
  callJ Tryz.prog fn_ref09_at #[.agg ⟨[.int .i64 r30_1_0, .string r30_1_1, .string r30_1_2, .slice r30_1_3p r30_1_3l r30_1_3c, .slice r30_1_4p r30_1_4l r30_1_4c, .string r30_1_5]⟩, .slice x32p x32l x32c, .agg ⟨[.int .i64 x33_0, .slice x33_1p x33_1l x33_1c, .string x33_2, .string x33_3, .string x33_4, .int .i64 x33_5, .string x33_6, .string x33_7, .slice x33_8p x33_8l x33_8c, .slice x33_9p x33_9l x33_9c, .string x33_10]⟩] w22 [.agg [.int .i64, .str, .str, .slice, .slice, .str], .one (.int .i64)] fun (r34_0_2_0 : Int) (r34_0_2_1 : ByteArray) (r34_0_2_2 : ByteArray) (r34_0_2_3p : Option Addr) (r34_0_2_3l : Nat) (r34_0_2_3c : Nat) (r34_0_2_4p : Option Addr) (r34_0_2_4l : Nat) (r34_0_2_4c : Nat) (r34_0_2_5 : ByteArray) (r34_1_2 : Int) (w23 : World) =>
  stN w23 ⟨b7_2, 0, none⟩ ⟨[.int .i64 r34_0_2_0, .string r34_0_2_1, .string r34_0_2_2, .slice r34_0_2_3p r34_0_2_3l r34_0_2_3c, .slice r34_0_2_4p r34_0_2_4l r34_0_2_4c, .string r34_0_2_5]⟩ 6 fun w24 =>
  J_6 r34_1_2 (some ⟨b7_2, 0, none⟩) w24)))) fun J_21 =>
  ldI .i64 w4 ⟨b3, 0, none⟩ fun x15 =>
  condB (decide (x15 < (1 : Int))) (
  J_21 true w4) (
  ldI .i64 w4 ⟨b3, 0, none⟩ fun x19 =>
  J_21 (decide (x19 > (6 : Int))) w4))
def ann_ref09_Apply : Ann := .s (.o) (.s (.o) (.s (.s (.o) (.c (.s (.o) (.o)) (.o))) (.s (.j [(21, .bool)] (.o) (.c (.s (.o) (.o)) (.o))) (.s (.s (.o) (.c (.s (.o) (.o)) (.o))) (.j [(6, .int .i64), (7, .ptr)] (.d (.take 0 (.take 2 (.take 3 (.take 4 (.eff 1 (.eff 5 (.take 6 (.take 7 (.take 8 (.eff 9 (.eff 10 (.take 11 (.done)) (.none)) (.none))))) (.eff 9 (.eff 5 (.take 6 (.take 7 (.take 8 (.eff 10 (.take 11 (.done)) (.none))))) (.none)) (.none))) (.eff 9 (.eff 1 (.eff 5 (.take 6 (.take 7 (.take 8 (.eff 10 (.take 11 (.done)) (.none))))) (.none)) (.none)) (.none)))))))) (.j [(6, .int .i64)] (.s (.o) (.c (.o) (.o))) (.s (.s (.o) (.c (.s (.o) (.o)) (.o))) (.s (.o) (.o)))))))))
theorem eq_ref09_Apply (d0_0 : Int) (d0_1 : ByteArray) (d0_2 : ByteArray) (d0_3p : Option Addr) (d0_3l : Nat) (d0_3c : Nat) (d0_4p : Option Addr) (d0_4l : Nat) (d0_4c : Nat) (d0_5 : ByteArray) (e1_0 : Int) (e1_1p : Option Addr) (e1_1l : Nat) (e1_1c : Nat) (e1_2 : ByteArray) (e1_3 : ByteArray) (e1_4 : ByteArray) (e1_5 : Int) (e1_6 : ByteArray) (e1_7 : ByteArray) (e1_8p : Option Addr) (e1_8l : Nat) (e1_8c : Nat) (e1_9p : Option Addr) (e1_9l : Nat) (e1_9c : Nat) (e1_10 : ByteArray) (w : World) (J : Int → ByteArray → ByteArray → Option Addr → Nat → Nat → Option Addr → Nat → Nat → ByteArray → Int → World → Prop) : vcFun Tryz.prog Tryz.f9 ann_ref09_Apply [.agg [.int .i64, .str, .str, .slice, .slice, .str], .one (.int .i64)] [.agg ⟨[.int .i64 d0_0, .string d0_1, .string d0_2, .slice d0_3p d0_3l d0_3c, .slice d0_4p d0_4l d0_4c, .string d0_5]⟩, .agg ⟨[.int .i64 e1_0, .slice e1_1p e1_1l e1_1c, .string e1_2, .string e1_3, .string e1_4, .int .i64 e1_5, .string e1_6, .string e1_7, .slice e1_8p e1_8l e1_8c, .slice e1_9p e1_9l e1_9c, .string e1_10]⟩] w J = VC_ref09_Apply d0_0 d0_1 d0_2 d0_3p d0_3l d0_3c d0_4p d0_4l d0_4c d0_5 e1_0 e1_1p e1_1l e1_1c e1_2 e1_3 e1_4 e1_5 e1_6 e1_7 e1_8p e1_8l e1_8c e1_9p e1_9l e1_9c e1_10 w J := by kernel_rfl
theorem c_ref09_Apply {d0_0 : Int} {d0_1 : ByteArray} {d0_2 : ByteArray} {d0_3p : Option Addr} {d0_3l : Nat} {d0_3c : Nat} {d0_4p : Option Addr} {d0_4l : Nat} {d0_4c : Nat} {d0_5 : ByteArray} {e1_0 : Int} {e1_1p : Option Addr} {e1_1l : Nat} {e1_1c : Nat} {e1_2 : ByteArray} {e1_3 : ByteArray} {e1_4 : ByteArray} {e1_5 : Int} {e1_6 : ByteArray} {e1_7 : ByteArray} {e1_8p : Option Addr} {e1_8l : Nat} {e1_8c : Nat} {e1_9p : Option Addr} {e1_9l : Nat} {e1_9c : Nat} {e1_10 : ByteArray} {w : World} {J : Int → ByteArray → ByteArray → Option Addr → Nat → Nat → Option Addr → Nat → Nat → ByteArray → Int → World → Prop} (h : VC_ref09_Apply d0_0 d0_1 d0_2 d0_3p d0_3l d0_3c d0_4p d0_4l d0_4c d0_5 e1_0 e1_1p e1_1l e1_1c e1_2 e1_3 e1_4 e1_5 e1_6 e1_7 e1_8p e1_8l e1_8c e1_9p e1_9l e1_9c e1_10 w J) : callJ Tryz.prog fn_ref09_Apply #[.agg ⟨[.int .i64 d0_0, .string d0_1, .string d0_2, .slice d0_3p d0_3l d0_3c, .slice d0_4p d0_4l d0_4c, .string d0_5]⟩, .agg ⟨[.int .i64 e1_0, .slice e1_1p e1_1l e1_1c, .string e1_2, .string e1_3, .string e1_4, .int .i64 e1_5, .string e1_6, .string e1_7, .slice e1_8p e1_8l e1_8c, .slice e1_9p e1_9l e1_9c, .string e1_10]⟩] w [.agg [.int .i64, .str, .str, .slice, .slice, .str], .one (.int .i64)] J := vc_calls Tryz.func9 ann_ref09_Apply (Eq.mpr (eq_ref09_Apply d0_0 d0_1 d0_2 d0_3p d0_3l d0_3c d0_4p d0_4l d0_4c d0_5 e1_0 e1_1p e1_1l e1_1c e1_2 e1_3 e1_4 e1_5 e1_6 e1_7 e1_8p e1_8l e1_8c e1_9p e1_9l e1_9c e1_10 w J) h)

/-- lectern/lecternref09.at -/
def VC_ref09_at (n0_0 : Int) (n0_1 : ByteArray) (n0_2 : ByteArray) (n0_3p : Option Addr) (n0_3l : Nat) (n0_3c : Nat) (n0_4p : Option Addr) (n0_4l : Nat) (n0_4c : Nat) (n0_5 : ByteArray) (path1p : Option Addr) (path1l : Nat) (path1c : Nat) (e2_0 : Int) (e2_1p : Option Addr) (e2_1l : Nat) (e2_1c : Nat) (e2_2 : ByteArray) (e2_3 : ByteArray) (e2_4 : ByteArray) (e2_5 : Int) (e2_6 : ByteArray) (e2_7 : ByteArray) (e2_8p : Option Addr) (e2_8l : Nat) (e2_8c : Nat) (e2_9p : Option Addr) (e2_9l : Nat) (e2_9c : Nat) (e2_10 : ByteArray) (w : World) (J : Int → ByteArray → ByteArray → Option Addr → Nat → Nat → Option Addr → Nat → Nat → ByteArray → Int → World → Prop) : Prop :=
  newB w (.cells ⟨[.int .i64 n0_0, .string n0_1, .string n0_2, .slice n0_3p n0_3l n0_3c, .slice n0_4p n0_4l n0_4c, .string n0_5]⟩ T_api_Node) fun b3 w1 =>
  newB w1 (.cells ⟨[.int .i64 e2_0, .slice e2_1p e2_1l e2_1c, .string e2_2, .string e2_3, .string e2_4, .int .i64 e2_5, .string e2_6, .string e2_7, .slice e2_8p e2_8l e2_8c, .slice e2_9p e2_9l e2_9c, .string e2_10]⟩ T_ref09_Edit) fun b5 w2 =>
  newB w2 (.cells (zeroC Tryz.prog T_api_Node) T_api_Node) fun b6 w3 =>
  idxA path1p path1l (0 : Int) fun a14 =>
  ldI .i64 w3 ((a14.add ((0 : Int).toNat * 1))) fun x15 =>
  withJ (fun (x41 : Bool) (w4 : World) =>
  condB x41 (
  ldI .i64 w4 ⟨b3, 0, none⟩ fun x42_0 =>
  ldStr w4 ⟨b3, 1, none⟩ fun x42_1 =>
  ldStr w4 ⟨b3, 2, none⟩ fun x42_2 =>
  ldS w4 ⟨b3, 3, none⟩ fun x42_3p x42_3l x42_3c =>
  ldS w4 ⟨b3, 4, none⟩ fun x42_4p x42_4l x42_4c =>
  ldStr w4 ⟨b3, 5, none⟩ fun x42_5 =>
  stN w4 ⟨b6, 0, none⟩ ⟨[.int .i64 x42_0, .string x42_1, .string x42_2, .slice x42_3p x42_3l x42_3c, .slice x42_4p x42_4l x42_4c, .string x42_5]⟩ 6 fun w5 =>
  ldI .i64 w5 ⟨b6, 0, none⟩ fun r_0 =>
  ldStr w5 ⟨b6, 1, none⟩ fun r_1 =>
  ldStr w5 ⟨b6, 2, none⟩ fun r_2 =>
  ldS w5 ⟨b6, 3, none⟩ fun r_3p r_3l r_3c =>
  ldS w5 ⟨b6, 4, none⟩ fun r_4p r_4l r_4c =>
  ldStr w5 ⟨b6, 5, none⟩ fun r_5 =>
  J r_0 r_1 r_2 r_3p r_3l r_3c r_4p r_4l r_4c r_5 (35 : Int) w5) (
  condB (decide (((path1l : Nat) : Int) > (1 : Int))) (
  withJ (fun (k9 : Option Addr) (f10 : Int) (w6 : World) =>
  ldS w6 ⟨b3, 4, none⟩ fun x59p x59l x59c =>
  nonNil k9 fun a63 =>
  ldI .i64 w6 a63 fun x63_0 =>
  ldStr w6 ((a63.add 1)) fun x63_1 =>
  ldStr w6 ((a63.add 2)) fun x63_2 =>
  ldS w6 ((a63.add 3)) fun x63_3p x63_3l x63_3c =>
  ldS w6 ((a63.add 4)) fun x63_4p x63_4l x63_4c =>
  ldStr w6 ((a63.add 5)) fun x63_5 =>
  Array.size (⟨[.int .i64 x63_0, .string x63_1, .string x63_2, .slice x63_3p x63_3l x63_3c, .slice x63_4p x63_4l x63_4c, .string x63_5]⟩ : Array Value) = 6 ∧
  newB w6 (.cells ⟨[.int .i64 x63_0, .string x63_1, .string x63_2, .slice x63_3p x63_3l x63_3c, .slice x63_4p x63_4l x63_4c, .string x63_5]⟩ T_api_Node) fun b64 w7 =>
  callJ Tryz.prog fn_ref09_kids #[.slice x59p x59l x59c, .int .i64 x15, .int .i64 (w64 (x15 + (1 : Int))), .slice (some ⟨b64, 0, none⟩) 1 1] w7 [.one .slice] fun (r65p : Option Addr) (r65l : Nat) (r65c : Nat) (w8 : World) =>
  stV w8 ⟨b3, 4, none⟩ (.slice r65p r65l r65c) fun w9 =>
  ldI .i64 w9 ⟨b3, 0, none⟩ fun x67_0 =>
  ldStr w9 ⟨b3, 1, none⟩ fun x67_1 =>
  ldStr w9 ⟨b3, 2, none⟩ fun x67_2 =>
  ldS w9 ⟨b3, 3, none⟩ fun x67_3p x67_3l x67_3c =>
  ldS w9 ⟨b3, 4, none⟩ fun x67_4p x67_4l x67_4c =>
  ldStr w9 ⟨b3, 5, none⟩ fun x67_5 =>
  stN w9 ⟨b6, 0, none⟩ ⟨[.int .i64 x67_0, .string x67_1, .string x67_2, .slice x67_3p x67_3l x67_3c, .slice x67_4p x67_4l x67_4c, .string x67_5]⟩ 6 fun w10 =>
  ldI .i64 w10 ⟨b6, 0, none⟩ fun r_0_1 =>
  ldStr w10 ⟨b6, 1, none⟩ fun r_1_1 =>
  ldStr w10 ⟨b6, 2, none⟩ fun r_2_1 =>
  ldS w10 ⟨b6, 3, none⟩ fun r_3_1p r_3_1l r_3_1c =>
  ldS w10 ⟨b6, 4, none⟩ fun r_4_1p r_4_1l r_4_1c =>
  ldStr w10 ⟨b6, 5, none⟩ fun r_5_1 =>
  J r_0_1 r_1_1 r_2_1 r_3_1p r_3_1l r_3_1c r_4_1p r_4_1l r_4_1c r_5_1 f10 w10) fun J_9 =>
  ldS w4.drew ⟨b3, 4, none⟩ fun x48p x48l x48c =>
  idxA x48p x48l x15 fun a50 =>
  ldI .i64 w4.drew ((a50.add (x15.toNat * 6))) fun x51_0 =>
  ldStr w4.drew (((a50.add (x15.toNat * 6)).add 1)) fun x51_1 =>
  ldStr w4.drew (((a50.add (x15.toNat * 6)).add 2)) fun x51_2 =>
  ldS w4.drew (((a50.add (x15.toNat * 6)).add 3)) fun x51_3p x51_3l x51_3c =>
  ldS w4.drew (((a50.add (x15.toNat * 6)).add 4)) fun x51_4p x51_4l x51_4c =>
  ldStr w4.drew (((a50.add (x15.toNat * 6)).add 5)) fun x51_5 =>
  slS path1p path1l path1c 1 (some (1 : Int)) none none fun q53p q53l q53c =>
  ldI .i64 w4.drew ⟨b5, 0, none⟩ fun x54_0 =>
  ldS w4.drew ⟨b5, 1, none⟩ fun x54_1p x54_1l x54_1c =>
  ldStr w4.drew ⟨b5, 2, none⟩ fun x54_2 =>
  ldStr w4.drew ⟨b5, 3, none⟩ fun x54_3 =>
  ldStr w4.drew ⟨b5, 4, none⟩ fun x54_4 =>
  ldI .i64 w4.drew ⟨b5, 5, none⟩ fun x54_5 =>
  ldStr w4.drew ⟨b5, 6, none⟩ fun x54_6 =>
  ldStr w4.drew ⟨b5, 7, none⟩ fun x54_7 =>
  ldS w4.drew ⟨b5, 8, none⟩ fun x54_8p x54_8l x54_8c =>
  ldS w4.drew ⟨b5, 9, none⟩ fun x54_9p x54_9l x54_9c =>
  ldStr w4.drew ⟨b5, 10, none⟩ fun x54_10 =>
  (
  callJ Tryz.prog fn_ref09_at #[.agg ⟨[.int .i64 x51_0, .string x51_1, .string x51_2, .slice x51_3p x51_3l x51_3c, .slice x51_4p x51_4l x51_4c, .string x51_5]⟩, .slice q53p q53l q53c, .agg ⟨[.int .i64 x54_0, .slice x54_1p x54_1l x54_1c, .string x54_2, .string x54_3, .string x54_4, .int .i64 x54_5, .string x54_6, .string x54_7, .slice x54_8p x54_8l x54_8c, .slice x54_9p x54_9l x54_9c, .string x54_10]⟩] w4.drew [.agg [.int .i64, .str, .str, .slice, .slice, .str], .one (.int .i64)] fun (r55_0_0 : Int) (r55_0_1 : ByteArray) (r55_0_2 : ByteArray) (r55_0_3p : Option Addr) (r55_0_3l : Nat) (r55_0_3c : Nat) (r55_0_4p : Option Addr) (r55_0_4l : Nat) (r55_0_4c : Nat) (r55_0_5 : ByteArray) (r55_1 : Int) (w11 : World) =>
  newB w11 (.cells (zeroC Tryz.prog T_api_Node) T_api_Node) fun b9 w12 =>
  cellsAt w12 ⟨b5, 0, none⟩ [.int .i64 x54_0, .slice x54_1p x54_1l x54_1c, .string x54_2, .string x54_3, .string x54_4, .int .i64 x54_5, .string x54_6, .string x54_7, .slice x54_8p x54_8l x54_8c, .slice x54_9p x54_9l x54_9c, .string x54_10] ∧
  cellsAt w12 ((a50.add (x15.toNat * 6))) [.int .i64 x51_0, .string x51_1, .string x51_2, .slice x51_3p x51_3l x51_3c, .slice x51_4p x51_4l x51_4c, .string x51_5] ∧
  w12.cell? ⟨b3, 4, none⟩ = some (.slice x48p x48l x48c) ∧
  stN w12 ⟨b9, 0, none⟩ ⟨[.int .i64 r55_0_0, .string r55_0_1, .string r55_0_2, .slice r55_0_3p r55_0_3l r55_0_3c, .slice r55_0_4p r55_0_4l r55_0_4c, .string r55_0_5]⟩ 6 fun w13 =>
  J_9 (some ⟨b9, 0, none⟩) r55_1 w13) ∧ (
  newB w4.drew (.cells (zeroC Tryz.prog T_api_Node) T_api_Node) fun b9_1 w14 =>
  cellsAt w14 ⟨b5, 0, none⟩ [.int .i64 x54_0, .slice x54_1p x54_1l x54_1c, .string x54_2, .string x54_3, .string x54_4, .int .i64 x54_5, .string x54_6, .string x54_7, .slice x54_8p x54_8l x54_8c, .slice x54_9p x54_9l x54_9c, .string x54_10] ∧
  cellsAt w14 ((a50.add (x15.toNat * 6))) [.int .i64 x51_0, .string x51_1, .string x51_2, .slice x51_3p x51_3l x51_3c, .slice x51_4p x51_4l x51_4c, .string x51_5] ∧
  w14.cell? ⟨b3, 4, none⟩ = some (.slice x48p x48l x48c) ∧
  callJ Tryz.prog fn_ref09_at #[.agg ⟨[.int .i64 x51_0, .string x51_1, .string x51_2, .slice x51_3p x51_3l x51_3c, .slice x51_4p x51_4l x51_4c, .string x51_5]⟩, .slice q53p q53l q53c, .agg ⟨[.int .i64 x54_0, .slice x54_1p x54_1l x54_1c, .string x54_2, .string x54_3, .string x54_4, .int .i64 x54_5, .string x54_6, .string x54_7, .slice x54_8p x54_8l x54_8c, .slice x54_9p x54_9l x54_9c, .string x54_10]⟩] w14 [.agg [.int .i64, .str, .str, .slice, .slice, .str], .one (.int .i64)] fun (r55_0_1_0 : Int) (r55_0_1_1 : ByteArray) (r55_0_1_2 : ByteArray) (r55_0_1_3p : Option Addr) (r55_0_1_3l : Nat) (r55_0_1_3c : Nat) (r55_0_1_4p : Option Addr) (r55_0_1_4l : Nat) (r55_0_1_4c : Nat) (r55_0_1_5 : ByteArray) (r55_1_1 : Int) (w15 : World) =>
  stN w15 ⟨b9_1, 0, none⟩ ⟨[.int .i64 r55_0_1_0, .string r55_0_1_1, .string r55_0_1_2, .slice r55_0_1_3p r55_0_1_3l r55_0_1_3c, .slice r55_0_1_4p r55_0_1_4l r55_0_1_4c, .string r55_0_1_5]⟩ 6 fun w16 =>
  J_9 (some ⟨b9_1, 0, none⟩) r55_1_1 w16)) (
  withJ (fun (w17 : World) =>
  ldI .i64 w17 ⟨b3, 0, none⟩ fun x125_0 =>
  ldStr w17 ⟨b3, 1, none⟩ fun x125_1 =>
  ldStr w17 ⟨b3, 2, none⟩ fun x125_2 =>
  ldS w17 ⟨b3, 3, none⟩ fun x125_3p x125_3l x125_3c =>
  ldS w17 ⟨b3, 4, none⟩ fun x125_4p x125_4l x125_4c =>
  ldStr w17 ⟨b3, 5, none⟩ fun x125_5 =>
  stN w17 ⟨b6, 0, none⟩ ⟨[.int .i64 x125_0, .string x125_1, .string x125_2, .slice x125_3p x125_3l x125_3c, .slice x125_4p x125_4l x125_4c, .string x125_5]⟩ 6 fun w18 =>
  ldI .i64 w18 ⟨b6, 0, none⟩ fun r_0_2 =>
  ldStr w18 ⟨b6, 1, none⟩ fun r_1_2 =>
  ldStr w18 ⟨b6, 2, none⟩ fun r_2_2 =>
  ldS w18 ⟨b6, 3, none⟩ fun r_3_2p r_3_2l r_3_2c =>
  ldS w18 ⟨b6, 4, none⟩ fun r_4_2p r_4_2l r_4_2c =>
  ldStr w18 ⟨b6, 5, none⟩ fun r_5_2 =>
  J r_0_2 r_1_2 r_2_2 r_3_2p r_3_2l r_3_2c r_4_2p r_4_2l r_4_2c r_5_2 (0 : Int) w18) fun J_0 =>
  ldI .i64 w4 ⟨b5, 0, none⟩ fun x70 =>
  condB (x70 == (1 : Int)) (
  ldS w4 ⟨b3, 4, none⟩ fun x96p x96l x96c =>
  ldI .i64 w4 ⟨b5, 5, none⟩ fun x100_0 =>
  ldStr w4 ⟨b5, 6, none⟩ fun x100_1 =>
  ldStr w4 ⟨b5, 7, none⟩ fun x100_2 =>
  ldS w4 ⟨b5, 8, none⟩ fun x100_3p x100_3l x100_3c =>
  ldS w4 ⟨b5, 9, none⟩ fun x100_4p x100_4l x100_4c =>
  ldStr w4 ⟨b5, 10, none⟩ fun x100_5 =>
  Array.size (⟨[.int .i64 x100_0, .string x100_1, .string x100_2, .slice x100_3p x100_3l x100_3c, .slice x100_4p x100_4l x100_4c, .string x100_5]⟩ : Array Value) = 6 ∧
  newB w4 (.cells ⟨[.int .i64 x100_0, .string x100_1, .string x100_2, .slice x100_3p x100_3l x100_3c, .slice x100_4p x100_4l x100_4c, .string x100_5]⟩ T_api_Node) fun b101 w19 =>
  callJ Tryz.prog fn_ref09_kids #[.slice x96p x96l x96c, .int .i64 x15, .int .i64 x15, .slice (some ⟨b101, 0, none⟩) 1 1] w19 [.one .slice] fun (r102p : Option Addr) (r102l : Nat) (r102c : Nat) (w20 : World) =>
  stV w20 ⟨b3, 4, none⟩ (.slice r102p r102l r102c) fun w21 =>
  J_0 w21) (
  condB (x70 == (2 : Int)) (
  ldS w4 ⟨b3, 4, none⟩ fun x107p x107l x107c =>
  callJ Tryz.prog fn_ref09_kids #[.slice x107p x107l x107c, .int .i64 x15, .int .i64 (w64 (x15 + (1 : Int))), .slice none 0 0] w4 [.one .slice] fun (r111p : Option Addr) (r111l : Nat) (r111c : Nat) (w22 : World) =>
  stV w22 ⟨b3, 4, none⟩ (.slice r111p r111l r111c) fun w23 =>
  J_0 w23) (
  condB (x70 == (3 : Int)) (
  ldS w4 ⟨b3, 4, none⟩ fun x116p x116l x116c =>
  ldI .i64 w4 ⟨b5, 5, none⟩ fun x121_0 =>
  ldStr w4 ⟨b5, 6, none⟩ fun x121_1 =>
  ldStr w4 ⟨b5, 7, none⟩ fun x121_2 =>
  ldS w4 ⟨b5, 8, none⟩ fun x121_3p x121_3l x121_3c =>
  ldS w4 ⟨b5, 9, none⟩ fun x121_4p x121_4l x121_4c =>
  ldStr w4 ⟨b5, 10, none⟩ fun x121_5 =>
  Array.size (⟨[.int .i64 x121_0, .string x121_1, .string x121_2, .slice x121_3p x121_3l x121_3c, .slice x121_4p x121_4l x121_4c, .string x121_5]⟩ : Array Value) = 6 ∧
  newB w4 (.cells ⟨[.int .i64 x121_0, .string x121_1, .string x121_2, .slice x121_3p x121_3l x121_3c, .slice x121_4p x121_4l x121_4c, .string x121_5]⟩ T_api_Node) fun b122 w24 =>
  callJ Tryz.prog fn_ref09_kids #[.slice x116p x116l x116c, .int .i64 x15, .int .i64 (w64 (x15 + (1 : Int))), .slice (some ⟨b122, 0, none⟩) 1 1] w24 [.one .slice] fun (r123p : Option Addr) (r123l : Nat) (r123c : Nat) (w25 : World) =>
  stV w25 ⟨b3, 4, none⟩ (.slice r123p r123l r123c) fun w26 =>
  J_0 w26) (
  withJ (fun (k11 : Option Addr) (f12 : Int) (w27 : World) =>
  ldS w27 ⟨b3, 4, none⟩ fun x83p x83l x83c =>
  nonNil k11 fun a87 =>
  ldI .i64 w27 a87 fun x87_0 =>
  ldStr w27 ((a87.add 1)) fun x87_1 =>
  ldStr w27 ((a87.add 2)) fun x87_2 =>
  ldS w27 ((a87.add 3)) fun x87_3p x87_3l x87_3c =>
  ldS w27 ((a87.add 4)) fun x87_4p x87_4l x87_4c =>
  ldStr w27 ((a87.add 5)) fun x87_5 =>
  Array.size (⟨[.int .i64 x87_0, .string x87_1, .string x87_2, .slice x87_3p x87_3l x87_3c, .slice x87_4p x87_4l x87_4c, .string x87_5]⟩ : Array Value) = 6 ∧
  newB w27 (.cells ⟨[.int .i64 x87_0, .string x87_1, .string x87_2, .slice x87_3p x87_3l x87_3c, .slice x87_4p x87_4l x87_4c, .string x87_5]⟩ T_api_Node) fun b88 w28 =>
  callJ Tryz.prog fn_ref09_kids #[.slice x83p x83l x83c, .int .i64 x15, .int .i64 (w64 (x15 + (1 : Int))), .slice (some ⟨b88, 0, none⟩) 1 1] w28 [.one .slice] fun (r89p : Option Addr) (r89l : Nat) (r89c : Nat) (w29 : World) =>
  stV w29 ⟨b3, 4, none⟩ (.slice r89p r89l r89c) fun w30 =>
  ldI .i64 w30 ⟨b3, 0, none⟩ fun x91_0 =>
  ldStr w30 ⟨b3, 1, none⟩ fun x91_1 =>
  ldStr w30 ⟨b3, 2, none⟩ fun x91_2 =>
  ldS w30 ⟨b3, 3, none⟩ fun x91_3p x91_3l x91_3c =>
  ldS w30 ⟨b3, 4, none⟩ fun x91_4p x91_4l x91_4c =>
  ldStr w30 ⟨b3, 5, none⟩ fun x91_5 =>
  stN w30 ⟨b6, 0, none⟩ ⟨[.int .i64 x91_0, .string x91_1, .string x91_2, .slice x91_3p x91_3l x91_3c, .slice x91_4p x91_4l x91_4c, .string x91_5]⟩ 6 fun w31 =>
  ldI .i64 w31 ⟨b6, 0, none⟩ fun r_0_3 =>
  ldStr w31 ⟨b6, 1, none⟩ fun r_1_3 =>
  ldStr w31 ⟨b6, 2, none⟩ fun r_2_3 =>
  ldS w31 ⟨b6, 3, none⟩ fun r_3_3p r_3_3l r_3_3c =>
  ldS w31 ⟨b6, 4, none⟩ fun r_4_3p r_4_3l r_4_3c =>
  ldStr w31 ⟨b6, 5, none⟩ fun r_5_3 =>
  J r_0_3 r_1_3 r_2_3 r_3_3p r_3_3l r_3_3c r_4_3p r_4_3l r_4_3c r_5_3 f12 w31) fun J_11 =>
  ldS w4.drew ⟨b3, 4, none⟩ fun x73p x73l x73c =>
  idxA x73p x73l x15 fun a75 =>
  ldI .i64 w4.drew ((a75.add (x15.toNat * 6))) fun x76_0 =>
  ldStr w4.drew (((a75.add (x15.toNat * 6)).add 1)) fun x76_1 =>
  ldStr w4.drew (((a75.add (x15.toNat * 6)).add 2)) fun x76_2 =>
  ldS w4.drew (((a75.add (x15.toNat * 6)).add 3)) fun x76_3p x76_3l x76_3c =>
  ldS w4.drew (((a75.add (x15.toNat * 6)).add 4)) fun x76_4p x76_4l x76_4c =>
  ldStr w4.drew (((a75.add (x15.toNat * 6)).add 5)) fun x76_5 =>
  ldI .i64 w4.drew ⟨b5, 0, none⟩ fun x78_0 =>
  ldS w4.drew ⟨b5, 1, none⟩ fun x78_1p x78_1l x78_1c =>
  ldStr w4.drew ⟨b5, 2, none⟩ fun x78_2 =>
  ldStr w4.drew ⟨b5, 3, none⟩ fun x78_3 =>
  ldStr w4.drew ⟨b5, 4, none⟩ fun x78_4 =>
  ldI .i64 w4.drew ⟨b5, 5, none⟩ fun x78_5 =>
  ldStr w4.drew ⟨b5, 6, none⟩ fun x78_6 =>
  ldStr w4.drew ⟨b5, 7, none⟩ fun x78_7 =>
  ldS w4.drew ⟨b5, 8, none⟩ fun x78_8p x78_8l x78_8c =>
  ldS w4.drew ⟨b5, 9, none⟩ fun x78_9p x78_9l x78_9c =>
  ldStr w4.drew ⟨b5, 10, none⟩ fun x78_10 =>
  (
  callJ Tryz.prog fn_ref05_Twin #[.agg ⟨[.int .i64 x76_0, .string x76_1, .string x76_2, .slice x76_3p x76_3l x76_3c, .slice x76_4p x76_4l x76_4c, .string x76_5]⟩] w4.drew [.agg [.int .i64, .str, .str, .slice, .slice, .str]] fun (r77_0 : Int) (r77_1 : ByteArray) (r77_2 : ByteArray) (r77_3p : Option Addr) (r77_3l : Nat) (r77_3c : Nat) (r77_4p : Option Addr) (r77_4l : Nat) (r77_4c : Nat) (r77_5 : ByteArray) (w32 : World) =>
  cellsAt w32 ⟨b5, 0, none⟩ [.int .i64 x78_0, .slice x78_1p x78_1l x78_1c, .string x78_2, .string x78_3, .string x78_4, .int .i64 x78_5, .string x78_6, .string x78_7, .slice x78_8p x78_8l x78_8c, .slice x78_9p x78_9l x78_9c, .string x78_10] ∧
  (
  callJ Tryz.prog fn_ref09_changed #[.agg ⟨[.int .i64 r77_0, .string r77_1, .string r77_2, .slice r77_3p r77_3l r77_3c, .slice r77_4p r77_4l r77_4c, .string r77_5]⟩, .agg ⟨[.int .i64 x78_0, .slice x78_1p x78_1l x78_1c, .string x78_2, .string x78_3, .string x78_4, .int .i64 x78_5, .string x78_6, .string x78_7, .slice x78_8p x78_8l x78_8c, .slice x78_9p x78_9l x78_9c, .string x78_10]⟩] w32 [.agg [.int .i64, .str, .str, .slice, .slice, .str], .one (.int .i64)] fun (r79_0_0 : Int) (r79_0_1 : ByteArray) (r79_0_2 : ByteArray) (r79_0_3p : Option Addr) (r79_0_3l : Nat) (r79_0_3c : Nat) (r79_0_4p : Option Addr) (r79_0_4l : Nat) (r79_0_4c : Nat) (r79_0_5 : ByteArray) (r79_1 : Int) (w33 : World) =>
  newB w33 (.cells (zeroC Tryz.prog T_api_Node) T_api_Node) fun b11 w34 =>
  cellsAt w34 ⟨b5, 0, none⟩ [.int .i64 x78_0, .slice x78_1p x78_1l x78_1c, .string x78_2, .string x78_3, .string x78_4, .int .i64 x78_5, .string x78_6, .string x78_7, .slice x78_8p x78_8l x78_8c, .slice x78_9p x78_9l x78_9c, .string x78_10] ∧
  cellsAt w34 ((a75.add (x15.toNat * 6))) [.int .i64 x76_0, .string x76_1, .string x76_2, .slice x76_3p x76_3l x76_3c, .slice x76_4p x76_4l x76_4c, .string x76_5] ∧
  w34.cell? ⟨b3, 4, none⟩ = some (.slice x73p x73l x73c) ∧
  stN w34 ⟨b11, 0, none⟩ ⟨[.int .i64 r79_0_0, .string r79_0_1, .string r79_0_2, .slice r79_0_3p r79_0_3l r79_0_3c, .slice r79_0_4p r79_0_4l r79_0_4c, .string r79_0_5]⟩ 6 fun w35 =>
  J_11 (some ⟨b11, 0, none⟩) r79_1 w35) ∧ (
  newB w32 (.cells (zeroC Tryz.prog T_api_Node) T_api_Node) fun b11_1 w36 =>
  cellsAt w36 ⟨b5, 0, none⟩ [.int .i64 x78_0, .slice x78_1p x78_1l x78_1c, .string x78_2, .string x78_3, .string x78_4, .int .i64 x78_5, .string x78_6, .string x78_7, .slice x78_8p x78_8l x78_8c, .slice x78_9p x78_9l x78_9c, .string x78_10] ∧
  cellsAt w36 ((a75.add (x15.toNat * 6))) [.int .i64 x76_0, .string x76_1, .string x76_2, .slice x76_3p x76_3l x76_3c, .slice x76_4p x76_4l x76_4c, .string x76_5] ∧
  w36.cell? ⟨b3, 4, none⟩ = some (.slice x73p x73l x73c) ∧
  callJ Tryz.prog fn_ref09_changed #[.agg ⟨[.int .i64 r77_0, .string r77_1, .string r77_2, .slice r77_3p r77_3l r77_3c, .slice r77_4p r77_4l r77_4c, .string r77_5]⟩, .agg ⟨[.int .i64 x78_0, .slice x78_1p x78_1l x78_1c, .string x78_2, .string x78_3, .string x78_4, .int .i64 x78_5, .string x78_6, .string x78_7, .slice x78_8p x78_8l x78_8c, .slice x78_9p x78_9l x78_9c, .string x78_10]⟩] w36 [.agg [.int .i64, .str, .str, .slice, .slice, .str], .one (.int .i64)] fun (r79_0_1_0 : Int) (r79_0_1_1 : ByteArray) (r79_0_1_2 : ByteArray) (r79_0_1_3p : Option Addr) (r79_0_1_3l : Nat) (r79_0_1_3c : Nat) (r79_0_1_4p : Option Addr) (r79_0_1_4l : Nat) (r79_0_1_4c : Nat) (r79_0_1_5 : ByteArray) (r79_1_1 : Int) (w37 : World) =>
  stN w37 ⟨b11_1, 0, none⟩ ⟨[.int .i64 r79_0_1_0, .string r79_0_1_1, .string r79_0_1_2, .slice r79_0_1_3p r79_0_1_3l r79_0_1_3c, .slice r79_0_1_4p r79_0_1_4l r79_0_1_4c, .string r79_0_1_5]⟩ 6 fun w38 =>
  J_11 (some ⟨b11_1, 0, none⟩) r79_1_1 w38)) ∧ (
  newB w4.drew (.cells (zeroC Tryz.prog T_api_Node) T_api_Node) fun b11_2 w39 =>
  cellsAt w39 ⟨b5, 0, none⟩ [.int .i64 x78_0, .slice x78_1p x78_1l x78_1c, .string x78_2, .string x78_3, .string x78_4, .int .i64 x78_5, .string x78_6, .string x78_7, .slice x78_8p x78_8l x78_8c, .slice x78_9p x78_9l x78_9c, .string x78_10] ∧
  cellsAt w39 ((a75.add (x15.toNat * 6))) [.int .i64 x76_0, .string x76_1, .string x76_2, .slice x76_3p x76_3l x76_3c, .slice x76_4p x76_4l x76_4c, .string x76_5] ∧
  w39.cell? ⟨b3, 4, none⟩ = some (.slice x73p x73l x73c) ∧
  callJ Tryz.prog fn_ref05_Twin #[.agg ⟨[.int .i64 x76_0, .string x76_1, .string x76_2, .slice x76_3p x76_3l x76_3c, .slice x76_4p x76_4l x76_4c, .string x76_5]⟩] w39 [.agg [.int .i64, .str, .str, .slice, .slice, .str]] fun (r77_1_0 : Int) (r77_1_1 : ByteArray) (r77_1_2 : ByteArray) (r77_1_3p : Option Addr) (r77_1_3l : Nat) (r77_1_3c : Nat) (r77_1_4p : Option Addr) (r77_1_4l : Nat) (r77_1_4c : Nat) (r77_1_5 : ByteArray) (w40 : World) =>
  cellsAt w40 ⟨b5, 0, none⟩ [.int .i64 x78_0, .slice x78_1p x78_1l x78_1c, .string x78_2, .string x78_3, .string x78_4, .int .i64 x78_5, .string x78_6, .string x78_7, .slice x78_8p x78_8l x78_8c, .slice x78_9p x78_9l x78_9c, .string x78_10] ∧
  callJ Tryz.prog fn_ref09_changed #[.agg ⟨[.int .i64 r77_1_0, .string r77_1_1, .string r77_1_2, .slice r77_1_3p r77_1_3l r77_1_3c, .slice r77_1_4p r77_1_4l r77_1_4c, .string r77_1_5]⟩, .agg ⟨[.int .i64 x78_0, .slice x78_1p x78_1l x78_1c, .string x78_2, .string x78_3, .string x78_4, .int .i64 x78_5, .string x78_6, .string x78_7, .slice x78_8p x78_8l x78_8c, .slice x78_9p x78_9l x78_9c, .string x78_10]⟩] w40 [.agg [.int .i64, .str, .str, .slice, .slice, .str], .one (.int .i64)] fun (r79_0_2_0 : Int) (r79_0_2_1 : ByteArray) (r79_0_2_2 : ByteArray) (r79_0_2_3p : Option Addr) (r79_0_2_3l : Nat) (r79_0_2_3c : Nat) (r79_0_2_4p : Option Addr) (r79_0_2_4l : Nat) (r79_0_2_4c : Nat) (r79_0_2_5 : ByteArray) (r79_1_2 : Int) (w41 : World) =>
  stN w41 ⟨b11_2, 0, none⟩ ⟨[.int .i64 r79_0_2_0, .string r79_0_2_1, .string r79_0_2_2, .slice r79_0_2_3p r79_0_2_3l r79_0_2_3c, .slice r79_0_2_4p r79_0_2_4l r79_0_2_4c, .string r79_0_2_5]⟩ 6 fun w42 =>
  J_11 (some ⟨b11_2, 0, none⟩) r79_1_2 w42))))))) fun J_41 =>
  condB (decide (x15 < (0 : Int))) (
  J_41 true w3) (
  ldS w3 ⟨b3, 4, none⟩ fun x21p x21l x21c =>
  condB (decide (x15 > ((x21l : Nat) : Int))) (
  J_41 true w3) (
  ldS w3 ⟨b3, 4, none⟩ fun x28p x28l x28c =>
  condB (x15 == ((x28l : Nat) : Int)) (
  ldI .i64 w3 ⟨b5, 0, none⟩ fun x33 =>
  condB (x33 != (1 : Int)) (
  J_41 true w3) (
  J_41 (decide (((path1l : Nat) : Int) > (1 : Int))) w3)) (
  J_41 false w3)))
def ann_ref09_at : Ann := .s (.o) (.s (.o) (.s (.j [(41, .bool)] (.o) (.c (.s (.o) (.o)) (.o))) (.s (.s (.o) (.c (.j [(9, .ptr), (10, .int .i64)] (.d (.take 0 (.take 1 (.take 2 (.take 3 (.take 4 (.take 5 (.take 6 (.take 7 (.eff 8 (.take 9 (.take 10 (.take 11 (.eff 12 (.eff 13 (.take 14 (.done)) (.none)) (.none))))) (.eff 12 (.eff 8 (.take 9 (.take 10 (.take 11 (.eff 13 (.take 14 (.done)) (.none))))) (.none)) (.none)))))))))))) (.s (.o) (.s (.o) (.o)))) (.o))) (.j [] (.s (.o) (.b (.s (.o) (.c (.o) (.s (.o) (.c (.o) (.s (.o) (.c (.o) (.j [(11, .ptr), (12, .int .i64)] (.d (.take 0 (.take 1 (.take 2 (.take 3 (.take 4 (.take 6 (.eff 5 (.eff 7 (.take 8 (.take 9 (.take 10 (.eff 11 (.eff 12 (.take 13 (.done)) (.none)) (.none))))) (.eff 11 (.eff 7 (.take 8 (.take 9 (.take 10 (.eff 12 (.take 13 (.done)) (.none))))) (.none)) (.none))) (.eff 11 (.eff 5 (.eff 7 (.take 8 (.take 9 (.take 10 (.eff 12 (.take 13 (.done)) (.none))))) (.none)) (.none)) (.none)))))))))) (.s (.o) (.s (.o) (.o)))))))))))) (.s (.o) (.o))))))
theorem eq_ref09_at (n0_0 : Int) (n0_1 : ByteArray) (n0_2 : ByteArray) (n0_3p : Option Addr) (n0_3l : Nat) (n0_3c : Nat) (n0_4p : Option Addr) (n0_4l : Nat) (n0_4c : Nat) (n0_5 : ByteArray) (path1p : Option Addr) (path1l : Nat) (path1c : Nat) (e2_0 : Int) (e2_1p : Option Addr) (e2_1l : Nat) (e2_1c : Nat) (e2_2 : ByteArray) (e2_3 : ByteArray) (e2_4 : ByteArray) (e2_5 : Int) (e2_6 : ByteArray) (e2_7 : ByteArray) (e2_8p : Option Addr) (e2_8l : Nat) (e2_8c : Nat) (e2_9p : Option Addr) (e2_9l : Nat) (e2_9c : Nat) (e2_10 : ByteArray) (w : World) (J : Int → ByteArray → ByteArray → Option Addr → Nat → Nat → Option Addr → Nat → Nat → ByteArray → Int → World → Prop) : vcFun Tryz.prog Tryz.f22 ann_ref09_at [.agg [.int .i64, .str, .str, .slice, .slice, .str], .one (.int .i64)] [.agg ⟨[.int .i64 n0_0, .string n0_1, .string n0_2, .slice n0_3p n0_3l n0_3c, .slice n0_4p n0_4l n0_4c, .string n0_5]⟩, .slice path1p path1l path1c, .agg ⟨[.int .i64 e2_0, .slice e2_1p e2_1l e2_1c, .string e2_2, .string e2_3, .string e2_4, .int .i64 e2_5, .string e2_6, .string e2_7, .slice e2_8p e2_8l e2_8c, .slice e2_9p e2_9l e2_9c, .string e2_10]⟩] w J = VC_ref09_at n0_0 n0_1 n0_2 n0_3p n0_3l n0_3c n0_4p n0_4l n0_4c n0_5 path1p path1l path1c e2_0 e2_1p e2_1l e2_1c e2_2 e2_3 e2_4 e2_5 e2_6 e2_7 e2_8p e2_8l e2_8c e2_9p e2_9l e2_9c e2_10 w J := by kernel_rfl
theorem c_ref09_at {n0_0 : Int} {n0_1 : ByteArray} {n0_2 : ByteArray} {n0_3p : Option Addr} {n0_3l : Nat} {n0_3c : Nat} {n0_4p : Option Addr} {n0_4l : Nat} {n0_4c : Nat} {n0_5 : ByteArray} {path1p : Option Addr} {path1l : Nat} {path1c : Nat} {e2_0 : Int} {e2_1p : Option Addr} {e2_1l : Nat} {e2_1c : Nat} {e2_2 : ByteArray} {e2_3 : ByteArray} {e2_4 : ByteArray} {e2_5 : Int} {e2_6 : ByteArray} {e2_7 : ByteArray} {e2_8p : Option Addr} {e2_8l : Nat} {e2_8c : Nat} {e2_9p : Option Addr} {e2_9l : Nat} {e2_9c : Nat} {e2_10 : ByteArray} {w : World} {J : Int → ByteArray → ByteArray → Option Addr → Nat → Nat → Option Addr → Nat → Nat → ByteArray → Int → World → Prop} (h : VC_ref09_at n0_0 n0_1 n0_2 n0_3p n0_3l n0_3c n0_4p n0_4l n0_4c n0_5 path1p path1l path1c e2_0 e2_1p e2_1l e2_1c e2_2 e2_3 e2_4 e2_5 e2_6 e2_7 e2_8p e2_8l e2_8c e2_9p e2_9l e2_9c e2_10 w J) : callJ Tryz.prog fn_ref09_at #[.agg ⟨[.int .i64 n0_0, .string n0_1, .string n0_2, .slice n0_3p n0_3l n0_3c, .slice n0_4p n0_4l n0_4c, .string n0_5]⟩, .slice path1p path1l path1c, .agg ⟨[.int .i64 e2_0, .slice e2_1p e2_1l e2_1c, .string e2_2, .string e2_3, .string e2_4, .int .i64 e2_5, .string e2_6, .string e2_7, .slice e2_8p e2_8l e2_8c, .slice e2_9p e2_9l e2_9c, .string e2_10]⟩] w [.agg [.int .i64, .str, .str, .slice, .slice, .str], .one (.int .i64)] J := vc_calls Tryz.func22 ann_ref09_at (Eq.mpr (eq_ref09_at n0_0 n0_1 n0_2 n0_3p n0_3l n0_3c n0_4p n0_4l n0_4c n0_5 path1p path1l path1c e2_0 e2_1p e2_1l e2_1c e2_2 e2_3 e2_4 e2_5 e2_6 e2_7 e2_8p e2_8l e2_8c e2_9p e2_9l e2_9c e2_10 w J) h)

/-- lectern/lecternref09.changed -/
def VC_ref09_changed (n0_0 : Int) (n0_1 : ByteArray) (n0_2 : ByteArray) (n0_3p : Option Addr) (n0_3l : Nat) (n0_3c : Nat) (n0_4p : Option Addr) (n0_4l : Nat) (n0_4c : Nat) (n0_5 : ByteArray) (e1_0 : Int) (e1_1p : Option Addr) (e1_1l : Nat) (e1_1c : Nat) (e1_2 : ByteArray) (e1_3 : ByteArray) (e1_4 : ByteArray) (e1_5 : Int) (e1_6 : ByteArray) (e1_7 : ByteArray) (e1_8p : Option Addr) (e1_8l : Nat) (e1_8c : Nat) (e1_9p : Option Addr) (e1_9l : Nat) (e1_9c : Nat) (e1_10 : ByteArray) (w : World) (J : Int → ByteArray → ByteArray → Option Addr → Nat → Nat → Option Addr → Nat → Nat → ByteArray → Int → World → Prop) : Prop :=
  newB w (.cells ⟨[.int .i64 n0_0, .string n0_1, .string n0_2, .slice n0_3p n0_3l n0_3c, .slice n0_4p n0_4l n0_4c, .string n0_5]⟩ T_api_Node) fun b2 w1 =>
  newB w1 (.cells ⟨[.int .i64 e1_0, .slice e1_1p e1_1l e1_1c, .string e1_2, .string e1_3, .string e1_4, .int .i64 e1_5, .string e1_6, .string e1_7, .slice e1_8p e1_8l e1_8c, .slice e1_9p e1_9l e1_9c, .string e1_10]⟩ T_ref09_Edit) fun b3 w2 =>
  newB w2 (.cells (zeroC Tryz.prog T_api_Node) T_api_Node) fun b4 w3 =>
  ldI .i64 w3 ⟨b3, 0, none⟩ fun x13 =>
  condB (x13 == (6 : Int)) (
  withJ (fun (x27 : Bool) (w4 : World) =>
  condB x27 (
  ldI .i64 w4 ⟨b2, 0, none⟩ fun x28_0 =>
  ldStr w4 ⟨b2, 1, none⟩ fun x28_1 =>
  ldStr w4 ⟨b2, 2, none⟩ fun x28_2 =>
  ldS w4 ⟨b2, 3, none⟩ fun x28_3p x28_3l x28_3c =>
  ldS w4 ⟨b2, 4, none⟩ fun x28_4p x28_4l x28_4c =>
  ldStr w4 ⟨b2, 5, none⟩ fun x28_5 =>
  stN w4 ⟨b4, 0, none⟩ ⟨[.int .i64 x28_0, .string x28_1, .string x28_2, .slice x28_3p x28_3l x28_3c, .slice x28_4p x28_4l x28_4c, .string x28_5]⟩ 6 fun w5 =>
  ldI .i64 w5 ⟨b4, 0, none⟩ fun r_0 =>
  ldStr w5 ⟨b4, 1, none⟩ fun r_1 =>
  ldStr w5 ⟨b4, 2, none⟩ fun r_2 =>
  ldS w5 ⟨b4, 3, none⟩ fun r_3p r_3l r_3c =>
  ldS w5 ⟨b4, 4, none⟩ fun r_4p r_4l r_4c =>
  ldStr w5 ⟨b4, 5, none⟩ fun r_5 =>
  J r_0 r_1 r_2 r_3p r_3l r_3c r_4p r_4l r_4c r_5 (33 : Int) w5) (
  ldStr w4 ⟨b3, 4, none⟩ fun x30 =>
  stV w4 ⟨b2, 5, none⟩ (.string x30) fun w6 =>
  ldI .i64 w6 ⟨b2, 0, none⟩ fun x32_0 =>
  ldStr w6 ⟨b2, 1, none⟩ fun x32_1 =>
  ldStr w6 ⟨b2, 2, none⟩ fun x32_2 =>
  ldS w6 ⟨b2, 3, none⟩ fun x32_3p x32_3l x32_3c =>
  ldS w6 ⟨b2, 4, none⟩ fun x32_4p x32_4l x32_4c =>
  ldStr w6 ⟨b2, 5, none⟩ fun x32_5 =>
  stN w6 ⟨b4, 0, none⟩ ⟨[.int .i64 x32_0, .string x32_1, .string x32_2, .slice x32_3p x32_3l x32_3c, .slice x32_4p x32_4l x32_4c, .string x32_5]⟩ 6 fun w7 =>
  ldI .i64 w7 ⟨b4, 0, none⟩ fun r_0_1 =>
  ldStr w7 ⟨b4, 1, none⟩ fun r_1_1 =>
  ldStr w7 ⟨b4, 2, none⟩ fun r_2_1 =>
  ldS w7 ⟨b4, 3, none⟩ fun r_3_1p r_3_1l r_3_1c =>
  ldS w7 ⟨b4, 4, none⟩ fun r_4_1p r_4_1l r_4_1c =>
  ldStr w7 ⟨b4, 5, none⟩ fun r_5_1 =>
  J r_0_1 r_1_1 r_2_1 r_3_1p r_3_1l r_3_1c r_4_1p r_4_1l r_4_1c r_5_1 (0 : Int) w7)) fun J_27 =>
  ldI .i64 w3 ⟨b2, 0, none⟩ fun x16 =>
  condB (x16 != (3 : Int)) (
  ldI .i64 w3 ⟨b2, 0, none⟩ fun x20 =>
  condB (x20 != (4 : Int)) (
  ldI .i64 w3 ⟨b2, 0, none⟩ fun x25 =>
  J_27 (x25 != (5 : Int)) w3) (
  J_27 false w3)) (
  J_27 false w3)) (
  ldI .i64 w3 ⟨b2, 0, none⟩ fun x34 =>
  condB (x34 != (2 : Int)) (
  ldI .i64 w3 ⟨b2, 0, none⟩ fun x36_0 =>
  ldStr w3 ⟨b2, 1, none⟩ fun x36_1 =>
  ldStr w3 ⟨b2, 2, none⟩ fun x36_2 =>
  ldS w3 ⟨b2, 3, none⟩ fun x36_3p x36_3l x36_3c =>
  ldS w3 ⟨b2, 4, none⟩ fun x36_4p x36_4l x36_4c =>
  ldStr w3 ⟨b2, 5, none⟩ fun x36_5 =>
  stN w3 ⟨b4, 0, none⟩ ⟨[.int .i64 x36_0, .string x36_1, .string x36_2, .slice x36_3p x36_3l x36_3c, .slice x36_4p x36_4l x36_4c, .string x36_5]⟩ 6 fun w8 =>
  ldI .i64 w8 ⟨b4, 0, none⟩ fun r_0_2 =>
  ldStr w8 ⟨b4, 1, none⟩ fun r_1_2 =>
  ldStr w8 ⟨b4, 2, none⟩ fun r_2_2 =>
  ldS w8 ⟨b4, 3, none⟩ fun r_3_2p r_3_2l r_3_2c =>
  ldS w8 ⟨b4, 4, none⟩ fun r_4_2p r_4_2l r_4_2c =>
  ldStr w8 ⟨b4, 5, none⟩ fun r_5_2 =>
  J r_0_2 r_1_2 r_2_2 r_3_2p r_3_2l r_3_2c r_4_2p r_4_2l r_4_2c r_5_2 (33 : Int) w8) (
  newB w3 (.cells ⟨[]⟩ T_api_Attr) fun b37 w9 =>
  ldS w9 ⟨b2, 3, none⟩ fun x39p x39l x39c =>
  ∃ I_6 : Option Addr → Nat → Nat → Bool → Int → World → Nat → Prop, (∃ m : Nat, I_6 (some ⟨b37, 0, none⟩) 0 0 false (0 : Int) w9 m) ∧ ∀ (l6p : Option Addr) (l6l : Nat) (l6c : Nat) (had7 : Bool) (x41 : Int) (w10 : World) (m : Nat), I_6 l6p l6l l6c had7 x41 w10 m → (
  condB (decide (x41 < ((x39l : Nat) : Int))) (
  withJ (fun (l6_1p : Option Addr) (l6_1l : Nat) (l6_1c : Nat) (had7_1 : Bool) (w11 : World) =>
  ∃ m' : Nat, m' < m ∧ I_6 l6_1p l6_1l l6_1c had7_1 (w64 (x41 + (1 : Int))) w11 m') fun J_6 =>
  idxA x39p x39l x41 fun a43 =>
  ldStr w10 ((a43.add (x41.toNat * 3))) fun x44_0 =>
  ldStr w10 (((a43.add (x41.toNat * 3)).add 1)) fun x44_1 =>
  ldStr w10 (((a43.add (x41.toNat * 3)).add 2)) fun x44_2 =>
  newB w10 (.cells (zeroC Tryz.prog T_api_Attr) T_api_Attr) fun b9 w12 =>
  stN w12 ⟨b9, 0, none⟩ ⟨[.string x44_0, .string x44_1, .string x44_2]⟩ 3 fun w13 =>
  ldStr w13 ⟨b9, 0, none⟩ fun x46_0 =>
  ldStr w13 ⟨b9, 1, none⟩ fun x46_1 =>
  ldStr w13 ⟨b3, 2, none⟩ fun x48_0 =>
  ldStr w13 ⟨b3, 3, none⟩ fun x48_1 =>
  condB (!((x46_0.toList == x48_0.toList) && ((x46_1.toList == x48_1.toList) && true))) (
  ldStr w13 ⟨b9, 0, none⟩ fun x51_0 =>
  ldStr w13 ⟨b9, 1, none⟩ fun x51_1 =>
  ldStr w13 ⟨b9, 2, none⟩ fun x51_2 =>
  Array.size (⟨[.string x51_0, .string x51_1, .string x51_2]⟩ : Array Value) = 3 ∧
  newB w13 (.cells ⟨[.string x51_0, .string x51_1, .string x51_2]⟩ T_api_Attr) fun b52 w14 =>
  appJ Tryz.prog T_sl_api_Attr T_sl_api_Attr (.slice l6p l6l l6c) (.slice (some ⟨b52, 0, none⟩) 1 1) w14 fun q53p q53l q53c w15 =>
  J_6 q53p q53l q53c had7 w15) (
  J_6 l6p l6l l6c true w13)) (
  ldI .i64 w10 ⟨b3, 0, none⟩ fun x56 =>
  condB (x56 == (5 : Int)) (
  stV w10 ⟨b2, 3, none⟩ (.slice l6p l6l l6c) fun w16 =>
  condB (!had7) (
  ldI .i64 w16 ⟨b2, 0, none⟩ fun x62_0 =>
  ldStr w16 ⟨b2, 1, none⟩ fun x62_1 =>
  ldStr w16 ⟨b2, 2, none⟩ fun x62_2 =>
  ldS w16 ⟨b2, 3, none⟩ fun x62_3p x62_3l x62_3c =>
  ldS w16 ⟨b2, 4, none⟩ fun x62_4p x62_4l x62_4c =>
  ldStr w16 ⟨b2, 5, none⟩ fun x62_5 =>
  stN w16 ⟨b4, 0, none⟩ ⟨[.int .i64 x62_0, .string x62_1, .string x62_2, .slice x62_3p x62_3l x62_3c, .slice x62_4p x62_4l x62_4c, .string x62_5]⟩ 6 fun w17 =>
  ldI .i64 w17 ⟨b4, 0, none⟩ fun r_0_3 =>
  ldStr w17 ⟨b4, 1, none⟩ fun r_1_3 =>
  ldStr w17 ⟨b4, 2, none⟩ fun r_2_3 =>
  ldS w17 ⟨b4, 3, none⟩ fun r_3_3p r_3_3l r_3_3c =>
  ldS w17 ⟨b4, 4, none⟩ fun r_4_3p r_4_3l r_4_3c =>
  ldStr w17 ⟨b4, 5, none⟩ fun r_5_3 =>
  J r_0_3 r_1_3 r_2_3 r_3_3p r_3_3l r_3_3c r_4_3p r_4_3l r_4_3c r_5_3 (7 : Int) w17) (
  ldI .i64 w16 ⟨b2, 0, none⟩ fun x63_0 =>
  ldStr w16 ⟨b2, 1, none⟩ fun x63_1 =>
  ldStr w16 ⟨b2, 2, none⟩ fun x63_2 =>
  ldS w16 ⟨b2, 3, none⟩ fun x63_3p x63_3l x63_3c =>
  ldS w16 ⟨b2, 4, none⟩ fun x63_4p x63_4l x63_4c =>
  ldStr w16 ⟨b2, 5, none⟩ fun x63_5 =>
  stN w16 ⟨b4, 0, none⟩ ⟨[.int .i64 x63_0, .string x63_1, .string x63_2, .slice x63_3p x63_3l x63_3c, .slice x63_4p x63_4l x63_4c, .string x63_5]⟩ 6 fun w18 =>
  ldI .i64 w18 ⟨b4, 0, none⟩ fun r_0_4 =>
  ldStr w18 ⟨b4, 1, none⟩ fun r_1_4 =>
  ldStr w18 ⟨b4, 2, none⟩ fun r_2_4 =>
  ldS w18 ⟨b4, 3, none⟩ fun r_3_4p r_3_4l r_3_4c =>
  ldS w18 ⟨b4, 4, none⟩ fun r_4_4p r_4_4l r_4_4c =>
  ldStr w18 ⟨b4, 5, none⟩ fun r_5_4 =>
  J r_0_4 r_1_4 r_2_4 r_3_4p r_3_4l r_3_4c r_4_4p r_4_4l r_4_4c r_5_4 (0 : Int) w18)) (
  ∃ I_10 : Int → World → Nat → Prop, (∃ m : Nat, I_10 (0 : Int) w10 m) ∧ ∀ (k10 : Int) (w19 : World) (m_1 : Nat), I_10 k10 w19 m_1 → (
  withJ (fun (x77 : Bool) (w20 : World) =>
  condB x77 (
  ∃ m' : Nat, m' < m_1 ∧ I_10 (w64 (k10 + (1 : Int))) w20 m') (
  newB w20 (.cells ⟨[]⟩ T_api_Attr) fun b80 w21 =>
  slS l6p l6l l6c 3 none (some k10) none fun q83p q83l q83c =>
  appJ Tryz.prog T_sl_api_Attr T_sl_api_Attr (.slice (some ⟨b80, 0, none⟩) 0 0) (.slice q83p q83l q83c) w21 fun q84p q84l q84c w22 =>
  ldStr w22 ⟨b3, 2, none⟩ fun x87_0 =>
  ldStr w22 ⟨b3, 3, none⟩ fun x87_1 =>
  ldStr w22 ⟨b3, 4, none⟩ fun x89 =>
  Array.size (⟨[.string x87_0, .string x87_1]⟩ : Array Value) = 2 ∧
  Array.size (⟨[.string x87_0, .string x87_1, .string x89]⟩ : Array Value) = 3 ∧
  newB w22 (.cells ⟨[.string x87_0, .string x87_1, .string x89]⟩ T_api_Attr) fun b91 w23 =>
  appJ Tryz.prog T_sl_api_Attr T_sl_api_Attr (.slice q84p q84l q84c) (.slice (some ⟨b91, 0, none⟩) 1 1) w23 fun q92p q92l q92c w24 =>
  slS l6p l6l l6c 3 (some k10) none none fun q96p q96l q96c =>
  appJ Tryz.prog T_sl_api_Attr T_sl_api_Attr (.slice q92p q92l q92c) (.slice q96p q96l q96c) w24 fun q97p q97l q97c w25 =>
  stV w25 ⟨b2, 3, none⟩ (.slice q97p q97l q97c) fun w26 =>
  ldI .i64 w26 ⟨b2, 0, none⟩ fun x99_0 =>
  ldStr w26 ⟨b2, 1, none⟩ fun x99_1 =>
  ldStr w26 ⟨b2, 2, none⟩ fun x99_2 =>
  ldS w26 ⟨b2, 3, none⟩ fun x99_3p x99_3l x99_3c =>
  ldS w26 ⟨b2, 4, none⟩ fun x99_4p x99_4l x99_4c =>
  ldStr w26 ⟨b2, 5, none⟩ fun x99_5 =>
  stN w26 ⟨b4, 0, none⟩ ⟨[.int .i64 x99_0, .string x99_1, .string x99_2, .slice x99_3p x99_3l x99_3c, .slice x99_4p x99_4l x99_4c, .string x99_5]⟩ 6 fun w27 =>
  ldI .i64 w27 ⟨b4, 0, none⟩ fun r_0_5 =>
  ldStr w27 ⟨b4, 1, none⟩ fun r_1_5 =>
  ldStr w27 ⟨b4, 2, none⟩ fun r_2_5 =>
  ldS w27 ⟨b4, 3, none⟩ fun r_3_5p r_3_5l r_3_5c =>
  ldS w27 ⟨b4, 4, none⟩ fun r_4_5p r_4_5l r_4_5c =>
  ldStr w27 ⟨b4, 5, none⟩ fun r_5_5 =>
  J r_0_5 r_1_5 r_2_5 r_3_5p r_3_5l r_3_5c r_4_5p r_4_5l r_4_5c r_5_5 (0 : Int) w27)) fun J_77 =>
  condB (decide (k10 < ((l6l : Nat) : Int))) (
  idxA l6p l6l k10 fun a71 =>
  ldStr w19.drew ((a71.add (k10.toNat * 3))) fun x73_0 =>
  ldStr w19.drew (((a71.add (k10.toNat * 3)).add 1)) fun x73_1 =>
  ldStr w19.drew ⟨b3, 2, none⟩ fun x75_0 =>
  ldStr w19.drew ⟨b3, 3, none⟩ fun x75_1 =>
  callJ Tryz.prog fn_ref04_Before #[.agg ⟨[.string x73_0, .string x73_1]⟩, .agg ⟨[.string x75_0, .string x75_1]⟩] w19.drew [.one .bool] fun (r76 : Bool) (w28 : World) =>
  J_77 r76 w28) (
  J_77 false w19.drew)))))))
def ann_ref09_changed : Ann := .s (.o) (.s (.s (.o) (.c (.s (.j [(27, .bool)] (.o) (.c (.s (.o) (.o)) (.o))) (.s (.o) (.s (.o) (.o)))) (.o))) (.s (.s (.o) (.c (.s (.o) (.o)) (.o))) (.s (.o) (.s (.o) (.s (.s (.o) (.b (.l [(6, .slice), (7, .bool), (41, .int .i64)] (.s (.o) (.s (.c (.o) (.o)) (.j [(6, .slice), (7, .bool)] (.b (.s (.o) (.s (.o) (.c (.o) (.o))))) (.o))))))) (.s (.s (.o) (.c (.s (.o) (.s (.s (.o) (.c (.s (.o) (.o)) (.o))) (.s (.o) (.o)))) (.o))) (.s (.o) (.s (.b (.l [(10, .int .i64)] (.s (.j [(77, .bool)] (.d (.take 0 (.take 1 (.take 2 (.take 3 (.take 4 (.take 5 (.take 6 (.take 7 (.take 8 (.take 9 (.take 10 (.take 11 (.eff 12 (.take 13 (.done)) (.none))))))))))))))) (.c (.o) (.o))) (.b (.o))))) (.s (.o) (.s (.o) (.s (.o) (.s (.o) (.o)))))))))))))
theorem eq_ref09_changed (n0_0 : Int) (n0_1 : ByteArray) (n0_2 : ByteArray) (n0_3p : Option Addr) (n0_3l : Nat) (n0_3c : Nat) (n0_4p : Option Addr) (n0_4l : Nat) (n0_4c : Nat) (n0_5 : ByteArray) (e1_0 : Int) (e1_1p : Option Addr) (e1_1l : Nat) (e1_1c : Nat) (e1_2 : ByteArray) (e1_3 : ByteArray) (e1_4 : ByteArray) (e1_5 : Int) (e1_6 : ByteArray) (e1_7 : ByteArray) (e1_8p : Option Addr) (e1_8l : Nat) (e1_8c : Nat) (e1_9p : Option Addr) (e1_9l : Nat) (e1_9c : Nat) (e1_10 : ByteArray) (w : World) (J : Int → ByteArray → ByteArray → Option Addr → Nat → Nat → Option Addr → Nat → Nat → ByteArray → Int → World → Prop) : vcFun Tryz.prog Tryz.f49 ann_ref09_changed [.agg [.int .i64, .str, .str, .slice, .slice, .str], .one (.int .i64)] [.agg ⟨[.int .i64 n0_0, .string n0_1, .string n0_2, .slice n0_3p n0_3l n0_3c, .slice n0_4p n0_4l n0_4c, .string n0_5]⟩, .agg ⟨[.int .i64 e1_0, .slice e1_1p e1_1l e1_1c, .string e1_2, .string e1_3, .string e1_4, .int .i64 e1_5, .string e1_6, .string e1_7, .slice e1_8p e1_8l e1_8c, .slice e1_9p e1_9l e1_9c, .string e1_10]⟩] w J = VC_ref09_changed n0_0 n0_1 n0_2 n0_3p n0_3l n0_3c n0_4p n0_4l n0_4c n0_5 e1_0 e1_1p e1_1l e1_1c e1_2 e1_3 e1_4 e1_5 e1_6 e1_7 e1_8p e1_8l e1_8c e1_9p e1_9l e1_9c e1_10 w J := by kernel_rfl
theorem c_ref09_changed {n0_0 : Int} {n0_1 : ByteArray} {n0_2 : ByteArray} {n0_3p : Option Addr} {n0_3l : Nat} {n0_3c : Nat} {n0_4p : Option Addr} {n0_4l : Nat} {n0_4c : Nat} {n0_5 : ByteArray} {e1_0 : Int} {e1_1p : Option Addr} {e1_1l : Nat} {e1_1c : Nat} {e1_2 : ByteArray} {e1_3 : ByteArray} {e1_4 : ByteArray} {e1_5 : Int} {e1_6 : ByteArray} {e1_7 : ByteArray} {e1_8p : Option Addr} {e1_8l : Nat} {e1_8c : Nat} {e1_9p : Option Addr} {e1_9l : Nat} {e1_9c : Nat} {e1_10 : ByteArray} {w : World} {J : Int → ByteArray → ByteArray → Option Addr → Nat → Nat → Option Addr → Nat → Nat → ByteArray → Int → World → Prop} (h : VC_ref09_changed n0_0 n0_1 n0_2 n0_3p n0_3l n0_3c n0_4p n0_4l n0_4c n0_5 e1_0 e1_1p e1_1l e1_1c e1_2 e1_3 e1_4 e1_5 e1_6 e1_7 e1_8p e1_8l e1_8c e1_9p e1_9l e1_9c e1_10 w J) : callJ Tryz.prog fn_ref09_changed #[.agg ⟨[.int .i64 n0_0, .string n0_1, .string n0_2, .slice n0_3p n0_3l n0_3c, .slice n0_4p n0_4l n0_4c, .string n0_5]⟩, .agg ⟨[.int .i64 e1_0, .slice e1_1p e1_1l e1_1c, .string e1_2, .string e1_3, .string e1_4, .int .i64 e1_5, .string e1_6, .string e1_7, .slice e1_8p e1_8l e1_8c, .slice e1_9p e1_9l e1_9c, .string e1_10]⟩] w [.agg [.int .i64, .str, .str, .slice, .slice, .str], .one (.int .i64)] J := vc_calls Tryz.func49 ann_ref09_changed (Eq.mpr (eq_ref09_changed n0_0 n0_1 n0_2 n0_3p n0_3l n0_3c n0_4p n0_4l n0_4c n0_5 e1_0 e1_1p e1_1l e1_1c e1_2 e1_3 e1_4 e1_5 e1_6 e1_7 e1_8p e1_8l e1_8c e1_9p e1_9l e1_9c e1_10 w J) h)

/-- lectern/lecternref09.kids -/
def VC_ref09_kids (l0p : Option Addr) (l0l : Nat) (l0c : Nat) (from1 : Int) (to2 : Int) (put3p : Option Addr) (put3l : Nat) (put3c : Nat) (w : World) (J : Option Addr → Nat → Nat → World → Prop) : Prop :=
  newB w (.cells ⟨[]⟩ T_api_Node) fun b14 w1 =>
  ∃ I_9 : Option Addr → Nat → Nat → Int → World → Nat → Prop, (∃ m : Nat, I_9 (some ⟨b14, 0, none⟩) 0 0 (0 : Int) w1 m) ∧ ∀ (out9p : Option Addr) (out9l : Nat) (out9c : Nat) (i10 : Int) (w2 : World) (m : Nat), I_9 out9p out9l out9c i10 w2 m → (
  condB (decide (i10 < from1)) (
  idxA l0p l0l i10 fun a23 =>
  ldI .i64 w2 ((a23.add (i10.toNat * 6))) fun x24_0 =>
  ldStr w2 (((a23.add (i10.toNat * 6)).add 1)) fun x24_1 =>
  ldStr w2 (((a23.add (i10.toNat * 6)).add 2)) fun x24_2 =>
  ldS w2 (((a23.add (i10.toNat * 6)).add 3)) fun x24_3p x24_3l x24_3c =>
  ldS w2 (((a23.add (i10.toNat * 6)).add 4)) fun x24_4p x24_4l x24_4c =>
  ldStr w2 (((a23.add (i10.toNat * 6)).add 5)) fun x24_5 =>
  callJ Tryz.prog fn_ref05_Twin #[.agg ⟨[.int .i64 x24_0, .string x24_1, .string x24_2, .slice x24_3p x24_3l x24_3c, .slice x24_4p x24_4l x24_4c, .string x24_5]⟩] w2 [.agg [.int .i64, .str, .str, .slice, .slice, .str]] fun (r25_0 : Int) (r25_1 : ByteArray) (r25_2 : ByteArray) (r25_3p : Option Addr) (r25_3l : Nat) (r25_3c : Nat) (r25_4p : Option Addr) (r25_4l : Nat) (r25_4c : Nat) (r25_5 : ByteArray) (w3 : World) =>
  Array.size (⟨[.int .i64 r25_0, .string r25_1, .string r25_2, .slice r25_3p r25_3l r25_3c, .slice r25_4p r25_4l r25_4c, .string r25_5]⟩ : Array Value) = 6 ∧
  newB w3 (.cells ⟨[.int .i64 r25_0, .string r25_1, .string r25_2, .slice r25_3p r25_3l r25_3c, .slice r25_4p r25_4l r25_4c, .string r25_5]⟩ T_api_Node) fun b26 w4 =>
  appJ Tryz.prog T_sl_api_Node T_sl_api_Node (.slice out9p out9l out9c) (.slice (some ⟨b26, 0, none⟩) 1 1) w4 fun q27p q27l q27c w5 =>
  ∃ m' : Nat, m' < m ∧ I_9 q27p q27l q27c (w64 (i10 + (1 : Int))) w5 m') (
  ∃ I_9_1 : Option Addr → Nat → Nat → Int → World → Nat → Prop, (∃ m : Nat, I_9_1 out9p out9l out9c (0 : Int) w2 m) ∧ ∀ (out9_1p : Option Addr) (out9_1l : Nat) (out9_1c : Nat) (x30 : Int) (w6 : World) (m_1 : Nat), I_9_1 out9_1p out9_1l out9_1c x30 w6 m_1 → (
  condB (decide (x30 < ((put3l : Nat) : Int))) (
  idxA put3p put3l x30 fun a32 =>
  ldI .i64 w6 ((a32.add (x30.toNat * 6))) fun x33_0 =>
  ldStr w6 (((a32.add (x30.toNat * 6)).add 1)) fun x33_1 =>
  ldStr w6 (((a32.add (x30.toNat * 6)).add 2)) fun x33_2 =>
  ldS w6 (((a32.add (x30.toNat * 6)).add 3)) fun x33_3p x33_3l x33_3c =>
  ldS w6 (((a32.add (x30.toNat * 6)).add 4)) fun x33_4p x33_4l x33_4c =>
  ldStr w6 (((a32.add (x30.toNat * 6)).add 5)) fun x33_5 =>
  newB w6 (.cells (zeroC Tryz.prog T_api_Node) T_api_Node) fun b12 w7 =>
  stN w7 ⟨b12, 0, none⟩ ⟨[.int .i64 x33_0, .string x33_1, .string x33_2, .slice x33_3p x33_3l x33_3c, .slice x33_4p x33_4l x33_4c, .string x33_5]⟩ 6 fun w8 =>
  ldI .i64 w8 ⟨b12, 0, none⟩ fun x35_0 =>
  ldStr w8 ⟨b12, 1, none⟩ fun x35_1 =>
  ldStr w8 ⟨b12, 2, none⟩ fun x35_2 =>
  ldS w8 ⟨b12, 3, none⟩ fun x35_3p x35_3l x35_3c =>
  ldS w8 ⟨b12, 4, none⟩ fun x35_4p x35_4l x35_4c =>
  ldStr w8 ⟨b12, 5, none⟩ fun x35_5 =>
  callJ Tryz.prog fn_ref05_Twin #[.agg ⟨[.int .i64 x35_0, .string x35_1, .string x35_2, .slice x35_3p x35_3l x35_3c, .slice x35_4p x35_4l x35_4c, .string x35_5]⟩] w8 [.agg [.int .i64, .str, .str, .slice, .slice, .str]] fun (r36_0 : Int) (r36_1 : ByteArray) (r36_2 : ByteArray) (r36_3p : Option Addr) (r36_3l : Nat) (r36_3c : Nat) (r36_4p : Option Addr) (r36_4l : Nat) (r36_4c : Nat) (r36_5 : ByteArray) (w9 : World) =>
  Array.size (⟨[.int .i64 r36_0, .string r36_1, .string r36_2, .slice r36_3p r36_3l r36_3c, .slice r36_4p r36_4l r36_4c, .string r36_5]⟩ : Array Value) = 6 ∧
  newB w9 (.cells ⟨[.int .i64 r36_0, .string r36_1, .string r36_2, .slice r36_3p r36_3l r36_3c, .slice r36_4p r36_4l r36_4c, .string r36_5]⟩ T_api_Node) fun b37 w10 =>
  appJ Tryz.prog T_sl_api_Node T_sl_api_Node (.slice out9_1p out9_1l out9_1c) (.slice (some ⟨b37, 0, none⟩) 1 1) w10 fun q38p q38l q38c w11 =>
  ∃ m' : Nat, m' < m_1 ∧ I_9_1 q38p q38l q38c (w64 (x30 + (1 : Int))) w11 m') (
  ∃ I_9_2 : Option Addr → Nat → Nat → Int → World → Nat → Prop, (∃ m : Nat, I_9_2 out9_1p out9_1l out9_1c to2 w6 m) ∧ ∀ (out9_2p : Option Addr) (out9_2l : Nat) (out9_2c : Nat) (i13 : Int) (w12 : World) (m_2 : Nat), I_9_2 out9_2p out9_2l out9_2c i13 w12 m_2 → (
  condB (decide (i13 < ((l0l : Nat) : Int))) (
  idxA l0p l0l i13 fun a50 =>
  ldI .i64 w12 ((a50.add (i13.toNat * 6))) fun x51_0 =>
  ldStr w12 (((a50.add (i13.toNat * 6)).add 1)) fun x51_1 =>
  ldStr w12 (((a50.add (i13.toNat * 6)).add 2)) fun x51_2 =>
  ldS w12 (((a50.add (i13.toNat * 6)).add 3)) fun x51_3p x51_3l x51_3c =>
  ldS w12 (((a50.add (i13.toNat * 6)).add 4)) fun x51_4p x51_4l x51_4c =>
  ldStr w12 (((a50.add (i13.toNat * 6)).add 5)) fun x51_5 =>
  callJ Tryz.prog fn_ref05_Twin #[.agg ⟨[.int .i64 x51_0, .string x51_1, .string x51_2, .slice x51_3p x51_3l x51_3c, .slice x51_4p x51_4l x51_4c, .string x51_5]⟩] w12 [.agg [.int .i64, .str, .str, .slice, .slice, .str]] fun (r52_0 : Int) (r52_1 : ByteArray) (r52_2 : ByteArray) (r52_3p : Option Addr) (r52_3l : Nat) (r52_3c : Nat) (r52_4p : Option Addr) (r52_4l : Nat) (r52_4c : Nat) (r52_5 : ByteArray) (w13 : World) =>
  Array.size (⟨[.int .i64 r52_0, .string r52_1, .string r52_2, .slice r52_3p r52_3l r52_3c, .slice r52_4p r52_4l r52_4c, .string r52_5]⟩ : Array Value) = 6 ∧
  newB w13 (.cells ⟨[.int .i64 r52_0, .string r52_1, .string r52_2, .slice r52_3p r52_3l r52_3c, .slice r52_4p r52_4l r52_4c, .string r52_5]⟩ T_api_Node) fun b53 w14 =>
  appJ Tryz.prog T_sl_api_Node T_sl_api_Node (.slice out9_2p out9_2l out9_2c) (.slice (some ⟨b53, 0, none⟩) 1 1) w14 fun q54p q54l q54c w15 =>
  ∃ m' : Nat, m' < m_2 ∧ I_9_2 q54p q54l q54c (w64 (i13 + (1 : Int))) w15 m') (
  J out9_2p out9_2l out9_2c w12))))))
def ann_ref09_kids : Ann := .s (.o) (.s (.o) (.s (.s (.o) (.b (.l [(9, .slice), (10, .int .i64)] (.s (.s (.o) (.c (.o) (.o))) (.s (.b (.o)) (.o)))))) (.s (.s (.o) (.b (.l [(9, .slice), (30, .int .i64)] (.s (.o) (.s (.c (.o) (.o)) (.s (.b (.s (.o) (.o))) (.o))))))) (.s (.s (.o) (.b (.l [(9, .slice), (13, .int .i64)] (.s (.s (.o) (.c (.o) (.o))) (.s (.b (.o)) (.o)))))) (.s (.o) (.o))))))
theorem eq_ref09_kids (l0p : Option Addr) (l0l : Nat) (l0c : Nat) (from1 : Int) (to2 : Int) (put3p : Option Addr) (put3l : Nat) (put3c : Nat) (w : World) (J : Option Addr → Nat → Nat → World → Prop) : vcFun Tryz.prog Tryz.f48 ann_ref09_kids [.one .slice] [.slice l0p l0l l0c, .int .i64 from1, .int .i64 to2, .slice put3p put3l put3c] w J = VC_ref09_kids l0p l0l l0c from1 to2 put3p put3l put3c w J := by kernel_rfl
theorem c_ref09_kids {l0p : Option Addr} {l0l : Nat} {l0c : Nat} {from1 : Int} {to2 : Int} {put3p : Option Addr} {put3l : Nat} {put3c : Nat} {w : World} {J : Option Addr → Nat → Nat → World → Prop} (h : VC_ref09_kids l0p l0l l0c from1 to2 put3p put3l put3c w J) : callJ Tryz.prog fn_ref09_kids #[.slice l0p l0l l0c, .int .i64 from1, .int .i64 to2, .slice put3p put3l put3c] w [.one .slice] J := vc_calls Tryz.func48 ann_ref09_kids (Eq.mpr (eq_ref09_kids l0p l0l l0c from1 to2 put3p put3l put3c w J) h)

end Go.Proofs.YtkgfbphdmnapdaaGreatDoor
