/- What the conditions of these functions are, reckoned by the reading; printed by program. -/
import Derived.Test.YtkgfbphdmnapdaaGreatDoorNm
import Derived.KernelRfl
set_option maxRecDepth 100000
set_option linter.unusedVariables false
namespace Go.Proofs.YtkgfbphdmnapdaaGreatDoor
open Go Go.Vc

/-- lectern/lecternlaw09.awake -/
def VC_law09_awake  (w : World) (J : Bool → World → Prop) : Prop :=
  callJ Tryz.prog fn_law09_little #[] w [.agg [.int .i64, .str, .str, .slice, .slice, .str]] fun (r8_0 : Int) (r8_1 : ByteArray) (r8_2 : ByteArray) (r8_3p : Option Addr) (r8_3l : Nat) (r8_3c : Nat) (r8_4p : Option Addr) (r8_4l : Nat) (r8_4c : Nat) (r8_5 : ByteArray) (w1 : World) =>
  newB w1 (.cells ⟨[.int .i64 (0 : Int), .int .i64 (0 : Int)]⟩ T_int) fun b9 w2 =>
  callJ Tryz.prog fn_edit_Apply #[.agg ⟨[.int .i64 r8_0, .string r8_1, .string r8_2, .slice r8_3p r8_3l r8_3c, .slice r8_4p r8_4l r8_4c, .string r8_5]⟩, .agg ⟨[.int .i64 (2 : Int), .slice (some ⟨b9, 0, none⟩) 2 2, .string ByteArray.empty, .string ByteArray.empty, .string ByteArray.empty, .int .i64 (0 : Int), .string ByteArray.empty, .string ByteArray.empty, .slice none 0 0, .slice none 0 0, .string ByteArray.empty]⟩] w2 [.agg [.int .i64, .str, .str, .slice, .slice, .str], .one (.int .i64)] fun (r11_0_0 : Int) (r11_0_1 : ByteArray) (r11_0_2 : ByteArray) (r11_0_3p : Option Addr) (r11_0_3l : Nat) (r11_0_3c : Nat) (r11_0_4p : Option Addr) (r11_0_4l : Nat) (r11_0_4c : Nat) (r11_0_5 : ByteArray) (r11_1 : Int) (w3 : World) =>
  newB w3 (.cells (zeroC Tryz.prog T_api_Node) T_api_Node) fun b1 w4 =>
  stN w4 ⟨b1, 0, none⟩ ⟨[.int .i64 r11_0_0, .string r11_0_1, .string r11_0_2, .slice r11_0_3p r11_0_3l r11_0_3c, .slice r11_0_4p r11_0_4l r11_0_4c, .string r11_0_5]⟩ 6 fun w5 =>
  callJ Tryz.prog fn_law09_little #[] w5 [.agg [.int .i64, .str, .str, .slice, .slice, .str]] fun (r15_0 : Int) (r15_1 : ByteArray) (r15_2 : ByteArray) (r15_3p : Option Addr) (r15_3l : Nat) (r15_3c : Nat) (r15_4p : Option Addr) (r15_4l : Nat) (r15_4c : Nat) (r15_5 : ByteArray) (w6 : World) =>
  newB w6 (.cells ⟨[.int .i64 (0 : Int)]⟩ T_int) fun b16 w7 =>
  callJ Tryz.prog fn_edit_Apply #[.agg ⟨[.int .i64 r15_0, .string r15_1, .string r15_2, .slice r15_3p r15_3l r15_3c, .slice r15_4p r15_4l r15_4c, .string r15_5]⟩, .agg ⟨[.int .i64 (2 : Int), .slice (some ⟨b16, 0, none⟩) 1 1, .string ByteArray.empty, .string ByteArray.empty, .string ByteArray.empty, .int .i64 (0 : Int), .string ByteArray.empty, .string ByteArray.empty, .slice none 0 0, .slice none 0 0, .string ByteArray.empty]⟩] w7 [.agg [.int .i64, .str, .str, .slice, .slice, .str], .one (.int .i64)] fun (r18_0_0 : Int) (r18_0_1 : ByteArray) (r18_0_2 : ByteArray) (r18_0_3p : Option Addr) (r18_0_3l : Nat) (r18_0_3c : Nat) (r18_0_4p : Option Addr) (r18_0_4l : Nat) (r18_0_4c : Nat) (r18_0_5 : ByteArray) (r18_1 : Int) (w8 : World) =>
  newB w8 (.cells (zeroC Tryz.prog T_api_Node) T_api_Node) fun b3 w9 =>
  stN w9 ⟨b3, 0, none⟩ ⟨[.int .i64 r18_0_0, .string r18_0_1, .string r18_0_2, .slice r18_0_3p r18_0_3l r18_0_3c, .slice r18_0_4p r18_0_4l r18_0_4c, .string r18_0_5]⟩ 6 fun w10 =>
  callJ Tryz.prog fn_law09_little #[] w10 [.agg [.int .i64, .str, .str, .slice, .slice, .str]] fun (r22_0 : Int) (r22_1 : ByteArray) (r22_2 : ByteArray) (r22_3p : Option Addr) (r22_3l : Nat) (r22_3c : Nat) (r22_4p : Option Addr) (r22_4l : Nat) (r22_4c : Nat) (r22_5 : ByteArray) (w11 : World) =>
  newB w11 (.cells ⟨[.int .i64 (0 : Int), .int .i64 (0 : Int)]⟩ T_int) fun b23 w12 =>
  callJ Tryz.prog fn_edit_Back #[.agg ⟨[.int .i64 r22_0, .string r22_1, .string r22_2, .slice r22_3p r22_3l r22_3c, .slice r22_4p r22_4l r22_4c, .string r22_5]⟩, .agg ⟨[.int .i64 (2 : Int), .slice (some ⟨b23, 0, none⟩) 2 2, .string ByteArray.empty, .string ByteArray.empty, .string ByteArray.empty, .int .i64 (0 : Int), .string ByteArray.empty, .string ByteArray.empty, .slice none 0 0, .slice none 0 0, .string ByteArray.empty]⟩] w12 [.agg [.int .i64, .slice, .str, .str, .str, .int .i64, .str, .str, .slice, .slice, .str], .one (.int .i64)] fun (r25_0_0 : Int) (r25_0_1p : Option Addr) (r25_0_1l : Nat) (r25_0_1c : Nat) (r25_0_2 : ByteArray) (r25_0_3 : ByteArray) (r25_0_4 : ByteArray) (r25_0_5 : Int) (r25_0_6 : ByteArray) (r25_0_7 : ByteArray) (r25_0_8p : Option Addr) (r25_0_8l : Nat) (r25_0_8c : Nat) (r25_0_9p : Option Addr) (r25_0_9l : Nat) (r25_0_9c : Nat) (r25_0_10 : ByteArray) (r25_1 : Int) (w13 : World) =>
  newB w13 (.cells (zeroC Tryz.prog T_edit_Edit) T_edit_Edit) fun b5 w14 =>
  stN w14 ⟨b5, 0, none⟩ ⟨[.int .i64 r25_0_0, .slice r25_0_1p r25_0_1l r25_0_1c, .string r25_0_2, .string r25_0_3, .string r25_0_4, .int .i64 r25_0_5, .string r25_0_6, .string r25_0_7, .slice r25_0_8p r25_0_8l r25_0_8c, .slice r25_0_9p r25_0_9l r25_0_9c, .string r25_0_10]⟩ 11 fun w15 =>
  withJ (fun (x0 : Bool) (w16 : World) =>
  J x0 w16) fun J_0 =>
  condB (r11_1 == (0 : Int)) (
  condB (r18_1 == (30 : Int)) (
  condB (r25_1 == (0 : Int)) (
  ldS w15 ⟨b1, 4, none⟩ fun x40p x40l x40c =>
  condB (((x40l : Nat) : Int) == (1 : Int)) (
  ldS w15 ⟨b1, 4, none⟩ fun x46p x46l x46c =>
  idxA x46p x46l (0 : Int) fun a47 =>
  ldS w15 (((a47.add ((0 : Int).toNat * 6)).add 4)) fun x49p x49l x49c =>
  condB (((x49l : Nat) : Int) == (1 : Int)) (
  ldI .i64 w15 ⟨b5, 0, none⟩ fun x55 =>
  condB (x55 == (1 : Int)) (
  ldStr w15 ⟨b5, 10, none⟩ fun x61 =>
  J_0 (x61.toList == (⟨#[120]⟩ : ByteArray).toList) w15) (
  J_0 false w15)) (
  J_0 false w15)) (
  J_0 false w15)) (
  J_0 false w15)) (
  J_0 false w15)) (
  J_0 false w15)
def ann_law09_awake : Ann := .s (.o) (.s (.o) (.s (.o) (.s (.o) (.j [(0, .bool)] (.o) (.o)))))
theorem eq_law09_awake  (w : World) (J : Bool → World → Prop) : vcFun Tryz.prog Tryz.f6 ann_law09_awake [.one .bool] [] w J = VC_law09_awake  w J := by kernel_rfl
theorem c_law09_awake {w : World} {J : Bool → World → Prop} (h : VC_law09_awake  w J) : callJ Tryz.prog fn_law09_awake #[] w [.one .bool] J := vc_calls Tryz.func6 ann_law09_awake (Eq.mpr (eq_law09_awake  w J) h)

/-- lectern/lecternlaw09.little -/
def VC_law09_little  (w : World) (J : Int → ByteArray → ByteArray → Option Addr → Nat → Nat → Option Addr → Nat → Nat → ByteArray → World → Prop) : Prop :=
  newB w (.cells (zeroC Tryz.prog T_api_Node) T_api_Node) fun b0 w1 =>
  Array.size (⟨[.string ByteArray.empty, .string ⟨#[98]⟩]⟩ : Array Value) = 2 ∧
  Array.size (⟨[.string ByteArray.empty, .string ⟨#[98]⟩, .string ⟨#[49]⟩]⟩ : Array Value) = 3 ∧
  newB w1 (.cells ⟨[.string ByteArray.empty, .string ⟨#[98]⟩, .string ⟨#[49]⟩]⟩ T_api_Attr) fun b5 w2 =>
  Array.size (⟨[.string ByteArray.empty, .string ⟨#[97]⟩]⟩ : Array Value) = 2 ∧
  newB w2 (.cells (zeroC Tryz.prog T_api_Node) T_api_Node) fun b1 w3 =>
  stN w3 ⟨b1, 0, none⟩ ⟨[.int .i64 (2 : Int), .string ByteArray.empty, .string ⟨#[97]⟩, .slice (some ⟨b5, 0, none⟩) 1 1, .slice none 0 0, .string ByteArray.empty]⟩ 6 fun w4 =>
  Array.size (⟨[.string ByteArray.empty, .string ⟨#[99]⟩]⟩ : Array Value) = 2 ∧
  Array.size (⟨[.int .i64 (3 : Int), .string ByteArray.empty, .string ByteArray.empty, .slice none 0 0, .slice none 0 0, .string ⟨#[120]⟩]⟩ : Array Value) = 6 ∧
  Array.size (⟨[.int .i64 (2 : Int), .string ByteArray.empty, .string ⟨#[99]⟩, .slice none 0 0, .slice none 0 0, .string ByteArray.empty]⟩ : Array Value) = 6 ∧
  newB w4 (.cells ⟨[.int .i64 (3 : Int), .string ByteArray.empty, .string ByteArray.empty, .slice none 0 0, .slice none 0 0, .string ⟨#[120]⟩, .int .i64 (2 : Int), .string ByteArray.empty, .string ⟨#[99]⟩, .slice none 0 0, .slice none 0 0, .string ByteArray.empty]⟩ T_api_Node) fun b10 w5 =>
  stV w5 ⟨b1, 4, none⟩ (.slice (some ⟨b10, 0, none⟩) 2 2) fun w6 =>
  ldI .i64 w6 ⟨b1, 0, none⟩ fun x12_0 =>
  ldStr w6 ⟨b1, 1, none⟩ fun x12_1 =>
  ldStr w6 ⟨b1, 2, none⟩ fun x12_2 =>
  ldS w6 ⟨b1, 3, none⟩ fun x12_3p x12_3l x12_3c =>
  ldS w6 ⟨b1, 4, none⟩ fun x12_4p x12_4l x12_4c =>
  ldStr w6 ⟨b1, 5, none⟩ fun x12_5 =>
  Array.size (⟨[.int .i64 x12_0, .string x12_1, .string x12_2, .slice x12_3p x12_3l x12_3c, .slice x12_4p x12_4l x12_4c, .string x12_5]⟩ : Array Value) = 6 ∧
  newB w6 (.cells ⟨[.int .i64 x12_0, .string x12_1, .string x12_2, .slice x12_3p x12_3l x12_3c, .slice x12_4p x12_4l x12_4c, .string x12_5]⟩ T_api_Node) fun b13 w7 =>
  stN w7 ⟨b0, 0, none⟩ ⟨[.int .i64 (1 : Int), .string ByteArray.empty, .string ByteArray.empty, .slice none 0 0, .slice (some ⟨b13, 0, none⟩) 1 1, .string ByteArray.empty]⟩ 6 fun w8 =>
  ldI .i64 w8 ⟨b0, 0, none⟩ fun r_0 =>
  ldStr w8 ⟨b0, 1, none⟩ fun r_1 =>
  ldStr w8 ⟨b0, 2, none⟩ fun r_2 =>
  ldS w8 ⟨b0, 3, none⟩ fun r_3p r_3l r_3c =>
  ldS w8 ⟨b0, 4, none⟩ fun r_4p r_4l r_4c =>
  ldStr w8 ⟨b0, 5, none⟩ fun r_5 =>
  J r_0 r_1 r_2 r_3p r_3l r_3c r_4p r_4l r_4c r_5 w8
def ann_law09_little : Ann := .s (.o) (.s (.o) (.s (.o) (.s (.o) (.o))))
theorem eq_law09_little  (w : World) (J : Int → ByteArray → ByteArray → Option Addr → Nat → Nat → Option Addr → Nat → Nat → ByteArray → World → Prop) : vcFun Tryz.prog Tryz.f17 ann_law09_little [.agg [.int .i64, .str, .str, .slice, .slice, .str]] [] w J = VC_law09_little  w J := by kernel_rfl
theorem c_law09_little {w : World} {J : Int → ByteArray → ByteArray → Option Addr → Nat → Nat → Option Addr → Nat → Nat → ByteArray → World → Prop} (h : VC_law09_little  w J) : callJ Tryz.prog fn_law09_little #[] w [.agg [.int .i64, .str, .str, .slice, .slice, .str]] J := vc_calls Tryz.func17 ann_law09_little (Eq.mpr (eq_law09_little  w J) h)

/-- lectern/lecternlaw09.doc -/
def VC_law09_doc (e0_0 : Int) (e0_1p : Option Addr) (e0_1l : Nat) (e0_1c : Nat) (e0_2 : ByteArray) (e0_3 : ByteArray) (e0_4 : ByteArray) (e0_5 : Int) (e0_6 : ByteArray) (e0_7 : ByteArray) (e0_8p : Option Addr) (e0_8l : Nat) (e0_8c : Nat) (e0_9p : Option Addr) (e0_9l : Nat) (e0_9c : Nat) (e0_10 : ByteArray) (w : World) (J : Int → Option Addr → Nat → Nat → ByteArray → ByteArray → ByteArray → Int → ByteArray → ByteArray → Option Addr → Nat → Nat → Option Addr → Nat → Nat → ByteArray → World → Prop) : Prop :=
  newB w (.cells ⟨[.int .i64 e0_0, .slice e0_1p e0_1l e0_1c, .string e0_2, .string e0_3, .string e0_4, .int .i64 e0_5, .string e0_6, .string e0_7, .slice e0_8p e0_8l e0_8c, .slice e0_9p e0_9l e0_9c, .string e0_10]⟩ T_edit_Edit) fun b1 w1 =>
  newB w1 (.cells (zeroC Tryz.prog T_ref09_Edit) T_ref09_Edit) fun b2 w2 =>
  ldI .i64 w2 ⟨b1, 0, none⟩ fun x4 =>
  ldS w2 ⟨b1, 1, none⟩ fun x6p x6l x6c =>
  ldStr w2 ⟨b1, 2, none⟩ fun x8_0 =>
  ldStr w2 ⟨b1, 3, none⟩ fun x8_1 =>
  ldStr w2 ⟨b1, 4, none⟩ fun x10 =>
  ldI .i64 w2 ⟨b1, 5, none⟩ fun x12_0 =>
  ldStr w2 ⟨b1, 6, none⟩ fun x12_1 =>
  ldStr w2 ⟨b1, 7, none⟩ fun x12_2 =>
  ldS w2 ⟨b1, 8, none⟩ fun x12_3p x12_3l x12_3c =>
  ldS w2 ⟨b1, 9, none⟩ fun x12_4p x12_4l x12_4c =>
  ldStr w2 ⟨b1, 10, none⟩ fun x12_5 =>
  Array.size (⟨[.string x8_0, .string x8_1]⟩ : Array Value) = 2 ∧
  Array.size (⟨[.int .i64 x12_0, .string x12_1, .string x12_2, .slice x12_3p x12_3l x12_3c, .slice x12_4p x12_4l x12_4c, .string x12_5]⟩ : Array Value) = 6 ∧
  stN w2 ⟨b2, 0, none⟩ ⟨[.int .i64 x4, .slice x6p x6l x6c, .string x8_0, .string x8_1, .string x10, .int .i64 x12_0, .string x12_1, .string x12_2, .slice x12_3p x12_3l x12_3c, .slice x12_4p x12_4l x12_4c, .string x12_5]⟩ 11 fun w3 =>
  ldI .i64 w3 ⟨b2, 0, none⟩ fun r_0 =>
  ldS w3 ⟨b2, 1, none⟩ fun r_1p r_1l r_1c =>
  ldStr w3 ⟨b2, 2, none⟩ fun r_2 =>
  ldStr w3 ⟨b2, 3, none⟩ fun r_3 =>
  ldStr w3 ⟨b2, 4, none⟩ fun r_4 =>
  ldI .i64 w3 ⟨b2, 5, none⟩ fun r_5 =>
  ldStr w3 ⟨b2, 6, none⟩ fun r_6 =>
  ldStr w3 ⟨b2, 7, none⟩ fun r_7 =>
  ldS w3 ⟨b2, 8, none⟩ fun r_8p r_8l r_8c =>
  ldS w3 ⟨b2, 9, none⟩ fun r_9p r_9l r_9c =>
  ldStr w3 ⟨b2, 10, none⟩ fun r_10 =>
  J r_0 r_1p r_1l r_1c r_2 r_3 r_4 r_5 r_6 r_7 r_8p r_8l r_8c r_9p r_9l r_9c r_10 w3
def ann_law09_doc : Ann := .s (.o) (.s (.o) (.o))
theorem eq_law09_doc (e0_0 : Int) (e0_1p : Option Addr) (e0_1l : Nat) (e0_1c : Nat) (e0_2 : ByteArray) (e0_3 : ByteArray) (e0_4 : ByteArray) (e0_5 : Int) (e0_6 : ByteArray) (e0_7 : ByteArray) (e0_8p : Option Addr) (e0_8l : Nat) (e0_8c : Nat) (e0_9p : Option Addr) (e0_9l : Nat) (e0_9c : Nat) (e0_10 : ByteArray) (w : World) (J : Int → Option Addr → Nat → Nat → ByteArray → ByteArray → ByteArray → Int → ByteArray → ByteArray → Option Addr → Nat → Nat → Option Addr → Nat → Nat → ByteArray → World → Prop) : vcFun Tryz.prog Tryz.f10 ann_law09_doc [.agg [.int .i64, .slice, .str, .str, .str, .int .i64, .str, .str, .slice, .slice, .str]] [.agg ⟨[.int .i64 e0_0, .slice e0_1p e0_1l e0_1c, .string e0_2, .string e0_3, .string e0_4, .int .i64 e0_5, .string e0_6, .string e0_7, .slice e0_8p e0_8l e0_8c, .slice e0_9p e0_9l e0_9c, .string e0_10]⟩] w J = VC_law09_doc e0_0 e0_1p e0_1l e0_1c e0_2 e0_3 e0_4 e0_5 e0_6 e0_7 e0_8p e0_8l e0_8c e0_9p e0_9l e0_9c e0_10 w J := by kernel_rfl
theorem c_law09_doc {e0_0 : Int} {e0_1p : Option Addr} {e0_1l : Nat} {e0_1c : Nat} {e0_2 : ByteArray} {e0_3 : ByteArray} {e0_4 : ByteArray} {e0_5 : Int} {e0_6 : ByteArray} {e0_7 : ByteArray} {e0_8p : Option Addr} {e0_8l : Nat} {e0_8c : Nat} {e0_9p : Option Addr} {e0_9l : Nat} {e0_9c : Nat} {e0_10 : ByteArray} {w : World} {J : Int → Option Addr → Nat → Nat → ByteArray → ByteArray → ByteArray → Int → ByteArray → ByteArray → Option Addr → Nat → Nat → Option Addr → Nat → Nat → ByteArray → World → Prop} (h : VC_law09_doc e0_0 e0_1p e0_1l e0_1c e0_2 e0_3 e0_4 e0_5 e0_6 e0_7 e0_8p e0_8l e0_8c e0_9p e0_9l e0_9c e0_10 w J) : callJ Tryz.prog fn_law09_doc #[.agg ⟨[.int .i64 e0_0, .slice e0_1p e0_1l e0_1c, .string e0_2, .string e0_3, .string e0_4, .int .i64 e0_5, .string e0_6, .string e0_7, .slice e0_8p e0_8l e0_8c, .slice e0_9p e0_9l e0_9c, .string e0_10]⟩] w [.agg [.int .i64, .slice, .str, .str, .str, .int .i64, .str, .str, .slice, .slice, .str]] J := vc_calls Tryz.func10 ann_law09_doc (Eq.mpr (eq_law09_doc e0_0 e0_1p e0_1l e0_1c e0_2 e0_3 e0_4 e0_5 e0_6 e0_7 e0_8p e0_8l e0_8c e0_9p e0_9l e0_9c e0_10 w J) h)

end Go.Proofs.YtkgfbphdmnapdaaGreatDoor
