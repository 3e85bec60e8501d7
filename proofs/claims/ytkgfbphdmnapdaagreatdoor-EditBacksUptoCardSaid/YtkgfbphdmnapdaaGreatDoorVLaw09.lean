/- What the conditions of these functions are, reckoned by the reading; printed by program. -/
import Derived.Test.YtkgfbphdmnapdaaGreatDoorNm
import Derived.KernelRfl
set_option maxRecDepth 100000
set_option linter.unusedVariables false
namespace Go.Proofs.YtkgfbphdmnapdaaGreatDoor
open Go Go.Vc

/-- lectern/lecternlaw09.awake -/
def VC_law09_awake  (w : World) (J : Bool → World → Prop) : Prop :=
  callJ Tryz.prog fn_law09_little #[] w [.agg [.int .i64, .str, .str, .slice, .slice, .str]] fun (r8_0 : Int) (r8_1 : ByteArray) (r8_2 : ByteArray) (r8_3p : Option Addr) (r8_3l : Nat) (r8_3c : Nat) (r8_4p : Option Addr) (r8_4l : Nat) (r8_4c : Nat) (r8_5 : ByteArray) (w1 : World) =>
  newB w1 (.cells ⟨[.int .i64 (0 : Int), .int .i64 (0 : Int)]⟩ T_int) fun b9 w2 =>
  callJ Tryz.prog fn_edit_Apply #[.agg ⟨[.int .i64 r8_0, .string r8_1, .string r8_2, .slice r8_3p r8_3l r8_3c, .slice r8_4p r8_4l r8_4c, .string r8_5]⟩, .agg ⟨[.int .i64 (2 : Int), .slice (some ⟨b9, 0, none⟩) 2 2, .string ByteArray.empty, .string ByteArray.empty, .string ByteArray.empty, .int .i64 (0 : Int), .string ByteArray.empty, .string ByteArray.empty, .slice none 0 0, .slice none 0 0, .string ByteArray.empty]⟩] w2 [.agg [.int .i64, .str, .str, .slice, .slice, .str], .one (.int .i64)] fun (r11_0_0 : Int) (r11_0_1 : ByteArray) (r11_0_2 : ByteArray) (r11_0_3p : Option Addr) (r11_0_3l : Nat) (r11_0_3c : Nat) (r11_0_4p : Option Addr) (r11_0_4l : Nat) (r11_0_4c : Nat) (r11_0_5 : ByteArray) (r11_1 : Int) (w3 : World) =>
  newB w3 (.cells (zeroC Tryz.prog T_api_Node) T_api_Node) fun b1 w4 =>
  stN w4 ⟨b1, 0, none⟩ ⟨[.int .i64 r11_0_0, .string r11_0_1, .string r11_0_2, .slice r11_0_3p r11_0_3l r11_0_3c, .slice r11_0_4p r11_0_4l r11_0_4c, .string r11_0_5]⟩ 6 fun w5 =>
  callJ Tryz.prog fn_law09_little #[] w5 [.agg [.int .i64, .str, .str, .slice, .slice, .str]] fun (r15_0 : Int) (r15_1 : ByteArray) (r15_2 : ByteArray) (r15_3p : Option Addr) (r15_3l : Nat) (r15_3c : Nat) (r15_4p : Option Addr) (r15_4l : Nat) (r15_4c : Nat) (r15_5 : ByteArray) (w6 : World) =>
  newB w6 (.cells ⟨[.int .i64 (0 : Int)]⟩ T_int) fun b16 w7 =>
  callJ Tryz.prog fn_edit_Apply #[.agg ⟨[.int .i64 r15_0, .string r15_1, .string r15_2, .slice r15_3p r15_3l r15_3c, .slice r15_4p r15_4l r15_4c, .string r15_5]⟩, .agg ⟨[.int .i64 (2 : Int), .slice (some ⟨b16, 0, none⟩) 1 1, .string ByteArray.empty, .string ByteArray.empty, .string ByteArray.empty, .int .i64 (0 : Int), .string ByteArray.empty, .string ByteArray.empty, .slice none 0 0, .slice none 0 0, .string ByteArray.empty]⟩] w7 [.agg [.int .i64, .str, .str, .slice, .slice, .str], .one (.int .i64)] fun (r18_0_0 : Int) (r18_0_1 : ByteArray) (r18_0_2 : ByteArray) (r18_0_3p : Option Addr) (r18_0_3l : Nat) (r18_0_3c : Nat) (r18_0_4p : Option Addr) (r18_0_4l : Nat) (r18_0_4c : Nat) (r18_0_5 : ByteArray) (r18_1 : Int) (w8 : World) =>
  newB w8 (.cells (zeroC Tryz.prog T_api_Node) T_api_Node) fun b3 w9 =>
  stN w9 ⟨b3, 0, none⟩ ⟨[.int .i64 r18_0_0, .string r18_0_1, .string r18_0_2, .slice r18_0_3p r18_0_3l r18_0_3c, .slice r18_0_4p r18_0_4l r18_0_4c, .string r18_0_5]⟩ 6 fun w10 =>
  callJ Tryz.prog fn_law09_little #[] w10 [.agg [.int .i64, .str, .str, .slice, .slice, .str]] fun (r22_0 : Int) (r22_1 : ByteArray) (r22_2 : ByteArray) (r22_3p : Option Addr) (r22_3l : Nat) (r22_3c : Nat) (r22_4p : Option Addr) (r22_4l : Nat) (r22_4c : Nat) (r22_5 : ByteArray) (w11 : World) =>
  newB w11 (.cells ⟨[.int .i64 (0 : Int), .int .i64 (0 : Int)]⟩ T_int) fun b23 w12 =>
  callJ Tryz.prog fn_edit_Back #[.agg ⟨[.int .i64 r22_0, .string r22_1, .string r22_2, .slice r22_3p r22_3l r22_3c, .slice r22_4p r22_4l r22_4c, .string r22_5]⟩, .agg ⟨[.int .i64 (2 : Int), .slice (some ⟨b23, 0, none⟩) 2 2, .string ByteArray.empty, .string ByteArray.empty, .string ByteArray.empty, .int .i64 (0 : Int), .string ByteArray.empty, .string ByteArray.empty, .slice none 0 0, .slice none 0 0, .string ByteArray.empty]⟩] w12 [.agg [.int .i64, .slice, .str, .str, .str, .int .i64, .str, .str, .slice, .slice, .str], .one (.int .i64)] fun (r25_0_0 : Int) (r25_0_1p : Option Addr) (r25_0_1l : Nat) (r25_0_1c : Nat) (r25_0_2 : ByteArray) (r25_0_3 : ByteArray) (r25_0_4 : ByteArray) (r25_0_5 : Int) (r25_0_6 : ByteArray) (r25_0_7 : ByteArray) (r25_0_8p : Option Addr) (r25_0_8l : Nat) (r25_0_8c : Nat) (r25_0_9p : Option Addr) (r25_0_9l : Nat) (r25_0_9c : Nat) (r25_0_10 : ByteArray) (r25_1 : Int) (w13 : World) =>
  newB w13 (.cells (zeroC Tryz.prog T_edit_Edit) T_edit_Edit) fun b5 w14 =>
  stN w14 ⟨b5, 0, none⟩ ⟨[.int .i64 r25_0_0, .slice r25_0_1p r25_0_1l r25_0_1c, .string r25_0_2, .string r25_0_3, .string r25_0_4, .int .i64 r25_0_5, .string r25_0_6, .string r25_0_7, .slice r25_0_8p r25_0_8l r25_0_8c, .slice r25_0_9p r25_0_9l r25_0_9c, .string r25_0_10]⟩ 11 fun w15 =>
  withJ (fun (x0 : Bool) (w16 : World) =>
  J x0 w16) fun J_0 =>
  condB (r11_1 == (0 : Int)) (
  condB (r18_1 == (30 : Int)) (
  condB (r25_1 == (0 : Int)) (
  ldS w15 ⟨b1, 4, none⟩ fun x40p x40l x40c =>
  condB (((x40l : Nat) : Int) == (1 : Int)) (
  ldS w15 ⟨b1, 4, none⟩ fun x46p x46l x46c =>
  idxA x46p x46l (0 : Int) fun a47 =>
  ldS w15 (((a47.add ((0 : Int).toNat * 6)).add 4)) fun x49p x49l x49c =>
  condB (((x49l : Nat) : Int) == (1 : Int)) (
  ldI .i64 w15 ⟨b5, 0, none⟩ fun x55 =>
  condB (x55 == (1 : Int)) (
  ldStr w15 ⟨b5, 10, none⟩ fun x61 =>
  J_0 (x61.toList == (⟨#[120]⟩ : ByteArray).toList) w15) (
  J_0 false w15)) (
  J_0 false w15)) (
  J_0 false w15)) (
  J_0 false w15)) (
  J_0 false w15)) (
  J_0 false w15)
def ann_law09_awake : Ann := .s (.o) (.s (.o) (.s (.o) (.s (.o) (.j [(0, .bool)] (.o) (.o)))))
theorem eq_law09_awake  (w : World) (J : Bool → World → Prop) : vcFun Tryz.prog Tryz.f6 ann_law09_awake [.one .bool] [] w J = VC_law09_awake  w J := by kernel_rfl
theorem c_law09_awake {w : World} {J : Bool → World → Prop} (h : VC_law09_awake  w J) : callJ Tryz.prog fn_law09_awake #[] w [.one .bool] J := vc_calls Tryz.func6 ann_law09_awake (Eq.mpr (eq_law09_awake  w J) h)

/-- lectern/lecternlaw09.little -/
def VC_law09_little  (w : World) (J : Int → ByteArray → ByteArray → Option Addr → Nat → Nat → Option Addr → Nat → Nat → ByteArray → World → Prop) : Prop :=
  newB w (.cells (zeroC Tryz.prog T_api_Node) T_api_Node) fun b0 w1 =>
  Array.size (⟨[.string ByteArray.empty, .string ⟨#[98]⟩]⟩ : Array Value) = 2 ∧
  Array.size (⟨[.string ByteArray.empty, .string ⟨#[98]⟩, .string ⟨#[49]⟩]⟩ : Array Value) = 3 ∧
  newB w1 (.cells ⟨[.string ByteArray.empty, .string ⟨#[98]⟩, .string ⟨#[49]⟩]⟩ T_api_Attr) fun b5 w2 =>
  Array.size (⟨[.string ByteArray.empty, .string ⟨#[97]⟩]⟩ : Array Value) = 2 ∧
  newB w2 (.cells (zeroC Tryz.prog T_api_Node) T_api_Node) fun b1 w3 =>
  stN w3 ⟨b1, 0, none⟩ ⟨[.int .i64 (2 : Int), .string ByteArray.empty, .string ⟨#[97]⟩, .slice (some ⟨b5, 0, none⟩) 1 1, .slice none 0 0, .string ByteArray.empty]⟩ 6 fun w4 =>
  Array.size (⟨[.string ByteArray.empty, .string ⟨#[99]⟩]⟩ : Array Value) = 2 ∧
  Array.size (⟨[.int .i64 (3 : Int), .string ByteArray.empty, .string ByteArray.empty, .slice none 0 0, .slice none 0 0, .string ⟨#[120]⟩]⟩ : Array Value) = 6 ∧
  Array.size (⟨[.int .i64 (2 : Int), .string ByteArray.empty, .string ⟨#[99]⟩, .slice none 0 0, .slice none 0 0, .string ByteArray.empty]⟩ : Array Value) = 6 ∧
  newB w4 (.cells ⟨[.int .i64 (3 : Int), .string ByteArray.empty, .string ByteArray.empty, .slice none 0 0, .slice none 0 0, .string ⟨#[120]⟩, .int .i64 (2 : Int), .string ByteArray.empty, .string ⟨#[99]⟩, .slice none 0 0, .slice none 0 0, .string ByteArray.empty]⟩ T_api_Node) fun b10 w5 =>
  stV w5 ⟨b1, 4, none⟩ (.slice (some ⟨b10, 0, none⟩) 2 2) fun w6 =>
  ldI .i64 w6 ⟨b1, 0, none⟩ fun x12_0 =>
  ldStr w6 ⟨b1, 1, none⟩ fun x12_1 =>
  ldStr w6 ⟨b1, 2, none⟩ fun x12_2 =>
  ldS w6 ⟨b1, 3, none⟩ fun x12_3p x12_3l x12_3c =>
  ldS w6 ⟨b1, 4, none⟩ fun x12_4p x12_4l x12_4c =>
  ldStr w6 ⟨b1, 5, none⟩ fun x12_5 =>
  Array.size (⟨[.int .i64 x12_0, .string x12_1, .string x12_2, .slice x12_3p x12_3l x12_3c, .slice x12_4p x12_4l x12_4c, .string x12_5]⟩ : Array Value) = 6 ∧
  newB w6 (.cells ⟨[.int .i64 x12_0, .string x12_1, .string x12_2, .slice x12_3p x12_3l x12_3c, .slice x12_4p x12_4l x12_4c, .string x12_5]⟩ T_api_Node) fun b13 w7 =>
  stN w7 ⟨b0, 0, none⟩ ⟨[.int .i64 (1 : Int), .string ByteArray.empty, .string ByteArray.empty, .slice none 0 0, .slice (some ⟨b13, 0, none⟩) 1 1, .string ByteArray.empty]⟩ 6 fun w8 =>
  ldI .i64 w8 ⟨b0, 0, none⟩ fun r_0 =>
  ldStr w8 ⟨b0, 1, none⟩ fun r_1 =>
  ldStr w8 ⟨b0, 2, none⟩ fun r_2 =>
  ldS w8 ⟨b0, 3, none⟩ fun r_3p r_3l r_3c =>
  ldS w8 ⟨b0, 4, none⟩ fun r_4p r_4l r_4c =>
  ldStr w8 ⟨b0, 5, none⟩ fun r_5 =>
  J r_0 r_1 r_2 r_3p r_3l r_3c r_4p r_4l r_4c r_5 w8
def ann_law09_little : Ann := .s (.o) (.s (.o) (.s (.o) (.s (.o) (.o))))
theorem eq_law09_little  (w : World) (J : Int → ByteArray → ByteArray → Option Addr → Nat → Nat → Option Addr → Nat → Nat → ByteArray → World → Prop) : vcFun Tryz.prog Tryz.f17 ann_law09_little [.agg [.int .i64, .str, .str, .slice, .slice, .str]] [] w J = VC_law09_little  w J := by kernel_rfl
theorem c_law09_little {w : World} {J : Int → ByteArray → ByteArray → Option Addr → Nat → Nat → Option Addr → Nat → Nat → ByteArray → World → Prop} (h : VC_law09_little  w J) : callJ Tryz.prog fn_law09_little #[] w [.agg [.int .i64, .str, .str, .slice, .slice, .str]] J := vc_calls Tryz.func17 ann_law09_little (Eq.mpr (eq_law09_little  w J) h)

/-- lectern/lecternlaw09.doc -/
def VC_law09_doc (e0_0 : Int) (e0_1p : Option Addr) (e0_1l : Nat) (e0_1c : Nat) (e0_2 : ByteArray) (e0_3 : ByteArray) (e0_4 : ByteArray) (e0_5 : Int) (e0_6 : ByteArray) (e0_7 : ByteArray) (e0_8p : Option Addr) (e0_8l : Nat) (e0_8c : Nat) (e0_9p : Option Addr) (e0_9l : Nat) (e0_9c : Nat) (e0_10 : ByteArray) (w : World) (J : Int → Option Addr → Nat → Nat → ByteArray → ByteArray → ByteArray → Int → ByteArray → ByteArray → Option Addr → Nat → Nat → Option Addr → Nat → Nat → ByteArray → World → Prop) : Prop :=
  newB w (.cells ⟨[.int .i64 e0_0, .slice e0_1p e0_1l e0_1c, .string e0_2, .string e0_3, .string e0_4, .int .i64 e0_5, .string e0_6, .string e0_7, .slice e0_8p e0_8l e0_8c, .slice e0_9p e0_9l e0_9c, .string e0_10]⟩ T_edit_Edit) fun b1 w1 =>
  newB w1 (.cells (zeroC Tryz.prog T_ref09_Edit) T_ref09_Edit) fun b2 w2 =>
  ldI .i64 w2 ⟨b1, 0, none⟩ fun x4 =>
  ldS w2 ⟨b1, 1, none⟩ fun x6p x6l x6c =>
  ldStr w2 ⟨b1, 2, none⟩ fun x8_0 =>
  ldStr w2 ⟨b1, 3, none⟩ fun x8_1 =>
  ldStr w2 ⟨b1, 4, none⟩ fun x10 =>
  ldI .i64 w2 ⟨b1, 5, none⟩ fun x12_0 =>
  ldStr w2 ⟨b1, 6, none⟩ fun x12_1 =>
  ldStr w2 ⟨b1, 7, none⟩ fun x12_2 =>
  ldS w2 ⟨b1, 8, none⟩ fun x12_3p x12_3l x12_3c =>
  ldS w2 ⟨b1, 9, none⟩ fun x12_4p x12_4l x12_4c =>
  ldStr w2 ⟨b1, 10, none⟩ fun x12_5 =>
  Array.size (⟨[.string x8_0, .string x8_1]⟩ : Array Value) = 2 ∧
  Array.size (⟨[.int .i64 x12_0, .string x12_1, .string x12_2, .slice x12_3p x12_3l x12_3c, .slice x12_4p x12_4l x12_4c, .string x12_5]⟩ : Array Value) = 6 ∧
  stN w2 ⟨b2, 0, none⟩ ⟨[.int .i64 x4, .slice x6p x6l x6c, .string x8_0, .string x8_1, .string x10, .int .i64 x12_0, .string x12_1, .string x12_2, .slice x12_3p x12_3l x12_3c, .slice x12_4p x12_4l x12_4c, .string x12_5]⟩ 11 fun w3 =>
  ldI .i64 w3 ⟨b2, 0, none⟩ fun r_0 =>
  ldS w3 ⟨b2, 1, none⟩ fun r_1p r_1l r_1c =>
  ldStr w3 ⟨b2, 2, none⟩ fun r_2 =>
  ldStr w3 ⟨b2, 3, none⟩ fun r_3 =>
  ldStr w3 ⟨b2, 4, none⟩ fun r_4 =>
  ldI .i64 w3 ⟨b2, 5, none⟩ fun r_5 =>
  ldStr w3 ⟨b2, 6, none⟩ fun r_6 =>
  ldStr w3 ⟨b2, 7, none⟩ fun r_7 =>
  ldS w3 ⟨b2, 8, none⟩ fun r_8p r_8l r_8c =>
  ldS w3 ⟨b2, 9, none⟩ fun r_9p r_9l r_9c =>
  ldStr w3 ⟨b2, 10, none⟩ fun r_10 =>
  J r_0 r_1p r_1l r_1c r_2 r_3 r_4 r_5 r_6 r_7 r_8p r_8l r_8c r_9p r_9l r_9c r_10 w3
def ann_law09_doc : Ann := .s (.o) (.s (.o) (.o))
theorem eq_law09_doc (e0_0 : Int) (e0_1p : Option Addr) (e0_1l : Nat) (e0_1c : Nat) (e0_2 : ByteArray) (e0_3 : ByteArray) (e0_4 : ByteArray) (e0_5 : Int) (e0_6 : ByteArray) (e0_7 : ByteArray) (e0_8p : Option Addr) (e0_8l : Nat) (e0_8c : Nat) (e0_9p : Option Addr) (e0_9l : Nat) (e0_9c : Nat) (e0_10 : ByteArray) (w : World) (J : Int → Option Addr → Nat → Nat → ByteArray → ByteArray → ByteArray → Int → ByteArray → ByteArray → Option Addr → Nat → Nat → Option Addr → Nat → Nat → ByteArray → World → Prop) : vcFun Tryz.prog Tryz.f10 ann_law09_doc [.agg [.int .i64, .slice, .str, .str, .str, .int .i64, .str, .str, .slice, .slice, .str]] [.agg ⟨[.int .i64 e0_0, .slice e0_1p e0_1l e0_1c, .string e0_2, .string e0_3, .string e0_4, .int .i64 e0_5, .string e0_6, .string e0_7, .slice e0_8p e0_8l e0_8c, .slice e0_9p e0_9l e0_9c, .string e0_10]⟩] w J = VC_law09_doc e0_0 e0_1p e0_1l e0_1c e0_2 e0_3 e0_4 e0_5 e0_6 e0_7 e0_8p e0_8l e0_8c e0_9p e0_9l e0_9c e0_10 w J := by kernel_rfl
theorem c_law09_doc {e0_0 : Int} {e0_1p : Option Addr} {e0_1l : Nat} {e0_1c : Nat} {e0_2 : ByteArray} {e0_3 : ByteArray} {e0_4 : ByteArray} {e0_5 : Int} {e0_6 : ByteArray} {e0_7 : ByteArray} {e0_8p : Option Addr} {e0_8l : Nat} {e0_8c : Nat} {e0_9p : Option Addr} {e0_9l : Nat} {e0_9c : Nat} {e0_10 : ByteArray} {w : World} {J : Int → Option Addr → Nat → Nat → ByteArray → ByteArray → ByteArray → Int → ByteArray → ByteArray → Option Addr → Nat → Nat → Option Addr → Nat → Nat → ByteArray → World → Prop} (h : VC_law09_doc e0_0 e0_1p e0_1l e0_1c e0_2 e0_3 e0_4 e0_5 e0_6 e0_7 e0_8p e0_8l e0_8c e0_9p e0_9l e0_9c e0_10 w J) : callJ Tryz.prog fn_law09_doc #[.agg ⟨[.int .i64 e0_0, .slice e0_1p e0_1l e0_1c, .string e0_2, .string e0_3, .string e0_4, .int .i64 e0_5, .string e0_6, .string e0_7, .slice e0_8p e0_8l e0_8c, .slice e0_9p e0_9l e0_9c, .string e0_10]⟩] w [.agg [.int .i64, .slice, .str, .str, .str, .int .i64, .str, .str, .slice, .slice, .str]] J := vc_calls Tryz.func10 ann_law09_doc (Eq.mpr (eq_law09_doc e0_0 e0_1p e0_1l e0_1c e0_2 e0_3 e0_4 e0_5 e0_6 e0_7 e0_8p e0_8l e0_8c e0_9p e0_9l e0_9c e0_10 w J) h)

/-- lectern/lecternlaw09.spoil -/
def VC_law09_spoil (n0_0 : Int) (n0_1 : ByteArray) (n0_2 : ByteArray) (n0_3p : Option Addr) (n0_3l : Nat) (n0_3c : Nat) (n0_4p : Option Addr) (n0_4l : Nat) (n0_4c : Nat) (n0_5 : ByteArray) (w : World) (J : World → Prop) : Prop :=
  newB w (.cells ⟨[.int .i64 n0_0, .string n0_1, .string n0_2, .slice n0_3p n0_3l n0_3c, .slice n0_4p n0_4l n0_4c, .string n0_5]⟩ T_api_Node) fun b1 w1 =>
  ldS w1 ⟨b1, 3, none⟩ fun x5p x5l x5c =>
  ∃ I_7 : Int → World → Nat → Prop, (∃ m : Nat, I_7 (0 : Int) w1 m) ∧ ∀ (x7 : Int) (w2 : World) (m : Nat), I_7 x7 w2 m → (
  condB (decide (x7 < ((x5l : Nat) : Int))) (
  ldS w2 ⟨b1, 3, none⟩ fun x11p x11l x11c =>
  idxA x11p x11l x7 fun a14 =>
  stN w2 ((a14.add (x7.toNat * 3))) ⟨[.string ByteArray.empty, .string ByteArray.empty, .string ⟨#[103, 111, 110, 101]⟩]⟩ 3 fun w3 =>
  ∃ m' : Nat, m' < m ∧ I_7 (w64 (x7 + (1 : Int))) w3 m') (
  ldS w2 ⟨b1, 4, none⟩ fun x17p x17l x17c =>
  ∃ I_19 : Int → World → Nat → Prop, (∃ m : Nat, I_19 (0 : Int) w2 m) ∧ ∀ (x19 : Int) (w4 : World) (m_1 : Nat), I_19 x19 w4 m_1 → (
  condB (decide (x19 < ((x17l : Nat) : Int))) (
  ldS w4 ⟨b1, 4, none⟩ fun x23p x23l x23c =>
  idxA x23p x23l x19 fun a25 =>
  ldI .i64 w4 ((a25.add (x19.toNat * 6))) fun x26_0 =>
  ldStr w4 (((a25.add (x19.toNat * 6)).add 1)) fun x26_1 =>
  ldStr w4 (((a25.add (x19.toNat * 6)).add 2)) fun x26_2 =>
  ldS w4 (((a25.add (x19.toNat * 6)).add 3)) fun x26_3p x26_3l x26_3c =>
  ldS w4 (((a25.add (x19.toNat * 6)).add 4)) fun x26_4p x26_4l x26_4c =>
  ldStr w4 (((a25.add (x19.toNat * 6)).add 5)) fun x26_5 =>
  callJ Tryz.prog fn_law09_spoil #[.agg ⟨[.int .i64 x26_0, .string x26_1, .string x26_2, .slice x26_3p x26_3l x26_3c, .slice x26_4p x26_4l x26_4c, .string x26_5]⟩] w4 [] fun (w5 : World) =>
  ldS w5 ⟨b1, 4, none⟩ fun x29p x29l x29c =>
  idxA x29p x29l x19 fun a32 =>
  stN w5 ((a32.add (x19.toNat * 6))) ⟨[.int .i64 (0 : Int), .string ByteArray.empty, .string ByteArray.empty, .slice none 0 0, .slice none 0 0, .string ⟨#[103, 111, 110, 101]⟩]⟩ 6 fun w6 =>
  ∃ m' : Nat, m' < m_1 ∧ I_19 (w64 (x19 + (1 : Int))) w6 m') (
  J w4))))
def ann_law09_spoil : Ann := .s (.o) (.s (.s (.o) (.b (.l [(7, .int .i64)] (.s (.o) (.s (.c (.o) (.o)) (.s (.b (.s (.o) (.o))) (.o))))))) (.s (.o) (.b (.l [(19, .int .i64)] (.s (.o) (.s (.c (.o) (.o)) (.s (.b (.s (.o) (.s (.o) (.o)))) (.o))))))))
theorem eq_law09_spoil (n0_0 : Int) (n0_1 : ByteArray) (n0_2 : ByteArray) (n0_3p : Option Addr) (n0_3l : Nat) (n0_3c : Nat) (n0_4p : Option Addr) (n0_4l : Nat) (n0_4c : Nat) (n0_5 : ByteArray) (w : World) (J : World → Prop) : vcFun Tryz.prog Tryz.f16 ann_law09_spoil [] [.agg ⟨[.int .i64 n0_0, .string n0_1, .string n0_2, .slice n0_3p n0_3l n0_3c, .slice n0_4p n0_4l n0_4c, .string n0_5]⟩] w J = VC_law09_spoil n0_0 n0_1 n0_2 n0_3p n0_3l n0_3c n0_4p n0_4l n0_4c n0_5 w J := by kernel_rfl
theorem c_law09_spoil {n0_0 : Int} {n0_1 : ByteArray} {n0_2 : ByteArray} {n0_3p : Option Addr} {n0_3l : Nat} {n0_3c : Nat} {n0_4p : Option Addr} {n0_4l : Nat} {n0_4c : Nat} {n0_5 : ByteArray} {w : World} {J : World → Prop} (h : VC_law09_spoil n0_0 n0_1 n0_2 n0_3p n0_3l n0_3c n0_4p n0_4l n0_4c n0_5 w J) : callJ Tryz.prog fn_law09_spoil #[.agg ⟨[.int .i64 n0_0, .string n0_1, .string n0_2, .slice n0_3p n0_3l n0_3c, .slice n0_4p n0_4l n0_4c, .string n0_5]⟩] w [] J := vc_calls Tryz.func16 ann_law09_spoil (Eq.mpr (eq_law09_spoil n0_0 n0_1 n0_2 n0_3p n0_3l n0_3c n0_4p n0_4l n0_4c n0_5 w J) h)

/-- lectern/lecternlaw09.EditBacks -/
def VC_law09_EditBacks (d0_0 : Int) (d0_1 : ByteArray) (d0_2 : ByteArray) (d0_3p : Option Addr) (d0_3l : Nat) (d0_3c : Nat) (d0_4p : Option Addr) (d0_4l : Nat) (d0_4c : Nat) (d0_5 : ByteArray) (e1_0 : Int) (e1_1p : Option Addr) (e1_1l : Nat) (e1_1c : Nat) (e1_2 : ByteArray) (e1_3 : ByteArray) (e1_4 : ByteArray) (e1_5 : Int) (e1_6 : ByteArray) (e1_7 : ByteArray) (e1_8p : Option Addr) (e1_8l : Nat) (e1_8c : Nat) (e1_9p : Option Addr) (e1_9l : Nat) (e1_9c : Nat) (e1_10 : ByteArray) (w : World) (J : Bool → World → Prop) : Prop :=
  newB w (.cells ⟨[.int .i64 d0_0, .string d0_1, .string d0_2, .slice d0_3p d0_3l d0_3c, .slice d0_4p d0_4l d0_4c, .string d0_5]⟩ T_api_Node) fun b2 w1 =>
  newB w1 (.cells ⟨[.int .i64 e1_0, .slice e1_1p e1_1l e1_1c, .string e1_2, .string e1_3, .string e1_4, .int .i64 e1_5, .string e1_6, .string e1_7, .slice e1_8p e1_8l e1_8c, .slice e1_9p e1_9l e1_9c, .string e1_10]⟩ T_edit_Edit) fun b3 w2 =>
  callJ Tryz.prog fn_law09_awake #[] w2 [.one .bool] fun (r9 : Bool) (w3 : World) =>
  condB (!r9) (
  J false w3) (
  ldI .i64 w3 ⟨b2, 0, none⟩ fun x12_0 =>
  ldStr w3 ⟨b2, 1, none⟩ fun x12_1 =>
  ldStr w3 ⟨b2, 2, none⟩ fun x12_2 =>
  ldS w3 ⟨b2, 3, none⟩ fun x12_3p x12_3l x12_3c =>
  ldS w3 ⟨b2, 4, none⟩ fun x12_4p x12_4l x12_4c =>
  ldStr w3 ⟨b2, 5, none⟩ fun x12_5 =>
  ldI .i64 w3 ⟨b3, 0, none⟩ fun x13_0 =>
  ldS w3 ⟨b3, 1, none⟩ fun x13_1p x13_1l x13_1c =>
  ldStr w3 ⟨b3, 2, none⟩ fun x13_2 =>
  ldStr w3 ⟨b3, 3, none⟩ fun x13_3 =>
  ldStr w3 ⟨b3, 4, none⟩ fun x13_4 =>
  ldI .i64 w3 ⟨b3, 5, none⟩ fun x13_5 =>
  ldStr w3 ⟨b3, 6, none⟩ fun x13_6 =>
  ldStr w3 ⟨b3, 7, none⟩ fun x13_7 =>
  ldS w3 ⟨b3, 8, none⟩ fun x13_8p x13_8l x13_8c =>
  ldS w3 ⟨b3, 9, none⟩ fun x13_9p x13_9l x13_9c =>
  ldStr w3 ⟨b3, 10, none⟩ fun x13_10 =>
  callJ Tryz.prog fn_edit_Back #[.agg ⟨[.int .i64 x12_0, .string x12_1, .string x12_2, .slice x12_3p x12_3l x12_3c, .slice x12_4p x12_4l x12_4c, .string x12_5]⟩, .agg ⟨[.int .i64 x13_0, .slice x13_1p x13_1l x13_1c, .string x13_2, .string x13_3, .string x13_4, .int .i64 x13_5, .string x13_6, .string x13_7, .slice x13_8p x13_8l x13_8c, .slice x13_9p x13_9l x13_9c, .string x13_10]⟩] w3 [.agg [.int .i64, .slice, .str, .str, .str, .int .i64, .str, .str, .slice, .slice, .str], .one (.int .i64)] fun (r14_0_0 : Int) (r14_0_1p : Option Addr) (r14_0_1l : Nat) (r14_0_1c : Nat) (r14_0_2 : ByteArray) (r14_0_3 : ByteArray) (r14_0_4 : ByteArray) (r14_0_5 : Int) (r14_0_6 : ByteArray) (r14_0_7 : ByteArray) (r14_0_8p : Option Addr) (r14_0_8l : Nat) (r14_0_8c : Nat) (r14_0_9p : Option Addr) (r14_0_9l : Nat) (r14_0_9c : Nat) (r14_0_10 : ByteArray) (r14_1 : Int) (w4 : World) =>
  newB w4 (.cells (zeroC Tryz.prog T_edit_Edit) T_edit_Edit) fun b5 w5 =>
  stN w5 ⟨b5, 0, none⟩ ⟨[.int .i64 r14_0_0, .slice r14_0_1p r14_0_1l r14_0_1c, .string r14_0_2, .string r14_0_3, .string r14_0_4, .int .i64 r14_0_5, .string r14_0_6, .string r14_0_7, .slice r14_0_8p r14_0_8l r14_0_8c, .slice r14_0_9p r14_0_9l r14_0_9c, .string r14_0_10]⟩ 11 fun w6 =>
  withJ (fun (c7 : Option Addr) (g8 : Int) (w7 : World) =>
  withJ (fun (x4 : Bool) (w8 : World) =>
  J x4 w8) fun J_4 =>
  condB (r14_1 == g8) (
  ldI .i64 w7.drew ⟨b5, 0, none⟩ fun x28_0 =>
  ldS w7.drew ⟨b5, 1, none⟩ fun x28_1p x28_1l x28_1c =>
  ldStr w7.drew ⟨b5, 2, none⟩ fun x28_2 =>
  ldStr w7.drew ⟨b5, 3, none⟩ fun x28_3 =>
  ldStr w7.drew ⟨b5, 4, none⟩ fun x28_4 =>
  ldI .i64 w7.drew ⟨b5, 5, none⟩ fun x28_5 =>
  ldStr w7.drew ⟨b5, 6, none⟩ fun x28_6 =>
  ldStr w7.drew ⟨b5, 7, none⟩ fun x28_7 =>
  ldS w7.drew ⟨b5, 8, none⟩ fun x28_8p x28_8l x28_8c =>
  ldS w7.drew ⟨b5, 9, none⟩ fun x28_9p x28_9l x28_9c =>
  ldStr w7.drew ⟨b5, 10, none⟩ fun x28_10 =>
  nonNil c7 fun a30 =>
  ldI .i64 w7.drew a30 fun x30_0 =>
  ldS w7.drew ((a30.add 1)) fun x30_1p x30_1l x30_1c =>
  ldStr w7.drew ((a30.add 2)) fun x30_2 =>
  ldStr w7.drew ((a30.add 3)) fun x30_3 =>
  ldStr w7.drew ((a30.add 4)) fun x30_4 =>
  ldI .i64 w7.drew ((a30.add 5)) fun x30_5 =>
  ldStr w7.drew ((a30.add 6)) fun x30_6 =>
  ldStr w7.drew ((a30.add 7)) fun x30_7 =>
  ldS w7.drew ((a30.add 8)) fun x30_8p x30_8l x30_8c =>
  ldS w7.drew ((a30.add 9)) fun x30_9p x30_9l x30_9c =>
  ldStr w7.drew ((a30.add 10)) fun x30_10 =>
  callJ Tryz.prog fn_law09_doc #[.agg ⟨[.int .i64 x28_0, .slice x28_1p x28_1l x28_1c, .string x28_2, .string x28_3, .string x28_4, .int .i64 x28_5, .string x28_6, .string x28_7, .slice x28_8p x28_8l x28_8c, .slice x28_9p x28_9l x28_9c, .string x28_10]⟩] w7.drew [.agg [.int .i64, .slice, .str, .str, .str, .int .i64, .str, .str, .slice, .slice, .str]] fun (r29_0 : Int) (r29_1p : Option Addr) (r29_1l : Nat) (r29_1c : Nat) (r29_2 : ByteArray) (r29_3 : ByteArray) (r29_4 : ByteArray) (r29_5 : Int) (r29_6 : ByteArray) (r29_7 : ByteArray) (r29_8p : Option Addr) (r29_8l : Nat) (r29_8c : Nat) (r29_9p : Option Addr) (r29_9l : Nat) (r29_9c : Nat) (r29_10 : ByteArray) (w9 : World) =>
  cellsAt w9 a30 [.int .i64 x30_0, .slice x30_1p x30_1l x30_1c, .string x30_2, .string x30_3, .string x30_4, .int .i64 x30_5, .string x30_6, .string x30_7, .slice x30_8p x30_8l x30_8c, .slice x30_9p x30_9l x30_9c, .string x30_10] ∧
  callJ Tryz.prog fn_ref09_Same #[.agg ⟨[.int .i64 r29_0, .slice r29_1p r29_1l r29_1c, .string r29_2, .string r29_3, .string r29_4, .int .i64 r29_5, .string r29_6, .string r29_7, .slice r29_8p r29_8l r29_8c, .slice r29_9p r29_9l r29_9c, .string r29_10]⟩, .agg ⟨[.int .i64 x30_0, .slice x30_1p x30_1l x30_1c, .string x30_2, .string x30_3, .string x30_4, .int .i64 x30_5, .string x30_6, .string x30_7, .slice x30_8p x30_8l x30_8c, .slice x30_9p x30_9l x30_9c, .string x30_10]⟩] w9 [.one .bool] fun (r31 : Bool) (w10 : World) =>
  J_4 r31 w10) (
  J_4 false w7.drew)) fun J_7 =>
  ldI .i64 w6.drew ⟨b2, 0, none⟩ fun x18_0 =>
  ldStr w6.drew ⟨b2, 1, none⟩ fun x18_1 =>
  ldStr w6.drew ⟨b2, 2, none⟩ fun x18_2 =>
  ldS w6.drew ⟨b2, 3, none⟩ fun x18_3p x18_3l x18_3c =>
  ldS w6.drew ⟨b2, 4, none⟩ fun x18_4p x18_4l x18_4c =>
  ldStr w6.drew ⟨b2, 5, none⟩ fun x18_5 =>
  ldI .i64 w6.drew ⟨b3, 0, none⟩ fun x19_0 =>
  ldS w6.drew ⟨b3, 1, none⟩ fun x19_1p x19_1l x19_1c =>
  ldStr w6.drew ⟨b3, 2, none⟩ fun x19_2 =>
  ldStr w6.drew ⟨b3, 3, none⟩ fun x19_3 =>
  ldStr w6.drew ⟨b3, 4, none⟩ fun x19_4 =>
  ldI .i64 w6.drew ⟨b3, 5, none⟩ fun x19_5 =>
  ldStr w6.drew ⟨b3, 6, none⟩ fun x19_6 =>
  ldStr w6.drew ⟨b3, 7, none⟩ fun x19_7 =>
  ldS w6.drew ⟨b3, 8, none⟩ fun x19_8p x19_8l x19_8c =>
  ldS w6.drew ⟨b3, 9, none⟩ fun x19_9p x19_9l x19_9c =>
  ldStr w6.drew ⟨b3, 10, none⟩ fun x19_10 =>
  (
  callJ Tryz.prog fn_law09_doc #[.agg ⟨[.int .i64 x19_0, .slice x19_1p x19_1l x19_1c, .string x19_2, .string x19_3, .string x19_4, .int .i64 x19_5, .string x19_6, .string x19_7, .slice x19_8p x19_8l x19_8c, .slice x19_9p x19_9l x19_9c, .string x19_10]⟩] w6.drew [.agg [.int .i64, .slice, .str, .str, .str, .int .i64, .str, .str, .slice, .slice, .str]] fun (r20_0 : Int) (r20_1p : Option Addr) (r20_1l : Nat) (r20_1c : Nat) (r20_2 : ByteArray) (r20_3 : ByteArray) (r20_4 : ByteArray) (r20_5 : Int) (r20_6 : ByteArray) (r20_7 : ByteArray) (r20_8p : Option Addr) (r20_8l : Nat) (r20_8c : Nat) (r20_9p : Option Addr) (r20_9l : Nat) (r20_9c : Nat) (r20_10 : ByteArray) (w11 : World) =>
  cellsAt w11 ⟨b2, 0, none⟩ [.int .i64 x18_0, .string x18_1, .string x18_2, .slice x18_3p x18_3l x18_3c, .slice x18_4p x18_4l x18_4c, .string x18_5] ∧
  (
  callJ Tryz.prog fn_ref09_Back #[.agg ⟨[.int .i64 x18_0, .string x18_1, .string x18_2, .slice x18_3p x18_3l x18_3c, .slice x18_4p x18_4l x18_4c, .string x18_5]⟩, .agg ⟨[.int .i64 r20_0, .slice r20_1p r20_1l r20_1c, .string r20_2, .string r20_3, .string r20_4, .int .i64 r20_5, .string r20_6, .string r20_7, .slice r20_8p r20_8l r20_8c, .slice r20_9p r20_9l r20_9c, .string r20_10]⟩] w11 [.agg [.int .i64, .slice, .str, .str, .str, .int .i64, .str, .str, .slice, .slice, .str], .one (.int .i64)] fun (r21_0_0 : Int) (r21_0_1p : Option Addr) (r21_0_1l : Nat) (r21_0_1c : Nat) (r21_0_2 : ByteArray) (r21_0_3 : ByteArray) (r21_0_4 : ByteArray) (r21_0_5 : Int) (r21_0_6 : ByteArray) (r21_0_7 : ByteArray) (r21_0_8p : Option Addr) (r21_0_8l : Nat) (r21_0_8c : Nat) (r21_0_9p : Option Addr) (r21_0_9l : Nat) (r21_0_9c : Nat) (r21_0_10 : ByteArray) (r21_1 : Int) (w12 : World) =>
  newB w12 (.cells (zeroC Tryz.prog T_ref09_Edit) T_ref09_Edit) fun b7 w13 =>
  cellsAt w13 ⟨b3, 0, none⟩ [.int .i64 x19_0, .slice x19_1p x19_1l x19_1c, .string x19_2, .string x19_3, .string x19_4, .int .i64 x19_5, .string x19_6, .string x19_7, .slice x19_8p x19_8l x19_8c, .slice x19_9p x19_9l x19_9c, .string x19_10] ∧
  cellsAt w13 ⟨b2, 0, none⟩ [.int .i64 x18_0, .string x18_1, .string x18_2, .slice x18_3p x18_3l x18_3c, .slice x18_4p x18_4l x18_4c, .string x18_5] ∧
  stN w13 ⟨b7, 0, none⟩ ⟨[.int .i64 r21_0_0, .slice r21_0_1p r21_0_1l r21_0_1c, .string r21_0_2, .string r21_0_3, .string r21_0_4, .int .i64 r21_0_5, .string r21_0_6, .string r21_0_7, .slice r21_0_8p r21_0_8l r21_0_8c, .slice r21_0_9p r21_0_9l r21_0_9c, .string r21_0_10]⟩ 11 fun w14 =>
  J_7 (some ⟨b7, 0, none⟩) r21_1 w14) ∧ (
  newB w11 (.cells (zeroC Tryz.prog T_ref09_Edit) T_ref09_Edit) fun b7_1 w15 =>
  cellsAt w15 ⟨b3, 0, none⟩ [.int .i64 x19_0, .slice x19_1p x19_1l x19_1c, .string x19_2, .string x19_3, .string x19_4, .int .i64 x19_5, .string x19_6, .string x19_7, .slice x19_8p x19_8l x19_8c, .slice x19_9p x19_9l x19_9c, .string x19_10] ∧
  cellsAt w15 ⟨b2, 0, none⟩ [.int .i64 x18_0, .string x18_1, .string x18_2, .slice x18_3p x18_3l x18_3c, .slice x18_4p x18_4l x18_4c, .string x18_5] ∧
  callJ Tryz.prog fn_ref09_Back #[.agg ⟨[.int .i64 x18_0, .string x18_1, .string x18_2, .slice x18_3p x18_3l x18_3c, .slice x18_4p x18_4l x18_4c, .string x18_5]⟩, .agg ⟨[.int .i64 r20_0, .slice r20_1p r20_1l r20_1c, .string r20_2, .string r20_3, .string r20_4, .int .i64 r20_5, .string r20_6, .string r20_7, .slice r20_8p r20_8l r20_8c, .slice r20_9p r20_9l r20_9c, .string r20_10]⟩] w15 [.agg [.int .i64, .slice, .str, .str, .str, .int .i64, .str, .str, .slice, .slice, .str], .one (.int .i64)] fun (r21_0_1_0 : Int) (r21_0_1_1p : Option Addr) (r21_0_1_1l : Nat) (r21_0_1_1c : Nat) (r21_0_1_2 : ByteArray) (r21_0_1_3 : ByteArray) (r21_0_1_4 : ByteArray) (r21_0_1_5 : Int) (r21_0_1_6 : ByteArray) (r21_0_1_7 : ByteArray) (r21_0_1_8p : Option Addr) (r21_0_1_8l : Nat) (r21_0_1_8c : Nat) (r21_0_1_9p : Option Addr) (r21_0_1_9l : Nat) (r21_0_1_9c : Nat) (r21_0_1_10 : ByteArray) (r21_1_1 : Int) (w16 : World) =>
  stN w16 ⟨b7_1, 0, none⟩ ⟨[.int .i64 r21_0_1_0, .slice r21_0_1_1p r21_0_1_1l r21_0_1_1c, .string r21_0_1_2, .string r21_0_1_3, .string r21_0_1_4, .int .i64 r21_0_1_5, .string r21_0_1_6, .string r21_0_1_7, .slice r21_0_1_8p r21_0_1_8l r21_0_1_8c, .slice r21_0_1_9p r21_0_1_9l r21_0_1_9c, .string r21_0_1_10]⟩ 11 fun w17 =>
  J_7 (some ⟨b7_1, 0, none⟩) r21_1_1 w17)) ∧ (
  newB w6.drew (.cells (zeroC Tryz.prog T_ref09_Edit) T_ref09_Edit) fun b7_2 w18 =>
  cellsAt w18 ⟨b3, 0, none⟩ [.int .i64 x19_0, .slice x19_1p x19_1l x19_1c, .string x19_2, .string x19_3, .string x19_4, .int .i64 x19_5, .string x19_6, .string x19_7, .slice x19_8p x19_8l x19_8c, .slice x19_9p x19_9l x19_9c, .string x19_10] ∧
  cellsAt w18 ⟨b2, 0, none⟩ [.int .i64 x18_0, .string x18_1, .string x18_2, .slice x18_3p x18_3l x18_3c, .slice x18_4p x18_4l x18_4c, .string x18_5] ∧
  callJ Tryz.prog fn_law09_doc #[.agg ⟨[.int .i64 x19_0, .slice x19_1p x19_1l x19_1c, .string x19_2, .string x19_3, .string x19_4, .int .i64 x19_5, .string x19_6, .string x19_7, .slice x19_8p x19_8l x19_8c, .slice x19_9p x19_9l x19_9c, .string x19_10]⟩] w18 [.agg [.int .i64, .slice, .str, .str, .str, .int .i64, .str, .str, .slice, .slice, .str]] fun (r20_1_0 : Int) (r20_1_1p : Option Addr) (r20_1_1l : Nat) (r20_1_1c : Nat) (r20_1_2 : ByteArray) (r20_1_3 : ByteArray) (r20_1_4 : ByteArray) (r20_1_5 : Int) (r20_1_6 : ByteArray) (r20_1_7 : ByteArray) (r20_1_8p : Option Addr) (r20_1_8l : Nat) (r20_1_8c : Nat) (r20_1_9p : Option Addr) (r20_1_9l : Nat) (r20_1_9c : Nat) (r20_1_10 : ByteArray) (w19 : World) =>
  cellsAt w19 ⟨b2, 0, none⟩ [.int .i64 x18_0, .string x18_1, .string x18_2, .slice x18_3p x18_3l x18_3c, .slice x18_4p x18_4l x18_4c, .string x18_5] ∧
  callJ Tryz.prog fn_ref09_Back #[.agg ⟨[.int .i64 x18_0, .string x18_1, .string x18_2, .slice x18_3p x18_3l x18_3c, .slice x18_4p x18_4l x18_4c, .string x18_5]⟩, .agg ⟨[.int .i64 r20_1_0, .slice r20_1_1p r20_1_1l r20_1_1c, .string r20_1_2, .string r20_1_3, .string r20_1_4, .int .i64 r20_1_5, .string r20_1_6, .string r20_1_7, .slice r20_1_8p r20_1_8l r20_1_8c, .slice r20_1_9p r20_1_9l r20_1_9c, .string r20_1_10]⟩] w19 [.agg [.int .i64, .slice, .str, .str, .str, .int .i64, .str, .str, .slice, .slice, .str], .one (.int .i64)] fun (r21_0_2_0 : Int) (r21_0_2_1p : Option Addr) (r21_0_2_1l : Nat) (r21_0_2_1c : Nat) (r21_0_2_2 : ByteArray) (r21_0_2_3 : ByteArray) (r21_0_2_4 : ByteArray) (r21_0_2_5 : Int) (r21_0_2_6 : ByteArray) (r21_0_2_7 : ByteArray) (r21_0_2_8p : Option Addr) (r21_0_2_8l : Nat) (r21_0_2_8c : Nat) (r21_0_2_9p : Option Addr) (r21_0_2_9l : Nat) (r21_0_2_9c : Nat) (r21_0_2_10 : ByteArray) (r21_1_2 : Int) (w20 : World) =>
  stN w20 ⟨b7_2, 0, none⟩ ⟨[.int .i64 r21_0_2_0, .slice r21_0_2_1p r21_0_2_1l r21_0_2_1c, .string r21_0_2_2, .string r21_0_2_3, .string r21_0_2_4, .int .i64 r21_0_2_5, .string r21_0_2_6, .string r21_0_2_7, .slice r21_0_2_8p r21_0_2_8l r21_0_2_8c, .slice r21_0_2_9p r21_0_2_9l r21_0_2_9c, .string r21_0_2_10]⟩ 11 fun w21 =>
  J_7 (some ⟨b7_2, 0, none⟩) r21_1_2 w21))
def ann_law09_EditBacks : Ann := .s (.o) (.s (.s (.o) (.c (.s (.o) (.o)) (.o))) (.s (.o) (.j [(7, .ptr), (8, .int .i64)] (.d (.take 0 (.take 1 (.eff 2 (.eff 3 (.take 4 (.take 5 (.take 6 (.eff 7 (.eff 8 (.take 9 (.done)) (.none)) (.none))))) (.eff 7 (.eff 3 (.take 4 (.take 5 (.take 6 (.eff 8 (.take 9 (.done)) (.none))))) (.none)) (.none))) (.eff 7 (.eff 2 (.eff 3 (.take 4 (.take 5 (.take 6 (.eff 8 (.take 9 (.done)) (.none))))) (.none)) (.none)) (.none)))))) (.j [(4, .bool)] (.d (.take 0 (.take 1 (.take 2 (.take 3 (.take 4 (.take 6 (.eff 5 (.eff 7 (.take 8 (.take 9 (.done))) (.none)) (.none))))))))) (.o)))))
theorem eq_law09_EditBacks (d0_0 : Int) (d0_1 : ByteArray) (d0_2 : ByteArray) (d0_3p : Option Addr) (d0_3l : Nat) (d0_3c : Nat) (d0_4p : Option Addr) (d0_4l : Nat) (d0_4c : Nat) (d0_5 : ByteArray) (e1_0 : Int) (e1_1p : Option Addr) (e1_1l : Nat) (e1_1c : Nat) (e1_2 : ByteArray) (e1_3 : ByteArray) (e1_4 : ByteArray) (e1_5 : Int) (e1_6 : ByteArray) (e1_7 : ByteArray) (e1_8p : Option Addr) (e1_8l : Nat) (e1_8c : Nat) (e1_9p : Option Addr) (e1_9l : Nat) (e1_9c : Nat) (e1_10 : ByteArray) (w : World) (J : Bool → World → Prop) : vcFun Tryz.prog Tryz.f4 ann_law09_EditBacks [.one .bool] [.agg ⟨[.int .i64 d0_0, .string d0_1, .string d0_2, .slice d0_3p d0_3l d0_3c, .slice d0_4p d0_4l d0_4c, .string d0_5]⟩, .agg ⟨[.int .i64 e1_0, .slice e1_1p e1_1l e1_1c, .string e1_2, .string e1_3, .string e1_4, .int .i64 e1_5, .string e1_6, .string e1_7, .slice e1_8p e1_8l e1_8c, .slice e1_9p e1_9l e1_9c, .string e1_10]⟩] w J = VC_law09_EditBacks d0_0 d0_1 d0_2 d0_3p d0_3l d0_3c d0_4p d0_4l d0_4c d0_5 e1_0 e1_1p e1_1l e1_1c e1_2 e1_3 e1_4 e1_5 e1_6 e1_7 e1_8p e1_8l e1_8c e1_9p e1_9l e1_9c e1_10 w J := by kernel_rfl
theorem c_law09_EditBacks {d0_0 : Int} {d0_1 : ByteArray} {d0_2 : ByteArray} {d0_3p : Option Addr} {d0_3l : Nat} {d0_3c : Nat} {d0_4p : Option Addr} {d0_4l : Nat} {d0_4c : Nat} {d0_5 : ByteArray} {e1_0 : Int} {e1_1p : Option Addr} {e1_1l : Nat} {e1_1c : Nat} {e1_2 : ByteArray} {e1_3 : ByteArray} {e1_4 : ByteArray} {e1_5 : Int} {e1_6 : ByteArray} {e1_7 : ByteArray} {e1_8p : Option Addr} {e1_8l : Nat} {e1_8c : Nat} {e1_9p : Option Addr} {e1_9l : Nat} {e1_9c : Nat} {e1_10 : ByteArray} {w : World} {J : Bool → World → Prop} (h : VC_law09_EditBacks d0_0 d0_1 d0_2 d0_3p d0_3l d0_3c d0_4p d0_4l d0_4c d0_5 e1_0 e1_1p e1_1l e1_1c e1_2 e1_3 e1_4 e1_5 e1_6 e1_7 e1_8p e1_8l e1_8c e1_9p e1_9l e1_9c e1_10 w J) : callJ Tryz.prog fn_law09_EditBacks #[.agg ⟨[.int .i64 d0_0, .string d0_1, .string d0_2, .slice d0_3p d0_3l d0_3c, .slice d0_4p d0_4l d0_4c, .string d0_5]⟩, .agg ⟨[.int .i64 e1_0, .slice e1_1p e1_1l e1_1c, .string e1_2, .string e1_3, .string e1_4, .int .i64 e1_5, .string e1_6, .string e1_7, .slice e1_8p e1_8l e1_8c, .slice e1_9p e1_9l e1_9c, .string e1_10]⟩] w [.one .bool] J := vc_calls Tryz.func4 ann_law09_EditBacks (Eq.mpr (eq_law09_EditBacks d0_0 d0_1 d0_2 d0_3p d0_3l d0_3c d0_4p d0_4l d0_4c d0_5 e1_0 e1_1p e1_1l e1_1c e1_2 e1_3 e1_4 e1_5 e1_6 e1_7 e1_8p e1_8l e1_8c e1_9p e1_9l e1_9c e1_10 w J) h)

end Go.Proofs.YtkgfbphdmnapdaaGreatDoor
