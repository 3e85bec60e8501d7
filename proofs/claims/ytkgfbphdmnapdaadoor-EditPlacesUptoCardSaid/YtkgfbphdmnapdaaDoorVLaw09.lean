/- What the conditions of these functions are, reckoned by the reading; printed by program. -/
import Derived.Test.YtkgfbphdmnapdaaDoorNm
import Derived.KernelRfl
set_option maxRecDepth 100000
set_option linter.unusedVariables false
namespace Go.Proofs.YtkgfbphdmnapdaaDoor
open Go Go.Vc

/-- lectern/lecternlaw09.awake -/
def VC_law09_awake  (w : World) (J : Bool → World → Prop) : Prop :=
  callJ Tryd.prog fn_law09_little #[] w [.agg [.int .i64, .str, .str, .slice, .slice, .str]] fun (r8_0 : Int) (r8_1 : ByteArray) (r8_2 : ByteArray) (r8_3p : Option Addr) (r8_3l : Nat) (r8_3c : Nat) (r8_4p : Option Addr) (r8_4l : Nat) (r8_4c : Nat) (r8_5 : ByteArray) (w1 : World) =>
  newB w1 (.cells ⟨[.int .i64 (0 : Int), .int .i64 (0 : Int)]⟩ T_int) fun b9 w2 =>
  callJ Tryd.prog fn_edit_Apply #[.agg ⟨[.int .i64 r8_0, .string r8_1, .string r8_2, .slice r8_3p r8_3l r8_3c, .slice r8_4p r8_4l r8_4c, .string r8_5]⟩, .agg ⟨[.int .i64 (2 : Int), .slice (some ⟨b9, 0, none⟩) 2 2, .string ByteArray.empty, .string ByteArray.empty, .string ByteArray.empty, .int .i64 (0 : Int), .string ByteArray.empty, .string ByteArray.empty, .slice none 0 0, .slice none 0 0, .string ByteArray.empty]⟩] w2 [.agg [.int .i64, .str, .str, .slice, .slice, .str], .one (.int .i64)] fun (r11_0_0 : Int) (r11_0_1 : ByteArray) (r11_0_2 : ByteArray) (r11_0_3p : Option Addr) (r11_0_3l : Nat) (r11_0_3c : Nat) (r11_0_4p : Option Addr) (r11_0_4l : Nat) (r11_0_4c : Nat) (r11_0_5 : ByteArray) (r11_1 : Int) (w3 : World) =>
  newB w3 (.cells (zeroC Tryd.prog T_api_Node) T_api_Node) fun b1 w4 =>
  stN w4 ⟨b1, 0, none⟩ ⟨[.int .i64 r11_0_0, .string r11_0_1, .string r11_0_2, .slice r11_0_3p r11_0_3l r11_0_3c, .slice r11_0_4p r11_0_4l r11_0_4c, .string r11_0_5]⟩ 6 fun w5 =>
  callJ Tryd.prog fn_law09_little #[] w5 [.agg [.int .i64, .str, .str, .slice, .slice, .str]] fun (r15_0 : Int) (r15_1 : ByteArray) (r15_2 : ByteArray) (r15_3p : Option Addr) (r15_3l : Nat) (r15_3c : Nat) (r15_4p : Option Addr) (r15_4l : Nat) (r15_4c : Nat) (r15_5 : ByteArray) (w6 : World) =>
  newB w6 (.cells ⟨[.int .i64 (0 : Int)]⟩ T_int) fun b16 w7 =>
  callJ Tryd.prog fn_edit_Apply #[.agg ⟨[.int .i64 r15_0, .string r15_1, .string r15_2, .slice r15_3p r15_3l r15_3c, .slice r15_4p r15_4l r15_4c, .string r15_5]⟩, .agg ⟨[.int .i64 (2 : Int), .slice (some ⟨b16, 0, none⟩) 1 1, .string ByteArray.empty, .string ByteArray.empty, .string ByteArray.empty, .int .i64 (0 : Int), .string ByteArray.empty, .string ByteArray.empty, .slice none 0 0, .slice none 0 0, .string ByteArray.empty]⟩] w7 [.agg [.int .i64, .str, .str, .slice, .slice, .str], .one (.int .i64)] fun (r18_0_0 : Int) (r18_0_1 : ByteArray) (r18_0_2 : ByteArray) (r18_0_3p : Option Addr) (r18_0_3l : Nat) (r18_0_3c : Nat) (r18_0_4p : Option Addr) (r18_0_4l : Nat) (r18_0_4c : Nat) (r18_0_5 : ByteArray) (r18_1 : Int) (w8 : World) =>
  newB w8 (.cells (zeroC Tryd.prog T_api_Node) T_api_Node) fun b3 w9 =>
  stN w9 ⟨b3, 0, none⟩ ⟨[.int .i64 r18_0_0, .string r18_0_1, .string r18_0_2, .slice r18_0_3p r18_0_3l r18_0_3c, .slice r18_0_4p r18_0_4l r18_0_4c, .string r18_0_5]⟩ 6 fun w10 =>
  callJ Tryd.prog fn_law09_little #[] w10 [.agg [.int .i64, .str, .str, .slice, .slice, .str]] fun (r22_0 : Int) (r22_1 : ByteArray) (r22_2 : ByteArray) (r22_3p : Option Addr) (r22_3l : Nat) (r22_3c : Nat) (r22_4p : Option Addr) (r22_4l : Nat) (r22_4c : Nat) (r22_5 : ByteArray) (w11 : World) =>
  newB w11 (.cells ⟨[.int .i64 (0 : Int), .int .i64 (0 : Int)]⟩ T_int) fun b23 w12 =>
  callJ Tryd.prog fn_edit_Back #[.agg ⟨[.int .i64 r22_0, .string r22_1, .string r22_2, .slice r22_3p r22_3l r22_3c, .slice r22_4p r22_4l r22_4c, .string r22_5]⟩, .agg ⟨[.int .i64 (2 : Int), .slice (some ⟨b23, 0, none⟩) 2 2, .string ByteArray.empty, .string ByteArray.empty, .string ByteArray.empty, .int .i64 (0 : Int), .string ByteArray.empty, .string ByteArray.empty, .slice none 0 0, .slice none 0 0, .string ByteArray.empty]⟩] w12 [.agg [.int .i64, .slice, .str, .str, .str, .int .i64, .str, .str, .slice, .slice, .str], .one (.int .i64)] fun (r25_0_0 : Int) (r25_0_1p : Option Addr) (r25_0_1l : Nat) (r25_0_1c : Nat) (r25_0_2 : ByteArray) (r25_0_3 : ByteArray) (r25_0_4 : ByteArray) (r25_0_5 : Int) (r25_0_6 : ByteArray) (r25_0_7 : ByteArray) (r25_0_8p : Option Addr) (r25_0_8l : Nat) (r25_0_8c : Nat) (r25_0_9p : Option Addr) (r25_0_9l : Nat) (r25_0_9c : Nat) (r25_0_10 : ByteArray) (r25_1 : Int) (w13 : World) =>
  newB w13 (.cells (zeroC Tryd.prog T_edit_Edit) T_edit_Edit) fun b5 w14 =>
  stN w14 ⟨b5, 0, none⟩ ⟨[.int .i64 r25_0_0, .slice r25_0_1p r25_0_1l r25_0_1c, .string r25_0_2, .string r25_0_3, .string r25_0_4, .int .i64 r25_0_5, .string r25_0_6, .string r25_0_7, .slice r25_0_8p r25_0_8l r25_0_8c, .slice r25_0_9p r25_0_9l r25_0_9c, .string r25_0_10]⟩ 11 fun w15 =>
  withJ (fun (x0 : Bool) (w16 : World) =>
  J x0 w16) fun J_0 =>
  condB (r11_1 == (0 : Int)) (
  condB (r18_1 == (30 : Int)) (
  condB (r25_1 == (0 : Int)) (
  ldS w15 ⟨b1, 4, none⟩ fun x40p x40l x40c =>
  condB (((x40l : Nat) : Int) == (1 : Int)) (
  ldS w15 ⟨b1, 4, none⟩ fun x46p x46l x46c =>
  idxA x46p x46l (0 : Int) fun a47 =>
  ldS w15 (((a47.add ((0 : Int).toNat * 6)).add 4)) fun x49p x49l x49c =>
  condB (((x49l : Nat) : Int) == (1 : Int)) (
  ldI .i64 w15 ⟨b5, 0, none⟩ fun x55 =>
  condB (x55 == (1 : Int)) (
  ldStr w15 ⟨b5, 10, none⟩ fun x61 =>
  J_0 (x61.toList == (⟨#[120]⟩ : ByteArray).toList) w15) (
  J_0 false w15)) (
  J_0 false w15)) (
  J_0 false w15)) (
  J_0 false w15)) (
  J_0 false w15)) (
  J_0 false w15)
def ann_law09_awake : Ann := .s (.o) (.s (.o) (.s (.o) (.s (.o) (.j [(0, .bool)] (.o) (.o)))))
theorem eq_law09_awake  (w : World) (J : Bool → World → Prop) : vcFun Tryd.prog Tryd.f7 ann_law09_awake [.one .bool] [] w J = VC_law09_awake  w J := by kernel_rfl
theorem c_law09_awake {w : World} {J : Bool → World → Prop} (h : VC_law09_awake  w J) : callJ Tryd.prog fn_law09_awake #[] w [.one .bool] J := vc_calls Tryd.func7 ann_law09_awake (Eq.mpr (eq_law09_awake  w J) h)

/-- lectern/lecternlaw09.little -/
def VC_law09_little  (w : World) (J : Int → ByteArray → ByteArray → Option Addr → Nat → Nat → Option Addr → Nat → Nat → ByteArray → World → Prop) : Prop :=
  newB w (.cells (zeroC Tryd.prog T_api_Node) T_api_Node) fun b0 w1 =>
  Array.size (⟨[.string ByteArray.empty, .string ⟨#[98]⟩]⟩ : Array Value) = 2 ∧
  Array.size (⟨[.string ByteArray.empty, .string ⟨#[98]⟩, .string ⟨#[49]⟩]⟩ : Array Value) = 3 ∧
  newB w1 (.cells ⟨[.string ByteArray.empty, .string ⟨#[98]⟩, .string ⟨#[49]⟩]⟩ T_api_Attr) fun b5 w2 =>
  Array.size (⟨[.string ByteArray.empty, .string ⟨#[97]⟩]⟩ : Array Value) = 2 ∧
  newB w2 (.cells (zeroC Tryd.prog T_api_Node) T_api_Node) fun b1 w3 =>
  stN w3 ⟨b1, 0, none⟩ ⟨[.int .i64 (2 : Int), .string ByteArray.empty, .string ⟨#[97]⟩, .slice (some ⟨b5, 0, none⟩) 1 1, .slice none 0 0, .string ByteArray.empty]⟩ 6 fun w4 =>
  Array.size (⟨[.string ByteArray.empty, .string ⟨#[99]⟩]⟩ : Array Value) = 2 ∧
  Array.size (⟨[.int .i64 (3 : Int), .string ByteArray.empty, .string ByteArray.empty, .slice none 0 0, .slice none 0 0, .string ⟨#[120]⟩]⟩ : Array Value) = 6 ∧
  Array.size (⟨[.int .i64 (2 : Int), .string ByteArray.empty, .string ⟨#[99]⟩, .slice none 0 0, .slice none 0 0, .string ByteArray.empty]⟩ : Array Value) = 6 ∧
  newB w4 (.cells ⟨[.int .i64 (3 : Int), .string ByteArray.empty, .string ByteArray.empty, .slice none 0 0, .slice none 0 0, .string ⟨#[120]⟩, .int .i64 (2 : Int), .string ByteArray.empty, .string ⟨#[99]⟩, .slice none 0 0, .slice none 0 0, .string ByteArray.empty]⟩ T_api_Node) fun b10 w5 =>
  stV w5 ⟨b1, 4, none⟩ (.slice (some ⟨b10, 0, none⟩) 2 2) fun w6 =>
  ldI .i64 w6 ⟨b1, 0, none⟩ fun x12_0 =>
  ldStr w6 ⟨b1, 1, none⟩ fun x12_1 =>
  ldStr w6 ⟨b1, 2, none⟩ fun x12_2 =>
  ldS w6 ⟨b1, 3, none⟩ fun x12_3p x12_3l x12_3c =>
  ldS w6 ⟨b1, 4, none⟩ fun x12_4p x12_4l x12_4c =>
  ldStr w6 ⟨b1, 5, none⟩ fun x12_5 =>
  Array.size (⟨[.int .i64 x12_0, .string x12_1, .string x12_2, .slice x12_3p x12_3l x12_3c, .slice x12_4p x12_4l x12_4c, .string x12_5]⟩ : Array Value) = 6 ∧
  newB w6 (.cells ⟨[.int .i64 x12_0, .string x12_1, .string x12_2, .slice x12_3p x12_3l x12_3c, .slice x12_4p x12_4l x12_4c, .string x12_5]⟩ T_api_Node) fun b13 w7 =>
  stN w7 ⟨b0, 0, none⟩ ⟨[.int .i64 (1 : Int), .string ByteArray.empty, .string ByteArray.empty, .slice none 0 0, .slice (some ⟨b13, 0, none⟩) 1 1, .string ByteArray.empty]⟩ 6 fun w8 =>
  ldI .i64 w8 ⟨b0, 0, none⟩ fun r_0 =>
  ldStr w8 ⟨b0, 1, none⟩ fun r_1 =>
  ldStr w8 ⟨b0, 2, none⟩ fun r_2 =>
  ldS w8 ⟨b0, 3, none⟩ fun r_3p r_3l r_3c =>
  ldS w8 ⟨b0, 4, none⟩ fun r_4p r_4l r_4c =>
  ldStr w8 ⟨b0, 5, none⟩ fun r_5 =>
  J r_0 r_1 r_2 r_3p r_3l r_3c r_4p r_4l r_4c r_5 w8
def ann_law09_little : Ann := .s (.o) (.s (.o) (.s (.o) (.s (.o) (.o))))
theorem eq_law09_little  (w : World) (J : Int → ByteArray → ByteArray → Option Addr → Nat → Nat → Option Addr → Nat → Nat → ByteArray → World → Prop) : vcFun Tryd.prog Tryd.f17 ann_law09_little [.agg [.int .i64, .str, .str, .slice, .slice, .str]] [] w J = VC_law09_little  w J := by kernel_rfl
theorem c_law09_little {w : World} {J : Int → ByteArray → ByteArray → Option Addr → Nat → Nat → Option Addr → Nat → Nat → ByteArray → World → Prop} (h : VC_law09_little  w J) : callJ Tryd.prog fn_law09_little #[] w [.agg [.int .i64, .str, .str, .slice, .slice, .str]] J := vc_calls Tryd.func17 ann_law09_little (Eq.mpr (eq_law09_little  w J) h)

/-- lectern/lecternlaw09.doc -/
def VC_law09_doc (e0_0 : Int) (e0_1p : Option Addr) (e0_1l : Nat) (e0_1c : Nat) (e0_2 : ByteArray) (e0_3 : ByteArray) (e0_4 : ByteArray) (e0_5 : Int) (e0_6 : ByteArray) (e0_7 : ByteArray) (e0_8p : Option Addr) (e0_8l : Nat) (e0_8c : Nat) (e0_9p : Option Addr) (e0_9l : Nat) (e0_9c : Nat) (e0_10 : ByteArray) (w : World) (J : Int → Option Addr → Nat → Nat → ByteArray → ByteArray → ByteArray → Int → ByteArray → ByteArray → Option Addr → Nat → Nat → Option Addr → Nat → Nat → ByteArray → World → Prop) : Prop :=
  newB w (.cells ⟨[.int .i64 e0_0, .slice e0_1p e0_1l e0_1c, .string e0_2, .string e0_3, .string e0_4, .int .i64 e0_5, .string e0_6, .string e0_7, .slice e0_8p e0_8l e0_8c, .slice e0_9p e0_9l e0_9c, .string e0_10]⟩ T_edit_Edit) fun b1 w1 =>
  newB w1 (.cells (zeroC Tryd.prog T_ref09_Edit) T_ref09_Edit) fun b2 w2 =>
  ldI .i64 w2 ⟨b1, 0, none⟩ fun x4 =>
  ldS w2 ⟨b1, 1, none⟩ fun x6p x6l x6c =>
  ldStr w2 ⟨b1, 2, none⟩ fun x8_0 =>
  ldStr w2 ⟨b1, 3, none⟩ fun x8_1 =>
  ldStr w2 ⟨b1, 4, none⟩ fun x10 =>
  ldI .i64 w2 ⟨b1, 5, none⟩ fun x12_0 =>
  ldStr w2 ⟨b1, 6, none⟩ fun x12_1 =>
  ldStr w2 ⟨b1, 7, none⟩ fun x12_2 =>
  ldS w2 ⟨b1, 8, none⟩ fun x12_3p x12_3l x12_3c =>
  ldS w2 ⟨b1, 9, none⟩ fun x12_4p x12_4l x12_4c =>
  ldStr w2 ⟨b1, 10, none⟩ fun x12_5 =>
  Array.size (⟨[.string x8_0, .string x8_1]⟩ : Array Value) = 2 ∧
  Array.size (⟨[.int .i64 x12_0, .string x12_1, .string x12_2, .slice x12_3p x12_3l x12_3c, .slice x12_4p x12_4l x12_4c, .string x12_5]⟩ : Array Value) = 6 ∧
  stN w2 ⟨b2, 0, none⟩ ⟨[.int .i64 x4, .slice x6p x6l x6c, .string x8_0, .string x8_1, .string x10, .int .i64 x12_0, .string x12_1, .string x12_2, .slice x12_3p x12_3l x12_3c, .slice x12_4p x12_4l x12_4c, .string x12_5]⟩ 11 fun w3 =>
  ldI .i64 w3 ⟨b2, 0, none⟩ fun r_0 =>
  ldS w3 ⟨b2, 1, none⟩ fun r_1p r_1l r_1c =>
  ldStr w3 ⟨b2, 2, none⟩ fun r_2 =>
  ldStr w3 ⟨b2, 3, none⟩ fun r_3 =>
  ldStr w3 ⟨b2, 4, none⟩ fun r_4 =>
  ldI .i64 w3 ⟨b2, 5, none⟩ fun r_5 =>
  ldStr w3 ⟨b2, 6, none⟩ fun r_6 =>
  ldStr w3 ⟨b2, 7, none⟩ fun r_7 =>
  ldS w3 ⟨b2, 8, none⟩ fun r_8p r_8l r_8c =>
  ldS w3 ⟨b2, 9, none⟩ fun r_9p r_9l r_9c =>
  ldStr w3 ⟨b2, 10, none⟩ fun r_10 =>
  J r_0 r_1p r_1l r_1c r_2 r_3 r_4 r_5 r_6 r_7 r_8p r_8l r_8c r_9p r_9l r_9c r_10 w3
def ann_law09_doc : Ann := .s (.o) (.s (.o) (.o))
theorem eq_law09_doc (e0_0 : Int) (e0_1p : Option Addr) (e0_1l : Nat) (e0_1c : Nat) (e0_2 : ByteArray) (e0_3 : ByteArray) (e0_4 : ByteArray) (e0_5 : Int) (e0_6 : ByteArray) (e0_7 : ByteArray) (e0_8p : Option Addr) (e0_8l : Nat) (e0_8c : Nat) (e0_9p : Option Addr) (e0_9l : Nat) (e0_9c : Nat) (e0_10 : ByteArray) (w : World) (J : Int → Option Addr → Nat → Nat → ByteArray → ByteArray → ByteArray → Int → ByteArray → ByteArray → Option Addr → Nat → Nat → Option Addr → Nat → Nat → ByteArray → World → Prop) : vcFun Tryd.prog Tryd.f12 ann_law09_doc [.agg [.int .i64, .slice, .str, .str, .str, .int .i64, .str, .str, .slice, .slice, .str]] [.agg ⟨[.int .i64 e0_0, .slice e0_1p e0_1l e0_1c, .string e0_2, .string e0_3, .string e0_4, .int .i64 e0_5, .string e0_6, .string e0_7, .slice e0_8p e0_8l e0_8c, .slice e0_9p e0_9l e0_9c, .string e0_10]⟩] w J = VC_law09_doc e0_0 e0_1p e0_1l e0_1c e0_2 e0_3 e0_4 e0_5 e0_6 e0_7 e0_8p e0_8l e0_8c e0_9p e0_9l e0_9c e0_10 w J := by kernel_rfl
theorem c_law09_doc {e0_0 : Int} {e0_1p : Option Addr} {e0_1l : Nat} {e0_1c : Nat} {e0_2 : ByteArray} {e0_3 : ByteArray} {e0_4 : ByteArray} {e0_5 : Int} {e0_6 : ByteArray} {e0_7 : ByteArray} {e0_8p : Option Addr} {e0_8l : Nat} {e0_8c : Nat} {e0_9p : Option Addr} {e0_9l : Nat} {e0_9c : Nat} {e0_10 : ByteArray} {w : World} {J : Int → Option Addr → Nat → Nat → ByteArray → ByteArray → ByteArray → Int → ByteArray → ByteArray → Option Addr → Nat → Nat → Option Addr → Nat → Nat → ByteArray → World → Prop} (h : VC_law09_doc e0_0 e0_1p e0_1l e0_1c e0_2 e0_3 e0_4 e0_5 e0_6 e0_7 e0_8p e0_8l e0_8c e0_9p e0_9l e0_9c e0_10 w J) : callJ Tryd.prog fn_law09_doc #[.agg ⟨[.int .i64 e0_0, .slice e0_1p e0_1l e0_1c, .string e0_2, .string e0_3, .string e0_4, .int .i64 e0_5, .string e0_6, .string e0_7, .slice e0_8p e0_8l e0_8c, .slice e0_9p e0_9l e0_9c, .string e0_10]⟩] w [.agg [.int .i64, .slice, .str, .str, .str, .int .i64, .str, .str, .slice, .slice, .str]] J := vc_calls Tryd.func12 ann_law09_doc (Eq.mpr (eq_law09_doc e0_0 e0_1p e0_1l e0_1c e0_2 e0_3 e0_4 e0_5 e0_6 e0_7 e0_8p e0_8l e0_8c e0_9p e0_9l e0_9c e0_10 w J) h)

/-- lectern/lecternlaw09.EditUndoes -/
def VC_law09_EditUndoes (d0_0 : Int) (d0_1 : ByteArray) (d0_2 : ByteArray) (d0_3p : Option Addr) (d0_3l : Nat) (d0_3c : Nat) (d0_4p : Option Addr) (d0_4l : Nat) (d0_4c : Nat) (d0_5 : ByteArray) (e1_0 : Int) (e1_1p : Option Addr) (e1_1l : Nat) (e1_1c : Nat) (e1_2 : ByteArray) (e1_3 : ByteArray) (e1_4 : ByteArray) (e1_5 : Int) (e1_6 : ByteArray) (e1_7 : ByteArray) (e1_8p : Option Addr) (e1_8l : Nat) (e1_8c : Nat) (e1_9p : Option Addr) (e1_9l : Nat) (e1_9c : Nat) (e1_10 : ByteArray) (w : World) (J : Bool → World → Prop) : Prop :=
  newB w (.cells ⟨[.int .i64 d0_0, .string d0_1, .string d0_2, .slice d0_3p d0_3l d0_3c, .slice d0_4p d0_4l d0_4c, .string d0_5]⟩ T_api_Node) fun b2 w1 =>
  newB w1 (.cells ⟨[.int .i64 e1_0, .slice e1_1p e1_1l e1_1c, .string e1_2, .string e1_3, .string e1_4, .int .i64 e1_5, .string e1_6, .string e1_7, .slice e1_8p e1_8l e1_8c, .slice e1_9p e1_9l e1_9c, .string e1_10]⟩ T_edit_Edit) fun b3 w2 =>
  callJ Tryd.prog fn_law09_awake #[] w2 [.one .bool] fun (r15 : Bool) (w3 : World) =>
  condB (!r15) (
  J false w3) (
  ldI .i64 w3 ⟨b2, 0, none⟩ fun x18_0 =>
  ldStr w3 ⟨b2, 1, none⟩ fun x18_1 =>
  ldStr w3 ⟨b2, 2, none⟩ fun x18_2 =>
  ldS w3 ⟨b2, 3, none⟩ fun x18_3p x18_3l x18_3c =>
  ldS w3 ⟨b2, 4, none⟩ fun x18_4p x18_4l x18_4c =>
  ldStr w3 ⟨b2, 5, none⟩ fun x18_5 =>
  ldI .i64 w3 ⟨b3, 0, none⟩ fun x19_0 =>
  ldS w3 ⟨b3, 1, none⟩ fun x19_1p x19_1l x19_1c =>
  ldStr w3 ⟨b3, 2, none⟩ fun x19_2 =>
  ldStr w3 ⟨b3, 3, none⟩ fun x19_3 =>
  ldStr w3 ⟨b3, 4, none⟩ fun x19_4 =>
  ldI .i64 w3 ⟨b3, 5, none⟩ fun x19_5 =>
  ldStr w3 ⟨b3, 6, none⟩ fun x19_6 =>
  ldStr w3 ⟨b3, 7, none⟩ fun x19_7 =>
  ldS w3 ⟨b3, 8, none⟩ fun x19_8p x19_8l x19_8c =>
  ldS w3 ⟨b3, 9, none⟩ fun x19_9p x19_9l x19_9c =>
  ldStr w3 ⟨b3, 10, none⟩ fun x19_10 =>
  callJ Tryd.prog fn_edit_Apply #[.agg ⟨[.int .i64 x18_0, .string x18_1, .string x18_2, .slice x18_3p x18_3l x18_3c, .slice x18_4p x18_4l x18_4c, .string x18_5]⟩, .agg ⟨[.int .i64 x19_0, .slice x19_1p x19_1l x19_1c, .string x19_2, .string x19_3, .string x19_4, .int .i64 x19_5, .string x19_6, .string x19_7, .slice x19_8p x19_8l x19_8c, .slice x19_9p x19_9l x19_9c, .string x19_10]⟩] w3 [.agg [.int .i64, .str, .str, .slice, .slice, .str], .one (.int .i64)] fun (r20_0_0 : Int) (r20_0_1 : ByteArray) (r20_0_2 : ByteArray) (r20_0_3p : Option Addr) (r20_0_3l : Nat) (r20_0_3c : Nat) (r20_0_4p : Option Addr) (r20_0_4l : Nat) (r20_0_4c : Nat) (r20_0_5 : ByteArray) (r20_1 : Int) (w4 : World) =>
  newB w4 (.cells (zeroC Tryd.prog T_api_Node) T_api_Node) fun b5 w5 =>
  stN w5 ⟨b5, 0, none⟩ ⟨[.int .i64 r20_0_0, .string r20_0_1, .string r20_0_2, .slice r20_0_3p r20_0_3l r20_0_3c, .slice r20_0_4p r20_0_4l r20_0_4c, .string r20_0_5]⟩ 6 fun w6 =>
  ldI .i64 w6 ⟨b2, 0, none⟩ fun x24_0 =>
  ldStr w6 ⟨b2, 1, none⟩ fun x24_1 =>
  ldStr w6 ⟨b2, 2, none⟩ fun x24_2 =>
  ldS w6 ⟨b2, 3, none⟩ fun x24_3p x24_3l x24_3c =>
  ldS w6 ⟨b2, 4, none⟩ fun x24_4p x24_4l x24_4c =>
  ldStr w6 ⟨b2, 5, none⟩ fun x24_5 =>
  ldI .i64 w6 ⟨b3, 0, none⟩ fun x25_0 =>
  ldS w6 ⟨b3, 1, none⟩ fun x25_1p x25_1l x25_1c =>
  ldStr w6 ⟨b3, 2, none⟩ fun x25_2 =>
  ldStr w6 ⟨b3, 3, none⟩ fun x25_3 =>
  ldStr w6 ⟨b3, 4, none⟩ fun x25_4 =>
  ldI .i64 w6 ⟨b3, 5, none⟩ fun x25_5 =>
  ldStr w6 ⟨b3, 6, none⟩ fun x25_6 =>
  ldStr w6 ⟨b3, 7, none⟩ fun x25_7 =>
  ldS w6 ⟨b3, 8, none⟩ fun x25_8p x25_8l x25_8c =>
  ldS w6 ⟨b3, 9, none⟩ fun x25_9p x25_9l x25_9c =>
  ldStr w6 ⟨b3, 10, none⟩ fun x25_10 =>
  callJ Tryd.prog fn_edit_Back #[.agg ⟨[.int .i64 x24_0, .string x24_1, .string x24_2, .slice x24_3p x24_3l x24_3c, .slice x24_4p x24_4l x24_4c, .string x24_5]⟩, .agg ⟨[.int .i64 x25_0, .slice x25_1p x25_1l x25_1c, .string x25_2, .string x25_3, .string x25_4, .int .i64 x25_5, .string x25_6, .string x25_7, .slice x25_8p x25_8l x25_8c, .slice x25_9p x25_9l x25_9c, .string x25_10]⟩] w6 [.agg [.int .i64, .slice, .str, .str, .str, .int .i64, .str, .str, .slice, .slice, .str], .one (.int .i64)] fun (r26_0_0 : Int) (r26_0_1p : Option Addr) (r26_0_1l : Nat) (r26_0_1c : Nat) (r26_0_2 : ByteArray) (r26_0_3 : ByteArray) (r26_0_4 : ByteArray) (r26_0_5 : Int) (r26_0_6 : ByteArray) (r26_0_7 : ByteArray) (r26_0_8p : Option Addr) (r26_0_8l : Nat) (r26_0_8c : Nat) (r26_0_9p : Option Addr) (r26_0_9l : Nat) (r26_0_9c : Nat) (r26_0_10 : ByteArray) (r26_1 : Int) (w7 : World) =>
  newB w7 (.cells (zeroC Tryd.prog T_edit_Edit) T_edit_Edit) fun b7 w8 =>
  stN w8 ⟨b7, 0, none⟩ ⟨[.int .i64 r26_0_0, .slice r26_0_1p r26_0_1l r26_0_1c, .string r26_0_2, .string r26_0_3, .string r26_0_4, .int .i64 r26_0_5, .string r26_0_6, .string r26_0_7, .slice r26_0_8p r26_0_8l r26_0_8c, .slice r26_0_9p r26_0_9l r26_0_9c, .string r26_0_10]⟩ 11 fun w9 =>
  condB (r20_1 != r26_1) (
  J false w9) (
  condB (r20_1 != (0 : Int)) (
  withJ (fun (x4 : Bool) (w10 : World) =>
  J x4 w10) fun J_4 =>
  ldI .i64 w9 ⟨b5, 0, none⟩ fun x34_0 =>
  ldStr w9 ⟨b5, 1, none⟩ fun x34_1 =>
  ldStr w9 ⟨b5, 2, none⟩ fun x34_2 =>
  ldS w9 ⟨b5, 3, none⟩ fun x34_3p x34_3l x34_3c =>
  ldS w9 ⟨b5, 4, none⟩ fun x34_4p x34_4l x34_4c =>
  ldStr w9 ⟨b5, 5, none⟩ fun x34_5 =>
  callJ Tryd.prog fn_ref05_Same #[.agg ⟨[.int .i64 x34_0, .string x34_1, .string x34_2, .slice x34_3p x34_3l x34_3c, .slice x34_4p x34_4l x34_4c, .string x34_5]⟩, .agg ⟨[.int .i64 (0 : Int), .string ByteArray.empty, .string ByteArray.empty, .slice none 0 0, .slice none 0 0, .string ByteArray.empty]⟩] w9 [.one .bool] fun (r36 : Bool) (w11 : World) =>
  condB r36 (
  ldI .i64 w11 ⟨b7, 0, none⟩ fun x38_0 =>
  ldS w11 ⟨b7, 1, none⟩ fun x38_1p x38_1l x38_1c =>
  ldStr w11 ⟨b7, 2, none⟩ fun x38_2 =>
  ldStr w11 ⟨b7, 3, none⟩ fun x38_3 =>
  ldStr w11 ⟨b7, 4, none⟩ fun x38_4 =>
  ldI .i64 w11 ⟨b7, 5, none⟩ fun x38_5 =>
  ldStr w11 ⟨b7, 6, none⟩ fun x38_6 =>
  ldStr w11 ⟨b7, 7, none⟩ fun x38_7 =>
  ldS w11 ⟨b7, 8, none⟩ fun x38_8p x38_8l x38_8c =>
  ldS w11 ⟨b7, 9, none⟩ fun x38_9p x38_9l x38_9c =>
  ldStr w11 ⟨b7, 10, none⟩ fun x38_10 =>
  callJ Tryd.prog fn_law09_doc #[.agg ⟨[.int .i64 x38_0, .slice x38_1p x38_1l x38_1c, .string x38_2, .string x38_3, .string x38_4, .int .i64 x38_5, .string x38_6, .string x38_7, .slice x38_8p x38_8l x38_8c, .slice x38_9p x38_9l x38_9c, .string x38_10]⟩] w11 [.agg [.int .i64, .slice, .str, .str, .str, .int .i64, .str, .str, .slice, .slice, .str]] fun (r39_0 : Int) (r39_1p : Option Addr) (r39_1l : Nat) (r39_1c : Nat) (r39_2 : ByteArray) (r39_3 : ByteArray) (r39_4 : ByteArray) (r39_5 : Int) (r39_6 : ByteArray) (r39_7 : ByteArray) (r39_8p : Option Addr) (r39_8l : Nat) (r39_8c : Nat) (r39_9p : Option Addr) (r39_9l : Nat) (r39_9c : Nat) (r39_10 : ByteArray) (w12 : World) =>
  callJ Tryd.prog fn_ref09_Same #[.agg ⟨[.int .i64 r39_0, .slice r39_1p r39_1l r39_1c, .string r39_2, .string r39_3, .string r39_4, .int .i64 r39_5, .string r39_6, .string r39_7, .slice r39_8p r39_8l r39_8c, .slice r39_9p r39_9l r39_9c, .string r39_10]⟩, .agg ⟨[.int .i64 (0 : Int), .slice none 0 0, .string ByteArray.empty, .string ByteArray.empty, .string ByteArray.empty, .int .i64 (0 : Int), .string ByteArray.empty, .string ByteArray.empty, .slice none 0 0, .slice none 0 0, .string ByteArray.empty]⟩] w12 [.one .bool] fun (r41 : Bool) (w13 : World) =>
  J_4 r41 w13) (
  J_4 false w11)) (
  ldI .i64 w9 ⟨b5, 0, none⟩ fun x44_0 =>
  ldStr w9 ⟨b5, 1, none⟩ fun x44_1 =>
  ldStr w9 ⟨b5, 2, none⟩ fun x44_2 =>
  ldS w9 ⟨b5, 3, none⟩ fun x44_3p x44_3l x44_3c =>
  ldS w9 ⟨b5, 4, none⟩ fun x44_4p x44_4l x44_4c =>
  ldStr w9 ⟨b5, 5, none⟩ fun x44_5 =>
  ldI .i64 w9 ⟨b7, 0, none⟩ fun x45_0 =>
  ldS w9 ⟨b7, 1, none⟩ fun x45_1p x45_1l x45_1c =>
  ldStr w9 ⟨b7, 2, none⟩ fun x45_2 =>
  ldStr w9 ⟨b7, 3, none⟩ fun x45_3 =>
  ldStr w9 ⟨b7, 4, none⟩ fun x45_4 =>
  ldI .i64 w9 ⟨b7, 5, none⟩ fun x45_5 =>
  ldStr w9 ⟨b7, 6, none⟩ fun x45_6 =>
  ldStr w9 ⟨b7, 7, none⟩ fun x45_7 =>
  ldS w9 ⟨b7, 8, none⟩ fun x45_8p x45_8l x45_8c =>
  ldS w9 ⟨b7, 9, none⟩ fun x45_9p x45_9l x45_9c =>
  ldStr w9 ⟨b7, 10, none⟩ fun x45_10 =>
  callJ Tryd.prog fn_edit_Apply #[.agg ⟨[.int .i64 x44_0, .string x44_1, .string x44_2, .slice x44_3p x44_3l x44_3c, .slice x44_4p x44_4l x44_4c, .string x44_5]⟩, .agg ⟨[.int .i64 x45_0, .slice x45_1p x45_1l x45_1c, .string x45_2, .string x45_3, .string x45_4, .int .i64 x45_5, .string x45_6, .string x45_7, .slice x45_8p x45_8l x45_8c, .slice x45_9p x45_9l x45_9c, .string x45_10]⟩] w9 [.agg [.int .i64, .str, .str, .slice, .slice, .str], .one (.int .i64)] fun (r46_0_0 : Int) (r46_0_1 : ByteArray) (r46_0_2 : ByteArray) (r46_0_3p : Option Addr) (r46_0_3l : Nat) (r46_0_3c : Nat) (r46_0_4p : Option Addr) (r46_0_4l : Nat) (r46_0_4c : Nat) (r46_0_5 : ByteArray) (r46_1 : Int) (w14 : World) =>
  newB w14 (.cells (zeroC Tryd.prog T_api_Node) T_api_Node) fun b9 w15 =>
  stN w15 ⟨b9, 0, none⟩ ⟨[.int .i64 r46_0_0, .string r46_0_1, .string r46_0_2, .slice r46_0_3p r46_0_3l r46_0_3c, .slice r46_0_4p r46_0_4l r46_0_4c, .string r46_0_5]⟩ 6 fun w16 =>
  ldI .i64 w16 ⟨b5, 0, none⟩ fun x50_0 =>
  ldStr w16 ⟨b5, 1, none⟩ fun x50_1 =>
  ldStr w16 ⟨b5, 2, none⟩ fun x50_2 =>
  ldS w16 ⟨b5, 3, none⟩ fun x50_3p x50_3l x50_3c =>
  ldS w16 ⟨b5, 4, none⟩ fun x50_4p x50_4l x50_4c =>
  ldStr w16 ⟨b5, 5, none⟩ fun x50_5 =>
  ldI .i64 w16 ⟨b7, 0, none⟩ fun x51_0 =>
  ldS w16 ⟨b7, 1, none⟩ fun x51_1p x51_1l x51_1c =>
  ldStr w16 ⟨b7, 2, none⟩ fun x51_2 =>
  ldStr w16 ⟨b7, 3, none⟩ fun x51_3 =>
  ldStr w16 ⟨b7, 4, none⟩ fun x51_4 =>
  ldI .i64 w16 ⟨b7, 5, none⟩ fun x51_5 =>
  ldStr w16 ⟨b7, 6, none⟩ fun x51_6 =>
  ldStr w16 ⟨b7, 7, none⟩ fun x51_7 =>
  ldS w16 ⟨b7, 8, none⟩ fun x51_8p x51_8l x51_8c =>
  ldS w16 ⟨b7, 9, none⟩ fun x51_9p x51_9l x51_9c =>
  ldStr w16 ⟨b7, 10, none⟩ fun x51_10 =>
  callJ Tryd.prog fn_edit_Back #[.agg ⟨[.int .i64 x50_0, .string x50_1, .string x50_2, .slice x50_3p x50_3l x50_3c, .slice x50_4p x50_4l x50_4c, .string x50_5]⟩, .agg ⟨[.int .i64 x51_0, .slice x51_1p x51_1l x51_1c, .string x51_2, .string x51_3, .string x51_4, .int .i64 x51_5, .string x51_6, .string x51_7, .slice x51_8p x51_8l x51_8c, .slice x51_9p x51_9l x51_9c, .string x51_10]⟩] w16 [.agg [.int .i64, .slice, .str, .str, .str, .int .i64, .str, .str, .slice, .slice, .str], .one (.int .i64)] fun (r52_0_0 : Int) (r52_0_1p : Option Addr) (r52_0_1l : Nat) (r52_0_1c : Nat) (r52_0_2 : ByteArray) (r52_0_3 : ByteArray) (r52_0_4 : ByteArray) (r52_0_5 : Int) (r52_0_6 : ByteArray) (r52_0_7 : ByteArray) (r52_0_8p : Option Addr) (r52_0_8l : Nat) (r52_0_8c : Nat) (r52_0_9p : Option Addr) (r52_0_9l : Nat) (r52_0_9c : Nat) (r52_0_10 : ByteArray) (r52_1 : Int) (w17 : World) =>
  newB w17 (.cells (zeroC Tryd.prog T_edit_Edit) T_edit_Edit) fun b11 w18 =>
  stN w18 ⟨b11, 0, none⟩ ⟨[.int .i64 r52_0_0, .slice r52_0_1p r52_0_1l r52_0_1c, .string r52_0_2, .string r52_0_3, .string r52_0_4, .int .i64 r52_0_5, .string r52_0_6, .string r52_0_7, .slice r52_0_8p r52_0_8l r52_0_8c, .slice r52_0_9p r52_0_9l r52_0_9c, .string r52_0_10]⟩ 11 fun w19 =>
  ldI .i64 w19 ⟨b9, 0, none⟩ fun x56_0 =>
  ldStr w19 ⟨b9, 1, none⟩ fun x56_1 =>
  ldStr w19 ⟨b9, 2, none⟩ fun x56_2 =>
  ldS w19 ⟨b9, 3, none⟩ fun x56_3p x56_3l x56_3c =>
  ldS w19 ⟨b9, 4, none⟩ fun x56_4p x56_4l x56_4c =>
  ldStr w19 ⟨b9, 5, none⟩ fun x56_5 =>
  ldI .i64 w19 ⟨b11, 0, none⟩ fun x57_0 =>
  ldS w19 ⟨b11, 1, none⟩ fun x57_1p x57_1l x57_1c =>
  ldStr w19 ⟨b11, 2, none⟩ fun x57_2 =>
  ldStr w19 ⟨b11, 3, none⟩ fun x57_3 =>
  ldStr w19 ⟨b11, 4, none⟩ fun x57_4 =>
  ldI .i64 w19 ⟨b11, 5, none⟩ fun x57_5 =>
  ldStr w19 ⟨b11, 6, none⟩ fun x57_6 =>
  ldStr w19 ⟨b11, 7, none⟩ fun x57_7 =>
  ldS w19 ⟨b11, 8, none⟩ fun x57_8p x57_8l x57_8c =>
  ldS w19 ⟨b11, 9, none⟩ fun x57_9p x57_9l x57_9c =>
  ldStr w19 ⟨b11, 10, none⟩ fun x57_10 =>
  callJ Tryd.prog fn_edit_Apply #[.agg ⟨[.int .i64 x56_0, .string x56_1, .string x56_2, .slice x56_3p x56_3l x56_3c, .slice x56_4p x56_4l x56_4c, .string x56_5]⟩, .agg ⟨[.int .i64 x57_0, .slice x57_1p x57_1l x57_1c, .string x57_2, .string x57_3, .string x57_4, .int .i64 x57_5, .string x57_6, .string x57_7, .slice x57_8p x57_8l x57_8c, .slice x57_9p x57_9l x57_9c, .string x57_10]⟩] w19 [.agg [.int .i64, .str, .str, .slice, .slice, .str], .one (.int .i64)] fun (r58_0_0 : Int) (r58_0_1 : ByteArray) (r58_0_2 : ByteArray) (r58_0_3p : Option Addr) (r58_0_3l : Nat) (r58_0_3c : Nat) (r58_0_4p : Option Addr) (r58_0_4l : Nat) (r58_0_4c : Nat) (r58_0_5 : ByteArray) (r58_1 : Int) (w20 : World) =>
  newB w20 (.cells (zeroC Tryd.prog T_api_Node) T_api_Node) fun b13 w21 =>
  stN w21 ⟨b13, 0, none⟩ ⟨[.int .i64 r58_0_0, .string r58_0_1, .string r58_0_2, .slice r58_0_3p r58_0_3l r58_0_3c, .slice r58_0_4p r58_0_4l r58_0_4c, .string r58_0_5]⟩ 6 fun w22 =>
  withJ (fun (x4_1 : Bool) (w23 : World) =>
  J x4_1 w23) fun J_4_1 =>
  condB (r46_1 == (0 : Int)) (
  condB (r52_1 == (0 : Int)) (
  condB (r58_1 == (0 : Int)) (
  ldI .i64 w22 ⟨b9, 0, none⟩ fun x72_0 =>
  ldStr w22 ⟨b9, 1, none⟩ fun x72_1 =>
  ldStr w22 ⟨b9, 2, none⟩ fun x72_2 =>
  ldS w22 ⟨b9, 3, none⟩ fun x72_3p x72_3l x72_3c =>
  ldS w22 ⟨b9, 4, none⟩ fun x72_4p x72_4l x72_4c =>
  ldStr w22 ⟨b9, 5, none⟩ fun x72_5 =>
  ldI .i64 w22 ⟨b2, 0, none⟩ fun x73_0 =>
  ldStr w22 ⟨b2, 1, none⟩ fun x73_1 =>
  ldStr w22 ⟨b2, 2, none⟩ fun x73_2 =>
  ldS w22 ⟨b2, 3, none⟩ fun x73_3p x73_3l x73_3c =>
  ldS w22 ⟨b2, 4, none⟩ fun x73_4p x73_4l x73_4c =>
  ldStr w22 ⟨b2, 5, none⟩ fun x73_5 =>
  callJ Tryd.prog fn_ref05_Same #[.agg ⟨[.int .i64 x72_0, .string x72_1, .string x72_2, .slice x72_3p x72_3l x72_3c, .slice x72_4p x72_4l x72_4c, .string x72_5]⟩, .agg ⟨[.int .i64 x73_0, .string x73_1, .string x73_2, .slice x73_3p x73_3l x73_3c, .slice x73_4p x73_4l x73_4c, .string x73_5]⟩] w22 [.one .bool] fun (r74 : Bool) (w24 : World) =>
  condB r74 (
  ldI .i64 w24 ⟨b13, 0, none⟩ fun x77_0 =>
  ldStr w24 ⟨b13, 1, none⟩ fun x77_1 =>
  ldStr w24 ⟨b13, 2, none⟩ fun x77_2 =>
  ldS w24 ⟨b13, 3, none⟩ fun x77_3p x77_3l x77_3c =>
  ldS w24 ⟨b13, 4, none⟩ fun x77_4p x77_4l x77_4c =>
  ldStr w24 ⟨b13, 5, none⟩ fun x77_5 =>
  ldI .i64 w24 ⟨b5, 0, none⟩ fun x78_0 =>
  ldStr w24 ⟨b5, 1, none⟩ fun x78_1 =>
  ldStr w24 ⟨b5, 2, none⟩ fun x78_2 =>
  ldS w24 ⟨b5, 3, none⟩ fun x78_3p x78_3l x78_3c =>
  ldS w24 ⟨b5, 4, none⟩ fun x78_4p x78_4l x78_4c =>
  ldStr w24 ⟨b5, 5, none⟩ fun x78_5 =>
  callJ Tryd.prog fn_ref05_Same #[.agg ⟨[.int .i64 x77_0, .string x77_1, .string x77_2, .slice x77_3p x77_3l x77_3c, .slice x77_4p x77_4l x77_4c, .string x77_5]⟩, .agg ⟨[.int .i64 x78_0, .string x78_1, .string x78_2, .slice x78_3p x78_3l x78_3c, .slice x78_4p x78_4l x78_4c, .string x78_5]⟩] w24 [.one .bool] fun (r79 : Bool) (w25 : World) =>
  J_4_1 r79 w25) (
  J_4_1 false w24)) (
  J_4_1 false w22)) (
  J_4_1 false w22)) (
  J_4_1 false w22))))
def ann_law09_EditUndoes : Ann := .s (.o) (.s (.s (.o) (.c (.s (.o) (.o)) (.o))) (.s (.o) (.s (.o) (.s (.s (.o) (.c (.s (.o) (.o)) (.o))) (.s (.s (.o) (.c (.j [(4, .bool)] (.o) (.o)) (.o))) (.s (.o) (.s (.o) (.s (.o) (.j [(4, .bool)] (.o) (.o))))))))))
theorem eq_law09_EditUndoes (d0_0 : Int) (d0_1 : ByteArray) (d0_2 : ByteArray) (d0_3p : Option Addr) (d0_3l : Nat) (d0_3c : Nat) (d0_4p : Option Addr) (d0_4l : Nat) (d0_4c : Nat) (d0_5 : ByteArray) (e1_0 : Int) (e1_1p : Option Addr) (e1_1l : Nat) (e1_1c : Nat) (e1_2 : ByteArray) (e1_3 : ByteArray) (e1_4 : ByteArray) (e1_5 : Int) (e1_6 : ByteArray) (e1_7 : ByteArray) (e1_8p : Option Addr) (e1_8l : Nat) (e1_8c : Nat) (e1_9p : Option Addr) (e1_9l : Nat) (e1_9c : Nat) (e1_10 : ByteArray) (w : World) (J : Bool → World → Prop) : vcFun Tryd.prog Tryd.f3 ann_law09_EditUndoes [.one .bool] [.agg ⟨[.int .i64 d0_0, .string d0_1, .string d0_2, .slice d0_3p d0_3l d0_3c, .slice d0_4p d0_4l d0_4c, .string d0_5]⟩, .agg ⟨[.int .i64 e1_0, .slice e1_1p e1_1l e1_1c, .string e1_2, .string e1_3, .string e1_4, .int .i64 e1_5, .string e1_6, .string e1_7, .slice e1_8p e1_8l e1_8c, .slice e1_9p e1_9l e1_9c, .string e1_10]⟩] w J = VC_law09_EditUndoes d0_0 d0_1 d0_2 d0_3p d0_3l d0_3c d0_4p d0_4l d0_4c d0_5 e1_0 e1_1p e1_1l e1_1c e1_2 e1_3 e1_4 e1_5 e1_6 e1_7 e1_8p e1_8l e1_8c e1_9p e1_9l e1_9c e1_10 w J := by kernel_rfl
theorem c_law09_EditUndoes {d0_0 : Int} {d0_1 : ByteArray} {d0_2 : ByteArray} {d0_3p : Option Addr} {d0_3l : Nat} {d0_3c : Nat} {d0_4p : Option Addr} {d0_4l : Nat} {d0_4c : Nat} {d0_5 : ByteArray} {e1_0 : Int} {e1_1p : Option Addr} {e1_1l : Nat} {e1_1c : Nat} {e1_2 : ByteArray} {e1_3 : ByteArray} {e1_4 : ByteArray} {e1_5 : Int} {e1_6 : ByteArray} {e1_7 : ByteArray} {e1_8p : Option Addr} {e1_8l : Nat} {e1_8c : Nat} {e1_9p : Option Addr} {e1_9l : Nat} {e1_9c : Nat} {e1_10 : ByteArray} {w : World} {J : Bool → World → Prop} (h : VC_law09_EditUndoes d0_0 d0_1 d0_2 d0_3p d0_3l d0_3c d0_4p d0_4l d0_4c d0_5 e1_0 e1_1p e1_1l e1_1c e1_2 e1_3 e1_4 e1_5 e1_6 e1_7 e1_8p e1_8l e1_8c e1_9p e1_9l e1_9c e1_10 w J) : callJ Tryd.prog fn_law09_EditUndoes #[.agg ⟨[.int .i64 d0_0, .string d0_1, .string d0_2, .slice d0_3p d0_3l d0_3c, .slice d0_4p d0_4l d0_4c, .string d0_5]⟩, .agg ⟨[.int .i64 e1_0, .slice e1_1p e1_1l e1_1c, .string e1_2, .string e1_3, .string e1_4, .int .i64 e1_5, .string e1_6, .string e1_7, .slice e1_8p e1_8l e1_8c, .slice e1_9p e1_9l e1_9c, .string e1_10]⟩] w [.one .bool] J := vc_calls Tryd.func3 ann_law09_EditUndoes (Eq.mpr (eq_law09_EditUndoes d0_0 d0_1 d0_2 d0_3p d0_3l d0_3c d0_4p d0_4l d0_4c d0_5 e1_0 e1_1p e1_1l e1_1c e1_2 e1_3 e1_4 e1_5 e1_6 e1_7 e1_8p e1_8l e1_8c e1_9p e1_9l e1_9c e1_10 w J) h)

/-- lectern/lecternlaw09.EditRight -/
def VC_law09_EditRight (d0_0 : Int) (d0_1 : ByteArray) (d0_2 : ByteArray) (d0_3p : Option Addr) (d0_3l : Nat) (d0_3c : Nat) (d0_4p : Option Addr) (d0_4l : Nat) (d0_4c : Nat) (d0_5 : ByteArray) (l1p : Option Addr) (l1l : Nat) (l1c : Nat) (w : World) (J : Bool → World → Prop) : Prop :=
  newB w (.cells ⟨[.int .i64 d0_0, .string d0_1, .string d0_2, .slice d0_3p d0_3l d0_3c, .slice d0_4p d0_4l d0_4c, .string d0_5]⟩ T_api_Node) fun b2 w1 =>
  callJ Tryd.prog fn_law09_awake #[] w1 [.one .bool] fun (r9 : Bool) (w2 : World) =>
  condB (!r9) (
  J false w2) (
  ldI .i64 w2 ⟨b2, 0, none⟩ fun x11_0 =>
  ldStr w2 ⟨b2, 1, none⟩ fun x11_1 =>
  ldStr w2 ⟨b2, 2, none⟩ fun x11_2 =>
  ldS w2 ⟨b2, 3, none⟩ fun x11_3p x11_3l x11_3c =>
  ldS w2 ⟨b2, 4, none⟩ fun x11_4p x11_4l x11_4c =>
  ldStr w2 ⟨b2, 5, none⟩ fun x11_5 =>
  callJ Tryd.prog fn_tree_Check #[.agg ⟨[.int .i64 x11_0, .string x11_1, .string x11_2, .slice x11_3p x11_3l x11_3c, .slice x11_4p x11_4l x11_4c, .string x11_5]⟩] w2 [.one (.int .i64)] fun (r12 : Int) (w3 : World) =>
  condB (r12 != (0 : Int)) (
  J true w3) (
  withJ (fun (w4 : World) =>
  ldI .i64 w4 ⟨b2, 0, none⟩ fun x36_0 =>
  ldStr w4 ⟨b2, 1, none⟩ fun x36_1 =>
  ldStr w4 ⟨b2, 2, none⟩ fun x36_2 =>
  ldS w4 ⟨b2, 3, none⟩ fun x36_3p x36_3l x36_3c =>
  ldS w4 ⟨b2, 4, none⟩ fun x36_4p x36_4l x36_4c =>
  ldStr w4 ⟨b2, 5, none⟩ fun x36_5 =>
  callJ Tryd.prog fn_tree_Check #[.agg ⟨[.int .i64 x36_0, .string x36_1, .string x36_2, .slice x36_3p x36_3l x36_3c, .slice x36_4p x36_4l x36_4c, .string x36_5]⟩] w4 [.one (.int .i64)] fun (r37 : Int) (w5 : World) =>
  J (r37 == (0 : Int)) w5) fun J_0 =>
  ∃ I_16 : Int → World → Nat → Prop, (∃ m : Nat, I_16 (0 : Int) w3 m) ∧ ∀ (x16 : Int) (w6 : World) (m : Nat), I_16 x16 w6 m → (
  condB (decide (x16 < ((l1l : Nat) : Int))) (
  withJ (fun (w7 : World) =>
  ∃ m' : Nat, m' < m ∧ I_16 (w64 (x16 + (1 : Int))) w7 m') fun J_0_1 =>
  idxA l1p l1l x16 fun a19 =>
  ldI .i64 w6 ((a19.add (x16.toNat * 11))) fun x20_0 =>
  ldS w6 (((a19.add (x16.toNat * 11)).add 1)) fun x20_1p x20_1l x20_1c =>
  ldStr w6 (((a19.add (x16.toNat * 11)).add 2)) fun x20_2 =>
  ldStr w6 (((a19.add (x16.toNat * 11)).add 3)) fun x20_3 =>
  ldStr w6 (((a19.add (x16.toNat * 11)).add 4)) fun x20_4 =>
  ldI .i64 w6 (((a19.add (x16.toNat * 11)).add 5)) fun x20_5 =>
  ldStr w6 (((a19.add (x16.toNat * 11)).add 6)) fun x20_6 =>
  ldStr w6 (((a19.add (x16.toNat * 11)).add 7)) fun x20_7 =>
  ldS w6 (((a19.add (x16.toNat * 11)).add 8)) fun x20_8p x20_8l x20_8c =>
  ldS w6 (((a19.add (x16.toNat * 11)).add 9)) fun x20_9p x20_9l x20_9c =>
  ldStr w6 (((a19.add (x16.toNat * 11)).add 10)) fun x20_10 =>
  newB w6 (.cells (zeroC Tryd.prog T_edit_Edit) T_edit_Edit) fun b6 w8 =>
  stN w8 ⟨b6, 0, none⟩ ⟨[.int .i64 x20_0, .slice x20_1p x20_1l x20_1c, .string x20_2, .string x20_3, .string x20_4, .int .i64 x20_5, .string x20_6, .string x20_7, .slice x20_8p x20_8l x20_8c, .slice x20_9p x20_9l x20_9c, .string x20_10]⟩ 11 fun w9 =>
  condB (decide (x16 ≥ (30 : Int))) (
  J_0 w9) (
  ldI .i64 w9 ⟨b2, 0, none⟩ fun x24_0 =>
  ldStr w9 ⟨b2, 1, none⟩ fun x24_1 =>
  ldStr w9 ⟨b2, 2, none⟩ fun x24_2 =>
  ldS w9 ⟨b2, 3, none⟩ fun x24_3p x24_3l x24_3c =>
  ldS w9 ⟨b2, 4, none⟩ fun x24_4p x24_4l x24_4c =>
  ldStr w9 ⟨b2, 5, none⟩ fun x24_5 =>
  ldI .i64 w9 ⟨b6, 0, none⟩ fun x25_0 =>
  ldS w9 ⟨b6, 1, none⟩ fun x25_1p x25_1l x25_1c =>
  ldStr w9 ⟨b6, 2, none⟩ fun x25_2 =>
  ldStr w9 ⟨b6, 3, none⟩ fun x25_3 =>
  ldStr w9 ⟨b6, 4, none⟩ fun x25_4 =>
  ldI .i64 w9 ⟨b6, 5, none⟩ fun x25_5 =>
  ldStr w9 ⟨b6, 6, none⟩ fun x25_6 =>
  ldStr w9 ⟨b6, 7, none⟩ fun x25_7 =>
  ldS w9 ⟨b6, 8, none⟩ fun x25_8p x25_8l x25_8c =>
  ldS w9 ⟨b6, 9, none⟩ fun x25_9p x25_9l x25_9c =>
  ldStr w9 ⟨b6, 10, none⟩ fun x25_10 =>
  callJ Tryd.prog fn_edit_Apply #[.agg ⟨[.int .i64 x24_0, .string x24_1, .string x24_2, .slice x24_3p x24_3l x24_3c, .slice x24_4p x24_4l x24_4c, .string x24_5]⟩, .agg ⟨[.int .i64 x25_0, .slice x25_1p x25_1l x25_1c, .string x25_2, .string x25_3, .string x25_4, .int .i64 x25_5, .string x25_6, .string x25_7, .slice x25_8p x25_8l x25_8c, .slice x25_9p x25_9l x25_9c, .string x25_10]⟩] w9 [.agg [.int .i64, .str, .str, .slice, .slice, .str], .one (.int .i64)] fun (r26_0_0 : Int) (r26_0_1 : ByteArray) (r26_0_2 : ByteArray) (r26_0_3p : Option Addr) (r26_0_3l : Nat) (r26_0_3c : Nat) (r26_0_4p : Option Addr) (r26_0_4l : Nat) (r26_0_4c : Nat) (r26_0_5 : ByteArray) (r26_1 : Int) (w10 : World) =>
  newB w10 (.cells (zeroC Tryd.prog T_api_Node) T_api_Node) fun b7 w11 =>
  stN w11 ⟨b7, 0, none⟩ ⟨[.int .i64 r26_0_0, .string r26_0_1, .string r26_0_2, .slice r26_0_3p r26_0_3l r26_0_3c, .slice r26_0_4p r26_0_4l r26_0_4c, .string r26_0_5]⟩ 6 fun w12 =>
  condB (r26_1 != (0 : Int)) (
  J_0_1 w12) (
  ldI .i64 w12 ⟨b7, 0, none⟩ fun x31_0 =>
  ldStr w12 ⟨b7, 1, none⟩ fun x31_1 =>
  ldStr w12 ⟨b7, 2, none⟩ fun x31_2 =>
  ldS w12 ⟨b7, 3, none⟩ fun x31_3p x31_3l x31_3c =>
  ldS w12 ⟨b7, 4, none⟩ fun x31_4p x31_4l x31_4c =>
  ldStr w12 ⟨b7, 5, none⟩ fun x31_5 =>
  callJ Tryd.prog fn_tree_Check #[.agg ⟨[.int .i64 x31_0, .string x31_1, .string x31_2, .slice x31_3p x31_3l x31_3c, .slice x31_4p x31_4l x31_4c, .string x31_5]⟩] w12 [.one (.int .i64)] fun (r32 : Int) (w13 : World) =>
  condB (r32 != (0 : Int)) (
  J false w13) (
  ldI .i64 w13 ⟨b7, 0, none⟩ fun x34_0 =>
  ldStr w13 ⟨b7, 1, none⟩ fun x34_1 =>
  ldStr w13 ⟨b7, 2, none⟩ fun x34_2 =>
  ldS w13 ⟨b7, 3, none⟩ fun x34_3p x34_3l x34_3c =>
  ldS w13 ⟨b7, 4, none⟩ fun x34_4p x34_4l x34_4c =>
  ldStr w13 ⟨b7, 5, none⟩ fun x34_5 =>
  stN w13 ⟨b2, 0, none⟩ ⟨[.int .i64 x34_0, .string x34_1, .string x34_2, .slice x34_3p x34_3l x34_3c, .slice x34_4p x34_4l x34_4c, .string x34_5]⟩ 6 fun w14 =>
  J_0_1 w14)))) (
  J_0 w6))))
def ann_law09_EditRight : Ann := .s (.o) (.s (.s (.o) (.c (.s (.o) (.o)) (.o))) (.s (.s (.o) (.c (.s (.o) (.o)) (.o))) (.j [] (.s (.o) (.b (.l [(16, .int .i64)] (.s (.o) (.s (.c (.o) (.o)) (.j [] (.b (.s (.o) (.s (.s (.o) (.c (.o) (.o))) (.s (.o) (.s (.s (.o) (.c (.o) (.o))) (.s (.s (.o) (.c (.s (.o) (.o)) (.o))) (.o))))))) (.o))))))) (.s (.o) (.o)))))
theorem eq_law09_EditRight (d0_0 : Int) (d0_1 : ByteArray) (d0_2 : ByteArray) (d0_3p : Option Addr) (d0_3l : Nat) (d0_3c : Nat) (d0_4p : Option Addr) (d0_4l : Nat) (d0_4c : Nat) (d0_5 : ByteArray) (l1p : Option Addr) (l1l : Nat) (l1c : Nat) (w : World) (J : Bool → World → Prop) : vcFun Tryd.prog Tryd.f4 ann_law09_EditRight [.one .bool] [.agg ⟨[.int .i64 d0_0, .string d0_1, .string d0_2, .slice d0_3p d0_3l d0_3c, .slice d0_4p d0_4l d0_4c, .string d0_5]⟩, .slice l1p l1l l1c] w J = VC_law09_EditRight d0_0 d0_1 d0_2 d0_3p d0_3l d0_3c d0_4p d0_4l d0_4c d0_5 l1p l1l l1c w J := by kernel_rfl
theorem c_law09_EditRight {d0_0 : Int} {d0_1 : ByteArray} {d0_2 : ByteArray} {d0_3p : Option Addr} {d0_3l : Nat} {d0_3c : Nat} {d0_4p : Option Addr} {d0_4l : Nat} {d0_4c : Nat} {d0_5 : ByteArray} {l1p : Option Addr} {l1l : Nat} {l1c : Nat} {w : World} {J : Bool → World → Prop} (h : VC_law09_EditRight d0_0 d0_1 d0_2 d0_3p d0_3l d0_3c d0_4p d0_4l d0_4c d0_5 l1p l1l l1c w J) : callJ Tryd.prog fn_law09_EditRight #[.agg ⟨[.int .i64 d0_0, .string d0_1, .string d0_2, .slice d0_3p d0_3l d0_3c, .slice d0_4p d0_4l d0_4c, .string d0_5]⟩, .slice l1p l1l l1c] w [.one .bool] J := vc_calls Tryd.func4 ann_law09_EditRight (Eq.mpr (eq_law09_EditRight d0_0 d0_1 d0_2 d0_3p d0_3l d0_3c d0_4p d0_4l d0_4c d0_5 l1p l1l l1c w J) h)

/-- lectern/lecternlaw09.EditApart -/
def VC_law09_EditApart (d0_0 : Int) (d0_1 : ByteArray) (d0_2 : ByteArray) (d0_3p : Option Addr) (d0_3l : Nat) (d0_3c : Nat) (d0_4p : Option Addr) (d0_4l : Nat) (d0_4c : Nat) (d0_5 : ByteArray) (a1_0 : Int) (a1_1p : Option Addr) (a1_1l : Nat) (a1_1c : Nat) (a1_2 : ByteArray) (a1_3 : ByteArray) (a1_4 : ByteArray) (a1_5 : Int) (a1_6 : ByteArray) (a1_7 : ByteArray) (a1_8p : Option Addr) (a1_8l : Nat) (a1_8c : Nat) (a1_9p : Option Addr) (a1_9l : Nat) (a1_9c : Nat) (a1_10 : ByteArray) (b2_0 : Int) (b2_1p : Option Addr) (b2_1l : Nat) (b2_1c : Nat) (b2_2 : ByteArray) (b2_3 : ByteArray) (b2_4 : ByteArray) (b2_5 : Int) (b2_6 : ByteArray) (b2_7 : ByteArray) (b2_8p : Option Addr) (b2_8l : Nat) (b2_8c : Nat) (b2_9p : Option Addr) (b2_9l : Nat) (b2_9c : Nat) (b2_10 : ByteArray) (w : World) (J : Bool → World → Prop) : Prop :=
  newB w (.cells ⟨[.int .i64 d0_0, .string d0_1, .string d0_2, .slice d0_3p d0_3l d0_3c, .slice d0_4p d0_4l d0_4c, .string d0_5]⟩ T_api_Node) fun b3 w1 =>
  newB w1 (.cells ⟨[.int .i64 a1_0, .slice a1_1p a1_1l a1_1c, .string a1_2, .string a1_3, .string a1_4, .int .i64 a1_5, .string a1_6, .string a1_7, .slice a1_8p a1_8l a1_8c, .slice a1_9p a1_9l a1_9c, .string a1_10]⟩ T_edit_Edit) fun b4 w2 =>
  newB w2 (.cells ⟨[.int .i64 b2_0, .slice b2_1p b2_1l b2_1c, .string b2_2, .string b2_3, .string b2_4, .int .i64 b2_5, .string b2_6, .string b2_7, .slice b2_8p b2_8l b2_8c, .slice b2_9p b2_9l b2_9c, .string b2_10]⟩ T_edit_Edit) fun b5 w3 =>
  callJ Tryd.prog fn_law09_awake #[] w3 [.one .bool] fun (r15 : Bool) (w4 : World) =>
  condB (!r15) (
  J false w4) (
  withJ (fun (sets7 : Bool) (w5 : World) =>
  withJ (fun (writes8 : Bool) (w6 : World) =>
  withJ (fun (x63 : Bool) (w7 : World) =>
  condB x63 (
  J true w7) (
  ldI .i64 w7 ⟨b3, 0, none⟩ fun x65_0 =>
  ldStr w7 ⟨b3, 1, none⟩ fun x65_1 =>
  ldStr w7 ⟨b3, 2, none⟩ fun x65_2 =>
  ldS w7 ⟨b3, 3, none⟩ fun x65_3p x65_3l x65_3c =>
  ldS w7 ⟨b3, 4, none⟩ fun x65_4p x65_4l x65_4c =>
  ldStr w7 ⟨b3, 5, none⟩ fun x65_5 =>
  ldI .i64 w7 ⟨b4, 0, none⟩ fun x66_0 =>
  ldS w7 ⟨b4, 1, none⟩ fun x66_1p x66_1l x66_1c =>
  ldStr w7 ⟨b4, 2, none⟩ fun x66_2 =>
  ldStr w7 ⟨b4, 3, none⟩ fun x66_3 =>
  ldStr w7 ⟨b4, 4, none⟩ fun x66_4 =>
  ldI .i64 w7 ⟨b4, 5, none⟩ fun x66_5 =>
  ldStr w7 ⟨b4, 6, none⟩ fun x66_6 =>
  ldStr w7 ⟨b4, 7, none⟩ fun x66_7 =>
  ldS w7 ⟨b4, 8, none⟩ fun x66_8p x66_8l x66_8c =>
  ldS w7 ⟨b4, 9, none⟩ fun x66_9p x66_9l x66_9c =>
  ldStr w7 ⟨b4, 10, none⟩ fun x66_10 =>
  callJ Tryd.prog fn_edit_Apply #[.agg ⟨[.int .i64 x65_0, .string x65_1, .string x65_2, .slice x65_3p x65_3l x65_3c, .slice x65_4p x65_4l x65_4c, .string x65_5]⟩, .agg ⟨[.int .i64 x66_0, .slice x66_1p x66_1l x66_1c, .string x66_2, .string x66_3, .string x66_4, .int .i64 x66_5, .string x66_6, .string x66_7, .slice x66_8p x66_8l x66_8c, .slice x66_9p x66_9l x66_9c, .string x66_10]⟩] w7 [.agg [.int .i64, .str, .str, .slice, .slice, .str], .one (.int .i64)] fun (r67_0_0 : Int) (r67_0_1 : ByteArray) (r67_0_2 : ByteArray) (r67_0_3p : Option Addr) (r67_0_3l : Nat) (r67_0_3c : Nat) (r67_0_4p : Option Addr) (r67_0_4l : Nat) (r67_0_4c : Nat) (r67_0_5 : ByteArray) (r67_1 : Int) (w8 : World) =>
  newB w8 (.cells (zeroC Tryd.prog T_api_Node) T_api_Node) fun b9 w9 =>
  stN w9 ⟨b9, 0, none⟩ ⟨[.int .i64 r67_0_0, .string r67_0_1, .string r67_0_2, .slice r67_0_3p r67_0_3l r67_0_3c, .slice r67_0_4p r67_0_4l r67_0_4c, .string r67_0_5]⟩ 6 fun w10 =>
  ldI .i64 w10 ⟨b9, 0, none⟩ fun x71_0 =>
  ldStr w10 ⟨b9, 1, none⟩ fun x71_1 =>
  ldStr w10 ⟨b9, 2, none⟩ fun x71_2 =>
  ldS w10 ⟨b9, 3, none⟩ fun x71_3p x71_3l x71_3c =>
  ldS w10 ⟨b9, 4, none⟩ fun x71_4p x71_4l x71_4c =>
  ldStr w10 ⟨b9, 5, none⟩ fun x71_5 =>
  ldI .i64 w10 ⟨b5, 0, none⟩ fun x72_0 =>
  ldS w10 ⟨b5, 1, none⟩ fun x72_1p x72_1l x72_1c =>
  ldStr w10 ⟨b5, 2, none⟩ fun x72_2 =>
  ldStr w10 ⟨b5, 3, none⟩ fun x72_3 =>
  ldStr w10 ⟨b5, 4, none⟩ fun x72_4 =>
  ldI .i64 w10 ⟨b5, 5, none⟩ fun x72_5 =>
  ldStr w10 ⟨b5, 6, none⟩ fun x72_6 =>
  ldStr w10 ⟨b5, 7, none⟩ fun x72_7 =>
  ldS w10 ⟨b5, 8, none⟩ fun x72_8p x72_8l x72_8c =>
  ldS w10 ⟨b5, 9, none⟩ fun x72_9p x72_9l x72_9c =>
  ldStr w10 ⟨b5, 10, none⟩ fun x72_10 =>
  callJ Tryd.prog fn_edit_Apply #[.agg ⟨[.int .i64 x71_0, .string x71_1, .string x71_2, .slice x71_3p x71_3l x71_3c, .slice x71_4p x71_4l x71_4c, .string x71_5]⟩, .agg ⟨[.int .i64 x72_0, .slice x72_1p x72_1l x72_1c, .string x72_2, .string x72_3, .string x72_4, .int .i64 x72_5, .string x72_6, .string x72_7, .slice x72_8p x72_8l x72_8c, .slice x72_9p x72_9l x72_9c, .string x72_10]⟩] w10 [.agg [.int .i64, .str, .str, .slice, .slice, .str], .one (.int .i64)] fun (r73_0_0 : Int) (r73_0_1 : ByteArray) (r73_0_2 : ByteArray) (r73_0_3p : Option Addr) (r73_0_3l : Nat) (r73_0_3c : Nat) (r73_0_4p : Option Addr) (r73_0_4l : Nat) (r73_0_4c : Nat) (r73_0_5 : ByteArray) (r73_1 : Int) (w11 : World) =>
  stN w11 ⟨b9, 0, none⟩ ⟨[.int .i64 r73_0_0, .string r73_0_1, .string r73_0_2, .slice r73_0_3p r73_0_3l r73_0_3c, .slice r73_0_4p r73_0_4l r73_0_4c, .string r73_0_5]⟩ 6 fun w12 =>
  ldI .i64 w12 ⟨b3, 0, none⟩ fun x77_0 =>
  ldStr w12 ⟨b3, 1, none⟩ fun x77_1 =>
  ldStr w12 ⟨b3, 2, none⟩ fun x77_2 =>
  ldS w12 ⟨b3, 3, none⟩ fun x77_3p x77_3l x77_3c =>
  ldS w12 ⟨b3, 4, none⟩ fun x77_4p x77_4l x77_4c =>
  ldStr w12 ⟨b3, 5, none⟩ fun x77_5 =>
  ldI .i64 w12 ⟨b5, 0, none⟩ fun x78_0 =>
  ldS w12 ⟨b5, 1, none⟩ fun x78_1p x78_1l x78_1c =>
  ldStr w12 ⟨b5, 2, none⟩ fun x78_2 =>
  ldStr w12 ⟨b5, 3, none⟩ fun x78_3 =>
  ldStr w12 ⟨b5, 4, none⟩ fun x78_4 =>
  ldI .i64 w12 ⟨b5, 5, none⟩ fun x78_5 =>
  ldStr w12 ⟨b5, 6, none⟩ fun x78_6 =>
  ldStr w12 ⟨b5, 7, none⟩ fun x78_7 =>
  ldS w12 ⟨b5, 8, none⟩ fun x78_8p x78_8l x78_8c =>
  ldS w12 ⟨b5, 9, none⟩ fun x78_9p x78_9l x78_9c =>
  ldStr w12 ⟨b5, 10, none⟩ fun x78_10 =>
  callJ Tryd.prog fn_edit_Apply #[.agg ⟨[.int .i64 x77_0, .string x77_1, .string x77_2, .slice x77_3p x77_3l x77_3c, .slice x77_4p x77_4l x77_4c, .string x77_5]⟩, .agg ⟨[.int .i64 x78_0, .slice x78_1p x78_1l x78_1c, .string x78_2, .string x78_3, .string x78_4, .int .i64 x78_5, .string x78_6, .string x78_7, .slice x78_8p x78_8l x78_8c, .slice x78_9p x78_9l x78_9c, .string x78_10]⟩] w12 [.agg [.int .i64, .str, .str, .slice, .slice, .str], .one (.int .i64)] fun (r79_0_0 : Int) (r79_0_1 : ByteArray) (r79_0_2 : ByteArray) (r79_0_3p : Option Addr) (r79_0_3l : Nat) (r79_0_3c : Nat) (r79_0_4p : Option Addr) (r79_0_4l : Nat) (r79_0_4c : Nat) (r79_0_5 : ByteArray) (r79_1 : Int) (w13 : World) =>
  newB w13 (.cells (zeroC Tryd.prog T_api_Node) T_api_Node) fun b12 w14 =>
  stN w14 ⟨b12, 0, none⟩ ⟨[.int .i64 r79_0_0, .string r79_0_1, .string r79_0_2, .slice r79_0_3p r79_0_3l r79_0_3c, .slice r79_0_4p r79_0_4l r79_0_4c, .string r79_0_5]⟩ 6 fun w15 =>
  ldI .i64 w15 ⟨b12, 0, none⟩ fun x83_0 =>
  ldStr w15 ⟨b12, 1, none⟩ fun x83_1 =>
  ldStr w15 ⟨b12, 2, none⟩ fun x83_2 =>
  ldS w15 ⟨b12, 3, none⟩ fun x83_3p x83_3l x83_3c =>
  ldS w15 ⟨b12, 4, none⟩ fun x83_4p x83_4l x83_4c =>
  ldStr w15 ⟨b12, 5, none⟩ fun x83_5 =>
  ldI .i64 w15 ⟨b4, 0, none⟩ fun x84_0 =>
  ldS w15 ⟨b4, 1, none⟩ fun x84_1p x84_1l x84_1c =>
  ldStr w15 ⟨b4, 2, none⟩ fun x84_2 =>
  ldStr w15 ⟨b4, 3, none⟩ fun x84_3 =>
  ldStr w15 ⟨b4, 4, none⟩ fun x84_4 =>
  ldI .i64 w15 ⟨b4, 5, none⟩ fun x84_5 =>
  ldStr w15 ⟨b4, 6, none⟩ fun x84_6 =>
  ldStr w15 ⟨b4, 7, none⟩ fun x84_7 =>
  ldS w15 ⟨b4, 8, none⟩ fun x84_8p x84_8l x84_8c =>
  ldS w15 ⟨b4, 9, none⟩ fun x84_9p x84_9l x84_9c =>
  ldStr w15 ⟨b4, 10, none⟩ fun x84_10 =>
  callJ Tryd.prog fn_edit_Apply #[.agg ⟨[.int .i64 x83_0, .string x83_1, .string x83_2, .slice x83_3p x83_3l x83_3c, .slice x83_4p x83_4l x83_4c, .string x83_5]⟩, .agg ⟨[.int .i64 x84_0, .slice x84_1p x84_1l x84_1c, .string x84_2, .string x84_3, .string x84_4, .int .i64 x84_5, .string x84_6, .string x84_7, .slice x84_8p x84_8l x84_8c, .slice x84_9p x84_9l x84_9c, .string x84_10]⟩] w15 [.agg [.int .i64, .str, .str, .slice, .slice, .str], .one (.int .i64)] fun (r85_0_0 : Int) (r85_0_1 : ByteArray) (r85_0_2 : ByteArray) (r85_0_3p : Option Addr) (r85_0_3l : Nat) (r85_0_3c : Nat) (r85_0_4p : Option Addr) (r85_0_4l : Nat) (r85_0_4c : Nat) (r85_0_5 : ByteArray) (r85_1 : Int) (w16 : World) =>
  stN w16 ⟨b12, 0, none⟩ ⟨[.int .i64 r85_0_0, .string r85_0_1, .string r85_0_2, .slice r85_0_3p r85_0_3l r85_0_3c, .slice r85_0_4p r85_0_4l r85_0_4c, .string r85_0_5]⟩ 6 fun w17 =>
  withJ (fun (x6 : Bool) (w18 : World) =>
  J x6 w18) fun J_6 =>
  condB (r67_1 != (0 : Int)) (
  J_6 true w17) (
  condB (r73_1 != (0 : Int)) (
  J_6 true w17) (
  condB (r79_1 != (0 : Int)) (
  J_6 true w17) (
  condB (r85_1 != (0 : Int)) (
  J_6 true w17) (
  ldI .i64 w17 ⟨b9, 0, none⟩ fun x103_0 =>
  ldStr w17 ⟨b9, 1, none⟩ fun x103_1 =>
  ldStr w17 ⟨b9, 2, none⟩ fun x103_2 =>
  ldS w17 ⟨b9, 3, none⟩ fun x103_3p x103_3l x103_3c =>
  ldS w17 ⟨b9, 4, none⟩ fun x103_4p x103_4l x103_4c =>
  ldStr w17 ⟨b9, 5, none⟩ fun x103_5 =>
  ldI .i64 w17 ⟨b12, 0, none⟩ fun x104_0 =>
  ldStr w17 ⟨b12, 1, none⟩ fun x104_1 =>
  ldStr w17 ⟨b12, 2, none⟩ fun x104_2 =>
  ldS w17 ⟨b12, 3, none⟩ fun x104_3p x104_3l x104_3c =>
  ldS w17 ⟨b12, 4, none⟩ fun x104_4p x104_4l x104_4c =>
  ldStr w17 ⟨b12, 5, none⟩ fun x104_5 =>
  callJ Tryd.prog fn_ref05_Same #[.agg ⟨[.int .i64 x103_0, .string x103_1, .string x103_2, .slice x103_3p x103_3l x103_3c, .slice x103_4p x103_4l x103_4c, .string x103_5]⟩, .agg ⟨[.int .i64 x104_0, .string x104_1, .string x104_2, .slice x104_3p x104_3l x104_3c, .slice x104_4p x104_4l x104_4c, .string x104_5]⟩] w17 [.one .bool] fun (r105 : Bool) (w19 : World) =>
  J_6 r105 w19)))))) fun J_63 =>
  condB (!sets7) (
  J_63 (!writes8) w6) (
  J_63 false w6)) fun J_8 =>
  ldI .i64 w5 ⟨b4, 0, none⟩ fun x43 =>
  condB (x43 == (6 : Int)) (
  ldI .i64 w5 ⟨b5, 0, none⟩ fun x47 =>
  condB (x47 == (6 : Int)) (
  ldS w5 ⟨b4, 1, none⟩ fun x52p x52l x52c =>
  ldS w5 ⟨b5, 1, none⟩ fun x54p x54l x54c =>
  callJ Tryd.prog fn_ref05_SameInts #[.slice x52p x52l x52c, .slice x54p x54l x54c] w5 [.one .bool] fun (r55 : Bool) (w20 : World) =>
  J_8 (!r55) w20) (
  J_8 false w5)) (
  J_8 false w5)) fun J_7 =>
  ldI .i64 w4 ⟨b4, 0, none⟩ fun x18 =>
  condB (decide (x18 ≥ (4 : Int))) (
  ldI .i64 w4 ⟨b4, 0, none⟩ fun x22 =>
  condB (decide (x22 ≤ (5 : Int))) (
  ldI .i64 w4 ⟨b5, 0, none⟩ fun x27 =>
  condB (decide (x27 ≥ (4 : Int))) (
  ldI .i64 w4 ⟨b5, 0, none⟩ fun x32 =>
  condB (decide (x32 ≤ (5 : Int))) (
  ldStr w4 ⟨b4, 2, none⟩ fun x37_0 =>
  ldStr w4 ⟨b4, 3, none⟩ fun x37_1 =>
  ldStr w4 ⟨b5, 2, none⟩ fun x39_0 =>
  ldStr w4 ⟨b5, 3, none⟩ fun x39_1 =>
  J_7 (!((x37_0.toList == x39_0.toList) && ((x37_1.toList == x39_1.toList) && true))) w4) (
  J_7 false w4)) (
  J_7 false w4)) (
  J_7 false w4)) (
  J_7 false w4))
def ann_law09_EditApart : Ann := .s (.o) (.s (.s (.o) (.c (.s (.o) (.o)) (.o))) (.j [(7, .bool)] (.o) (.j [(8, .bool)] (.o) (.s (.j [(63, .bool)] (.o) (.c (.s (.o) (.o)) (.o))) (.s (.o) (.s (.o) (.s (.o) (.s (.o) (.j [(6, .bool)] (.o) (.o))))))))))
theorem eq_law09_EditApart (d0_0 : Int) (d0_1 : ByteArray) (d0_2 : ByteArray) (d0_3p : Option Addr) (d0_3l : Nat) (d0_3c : Nat) (d0_4p : Option Addr) (d0_4l : Nat) (d0_4c : Nat) (d0_5 : ByteArray) (a1_0 : Int) (a1_1p : Option Addr) (a1_1l : Nat) (a1_1c : Nat) (a1_2 : ByteArray) (a1_3 : ByteArray) (a1_4 : ByteArray) (a1_5 : Int) (a1_6 : ByteArray) (a1_7 : ByteArray) (a1_8p : Option Addr) (a1_8l : Nat) (a1_8c : Nat) (a1_9p : Option Addr) (a1_9l : Nat) (a1_9c : Nat) (a1_10 : ByteArray) (b2_0 : Int) (b2_1p : Option Addr) (b2_1l : Nat) (b2_1c : Nat) (b2_2 : ByteArray) (b2_3 : ByteArray) (b2_4 : ByteArray) (b2_5 : Int) (b2_6 : ByteArray) (b2_7 : ByteArray) (b2_8p : Option Addr) (b2_8l : Nat) (b2_8c : Nat) (b2_9p : Option Addr) (b2_9l : Nat) (b2_9c : Nat) (b2_10 : ByteArray) (w : World) (J : Bool → World → Prop) : vcFun Tryd.prog Tryd.f5 ann_law09_EditApart [.one .bool] [.agg ⟨[.int .i64 d0_0, .string d0_1, .string d0_2, .slice d0_3p d0_3l d0_3c, .slice d0_4p d0_4l d0_4c, .string d0_5]⟩, .agg ⟨[.int .i64 a1_0, .slice a1_1p a1_1l a1_1c, .string a1_2, .string a1_3, .string a1_4, .int .i64 a1_5, .string a1_6, .string a1_7, .slice a1_8p a1_8l a1_8c, .slice a1_9p a1_9l a1_9c, .string a1_10]⟩, .agg ⟨[.int .i64 b2_0, .slice b2_1p b2_1l b2_1c, .string b2_2, .string b2_3, .string b2_4, .int .i64 b2_5, .string b2_6, .string b2_7, .slice b2_8p b2_8l b2_8c, .slice b2_9p b2_9l b2_9c, .string b2_10]⟩] w J = VC_law09_EditApart d0_0 d0_1 d0_2 d0_3p d0_3l d0_3c d0_4p d0_4l d0_4c d0_5 a1_0 a1_1p a1_1l a1_1c a1_2 a1_3 a1_4 a1_5 a1_6 a1_7 a1_8p a1_8l a1_8c a1_9p a1_9l a1_9c a1_10 b2_0 b2_1p b2_1l b2_1c b2_2 b2_3 b2_4 b2_5 b2_6 b2_7 b2_8p b2_8l b2_8c b2_9p b2_9l b2_9c b2_10 w J := by kernel_rfl
theorem c_law09_EditApart {d0_0 : Int} {d0_1 : ByteArray} {d0_2 : ByteArray} {d0_3p : Option Addr} {d0_3l : Nat} {d0_3c : Nat} {d0_4p : Option Addr} {d0_4l : Nat} {d0_4c : Nat} {d0_5 : ByteArray} {a1_0 : Int} {a1_1p : Option Addr} {a1_1l : Nat} {a1_1c : Nat} {a1_2 : ByteArray} {a1_3 : ByteArray} {a1_4 : ByteArray} {a1_5 : Int} {a1_6 : ByteArray} {a1_7 : ByteArray} {a1_8p : Option Addr} {a1_8l : Nat} {a1_8c : Nat} {a1_9p : Option Addr} {a1_9l : Nat} {a1_9c : Nat} {a1_10 : ByteArray} {b2_0 : Int} {b2_1p : Option Addr} {b2_1l : Nat} {b2_1c : Nat} {b2_2 : ByteArray} {b2_3 : ByteArray} {b2_4 : ByteArray} {b2_5 : Int} {b2_6 : ByteArray} {b2_7 : ByteArray} {b2_8p : Option Addr} {b2_8l : Nat} {b2_8c : Nat} {b2_9p : Option Addr} {b2_9l : Nat} {b2_9c : Nat} {b2_10 : ByteArray} {w : World} {J : Bool → World → Prop} (h : VC_law09_EditApart d0_0 d0_1 d0_2 d0_3p d0_3l d0_3c d0_4p d0_4l d0_4c d0_5 a1_0 a1_1p a1_1l a1_1c a1_2 a1_3 a1_4 a1_5 a1_6 a1_7 a1_8p a1_8l a1_8c a1_9p a1_9l a1_9c a1_10 b2_0 b2_1p b2_1l b2_1c b2_2 b2_3 b2_4 b2_5 b2_6 b2_7 b2_8p b2_8l b2_8c b2_9p b2_9l b2_9c b2_10 w J) : callJ Tryd.prog fn_law09_EditApart #[.agg ⟨[.int .i64 d0_0, .string d0_1, .string d0_2, .slice d0_3p d0_3l d0_3c, .slice d0_4p d0_4l d0_4c, .string d0_5]⟩, .agg ⟨[.int .i64 a1_0, .slice a1_1p a1_1l a1_1c, .string a1_2, .string a1_3, .string a1_4, .int .i64 a1_5, .string a1_6, .string a1_7, .slice a1_8p a1_8l a1_8c, .slice a1_9p a1_9l a1_9c, .string a1_10]⟩, .agg ⟨[.int .i64 b2_0, .slice b2_1p b2_1l b2_1c, .string b2_2, .string b2_3, .string b2_4, .int .i64 b2_5, .string b2_6, .string b2_7, .slice b2_8p b2_8l b2_8c, .slice b2_9p b2_9l b2_9c, .string b2_10]⟩] w [.one .bool] J := vc_calls Tryd.func5 ann_law09_EditApart (Eq.mpr (eq_law09_EditApart d0_0 d0_1 d0_2 d0_3p d0_3l d0_3c d0_4p d0_4l d0_4c d0_5 a1_0 a1_1p a1_1l a1_1c a1_2 a1_3 a1_4 a1_5 a1_6 a1_7 a1_8p a1_8l a1_8c a1_9p a1_9l a1_9c a1_10 b2_0 b2_1p b2_1l b2_1c b2_2 b2_3 b2_4 b2_5 b2_6 b2_7 b2_8p b2_8l b2_8c b2_9p b2_9l b2_9c b2_10 w J) h)

/-- lectern/lecternlaw09.EditPlaces -/
def VC_law09_EditPlaces (d0_0 : Int) (d0_1 : ByteArray) (d0_2 : ByteArray) (d0_3p : Option Addr) (d0_3l : Nat) (d0_3c : Nat) (d0_4p : Option Addr) (d0_4l : Nat) (d0_4c : Nat) (d0_5 : ByteArray) (at1p : Option Addr) (at1l : Nat) (at1c : Nat) (node2_0 : Int) (node2_1 : ByteArray) (node2_2 : ByteArray) (node2_3p : Option Addr) (node2_3l : Nat) (node2_3c : Nat) (node2_4p : Option Addr) (node2_4l : Nat) (node2_4c : Nat) (node2_5 : ByteArray) (w : World) (J : Bool → World → Prop) : Prop :=
  newB w (.cells ⟨[.int .i64 d0_0, .string d0_1, .string d0_2, .slice d0_3p d0_3l d0_3c, .slice d0_4p d0_4l d0_4c, .string d0_5]⟩ T_api_Node) fun b3 w1 =>
  newB w1 (.cells ⟨[.int .i64 node2_0, .string node2_1, .string node2_2, .slice node2_3p node2_3l node2_3c, .slice node2_4p node2_4l node2_4c, .string node2_5]⟩ T_api_Node) fun b5 w2 =>
  callJ Tryd.prog fn_law09_awake #[] w2 [.one .bool] fun (r20 : Bool) (w3 : World) =>
  condB (!r20) (
  J false w3) (
  ldI .i64 w3 ⟨b3, 0, none⟩ fun x23_0 =>
  ldStr w3 ⟨b3, 1, none⟩ fun x23_1 =>
  ldStr w3 ⟨b3, 2, none⟩ fun x23_2 =>
  ldS w3 ⟨b3, 3, none⟩ fun x23_3p x23_3l x23_3c =>
  ldS w3 ⟨b3, 4, none⟩ fun x23_4p x23_4l x23_4c =>
  ldStr w3 ⟨b3, 5, none⟩ fun x23_5 =>
  ldI .i64 w3 ⟨b5, 0, none⟩ fun x25_0 =>
  ldStr w3 ⟨b5, 1, none⟩ fun x25_1 =>
  ldStr w3 ⟨b5, 2, none⟩ fun x25_2 =>
  ldS w3 ⟨b5, 3, none⟩ fun x25_3p x25_3l x25_3c =>
  ldS w3 ⟨b5, 4, none⟩ fun x25_4p x25_4l x25_4c =>
  ldStr w3 ⟨b5, 5, none⟩ fun x25_5 =>
  Array.size (⟨[.int .i64 x25_0, .string x25_1, .string x25_2, .slice x25_3p x25_3l x25_3c, .slice x25_4p x25_4l x25_4c, .string x25_5]⟩ : Array Value) = 6 ∧
  callJ Tryd.prog fn_edit_Apply #[.agg ⟨[.int .i64 x23_0, .string x23_1, .string x23_2, .slice x23_3p x23_3l x23_3c, .slice x23_4p x23_4l x23_4c, .string x23_5]⟩, .agg ⟨[.int .i64 (1 : Int), .slice at1p at1l at1c, .string ByteArray.empty, .string ByteArray.empty, .string ByteArray.empty, .int .i64 x25_0, .string x25_1, .string x25_2, .slice x25_3p x25_3l x25_3c, .slice x25_4p x25_4l x25_4c, .string x25_5]⟩] w3 [.agg [.int .i64, .str, .str, .slice, .slice, .str], .one (.int .i64)] fun (r27_0_0 : Int) (r27_0_1 : ByteArray) (r27_0_2 : ByteArray) (r27_0_3p : Option Addr) (r27_0_3l : Nat) (r27_0_3c : Nat) (r27_0_4p : Option Addr) (r27_0_4l : Nat) (r27_0_4c : Nat) (r27_0_5 : ByteArray) (r27_1 : Int) (w4 : World) =>
  newB w4 (.cells (zeroC Tryd.prog T_api_Node) T_api_Node) fun b7 w5 =>
  stN w5 ⟨b7, 0, none⟩ ⟨[.int .i64 r27_0_0, .string r27_0_1, .string r27_0_2, .slice r27_0_3p r27_0_3l r27_0_3c, .slice r27_0_4p r27_0_4l r27_0_4c, .string r27_0_5]⟩ 6 fun w6 =>
  condB (r27_1 != (0 : Int)) (
  J true w6) (
  ldI .i64 w6 ⟨b7, 0, none⟩ fun x33_0 =>
  ldStr w6 ⟨b7, 1, none⟩ fun x33_1 =>
  ldStr w6 ⟨b7, 2, none⟩ fun x33_2 =>
  ldS w6 ⟨b7, 3, none⟩ fun x33_3p x33_3l x33_3c =>
  ldS w6 ⟨b7, 4, none⟩ fun x33_4p x33_4l x33_4c =>
  ldStr w6 ⟨b7, 5, none⟩ fun x33_5 =>
  callJ Tryd.prog fn_tree_At #[.agg ⟨[.int .i64 x33_0, .string x33_1, .string x33_2, .slice x33_3p x33_3l x33_3c, .slice x33_4p x33_4l x33_4c, .string x33_5]⟩, .slice at1p at1l at1c] w6 [.agg [.int .i64, .str, .str, .slice, .slice, .str], .one (.int .i64)] fun (r35_0_0 : Int) (r35_0_1 : ByteArray) (r35_0_2 : ByteArray) (r35_0_3p : Option Addr) (r35_0_3l : Nat) (r35_0_3c : Nat) (r35_0_4p : Option Addr) (r35_0_4l : Nat) (r35_0_4c : Nat) (r35_0_5 : ByteArray) (r35_1 : Int) (w7 : World) =>
  newB w7 (.cells (zeroC Tryd.prog T_api_Node) T_api_Node) fun b9 w8 =>
  stN w8 ⟨b9, 0, none⟩ ⟨[.int .i64 r35_0_0, .string r35_0_1, .string r35_0_2, .slice r35_0_3p r35_0_3l r35_0_3c, .slice r35_0_4p r35_0_4l r35_0_4c, .string r35_0_5]⟩ 6 fun w9 =>
  withJ (fun (x55 : Bool) (w10 : World) =>
  condB x55 (
  J false w10) (
  withJ (fun (up11 : Option Addr) (w11 : World) =>
  withJ (fun (now13 : Option Addr) (w12 : World) =>
  idxA at1p at1l (w64 (((at1l : Nat) : Int) - (1 : Int))) fun a80 =>
  ldI .i64 w12 ((a80.add ((w64 (((at1l : Nat) : Int) - (1 : Int))).toNat * 1))) fun x81 =>
  withJ (fun (x100 : Bool) (w13 : World) =>
  condB x100 (
  J false w13) (
  nonNil up11 fun a101 =>
  ldS w13 ((a101.add 4)) fun x102p x102l x102c =>
  ∃ I_104 : Int → World → Nat → Prop, (∃ m : Nat, I_104 (0 : Int) w13 m) ∧ ∀ (x104 : Int) (w14 : World) (m : Nat), I_104 x104 w14 m → (
  condB (decide (x104 < ((x102l : Nat) : Int))) (
  withJ (fun (j17 : Int) (w15 : World) =>
  nonNil up11 fun a113 =>
  ldS w15.drew ((a113.add 4)) fun x114p x114l x114c =>
  idxA x114p x114l x104 fun a116 =>
  ldI .i64 w15.drew ((a116.add (x104.toNat * 6))) fun x117_0 =>
  ldStr w15.drew (((a116.add (x104.toNat * 6)).add 1)) fun x117_1 =>
  ldStr w15.drew (((a116.add (x104.toNat * 6)).add 2)) fun x117_2 =>
  ldS w15.drew (((a116.add (x104.toNat * 6)).add 3)) fun x117_3p x117_3l x117_3c =>
  ldS w15.drew (((a116.add (x104.toNat * 6)).add 4)) fun x117_4p x117_4l x117_4c =>
  ldStr w15.drew (((a116.add (x104.toNat * 6)).add 5)) fun x117_5 =>
  nonNil now13 fun a118 =>
  ldS w15.drew ((a118.add 4)) fun x119p x119l x119c =>
  idxA x119p x119l j17 fun a121 =>
  ldI .i64 w15.drew ((a121.add (j17.toNat * 6))) fun x122_0 =>
  ldStr w15.drew (((a121.add (j17.toNat * 6)).add 1)) fun x122_1 =>
  ldStr w15.drew (((a121.add (j17.toNat * 6)).add 2)) fun x122_2 =>
  ldS w15.drew (((a121.add (j17.toNat * 6)).add 3)) fun x122_3p x122_3l x122_3c =>
  ldS w15.drew (((a121.add (j17.toNat * 6)).add 4)) fun x122_4p x122_4l x122_4c =>
  ldStr w15.drew (((a121.add (j17.toNat * 6)).add 5)) fun x122_5 =>
  callJ Tryd.prog fn_ref05_Same #[.agg ⟨[.int .i64 x117_0, .string x117_1, .string x117_2, .slice x117_3p x117_3l x117_3c, .slice x117_4p x117_4l x117_4c, .string x117_5]⟩, .agg ⟨[.int .i64 x122_0, .string x122_1, .string x122_2, .slice x122_3p x122_3l x122_3c, .slice x122_4p x122_4l x122_4c, .string x122_5]⟩] w15.drew [.one .bool] fun (r123 : Bool) (w16 : World) =>
  condB (!r123) (
  J false w16) (
  ∃ m' : Nat, m' < m ∧ I_104 (w64 (x104 + (1 : Int))) w16 m')) fun J_17 =>
  condB (decide (x104 ≥ x81)) (
  J_17 (w64 (x104 + (1 : Int))) w14) (
  J_17 x104 w14)) (
  ldI .i64 w14 ⟨b7, 0, none⟩ fun x127_0 =>
  ldStr w14 ⟨b7, 1, none⟩ fun x127_1 =>
  ldStr w14 ⟨b7, 2, none⟩ fun x127_2 =>
  ldS w14 ⟨b7, 3, none⟩ fun x127_3p x127_3l x127_3c =>
  ldS w14 ⟨b7, 4, none⟩ fun x127_4p x127_4l x127_4c =>
  ldStr w14 ⟨b7, 5, none⟩ fun x127_5 =>
  callJ Tryd.prog fn_edit_Apply #[.agg ⟨[.int .i64 x127_0, .string x127_1, .string x127_2, .slice x127_3p x127_3l x127_3c, .slice x127_4p x127_4l x127_4c, .string x127_5]⟩, .agg ⟨[.int .i64 (2 : Int), .slice at1p at1l at1c, .string ByteArray.empty, .string ByteArray.empty, .string ByteArray.empty, .int .i64 (0 : Int), .string ByteArray.empty, .string ByteArray.empty, .slice none 0 0, .slice none 0 0, .string ByteArray.empty]⟩] w14 [.agg [.int .i64, .str, .str, .slice, .slice, .str], .one (.int .i64)] fun (r130_0_0 : Int) (r130_0_1 : ByteArray) (r130_0_2 : ByteArray) (r130_0_3p : Option Addr) (r130_0_3l : Nat) (r130_0_3c : Nat) (r130_0_4p : Option Addr) (r130_0_4l : Nat) (r130_0_4c : Nat) (r130_0_5 : ByteArray) (r130_1 : Int) (w17 : World) =>
  newB w17 (.cells (zeroC Tryd.prog T_api_Node) T_api_Node) fun b18 w18 =>
  stN w18 ⟨b18, 0, none⟩ ⟨[.int .i64 r130_0_0, .string r130_0_1, .string r130_0_2, .slice r130_0_3p r130_0_3l r130_0_3c, .slice r130_0_4p r130_0_4l r130_0_4c, .string r130_0_5]⟩ 6 fun w19 =>
  withJ (fun (x6 : Bool) (w20 : World) =>
  J x6 w20) fun J_6 =>
  condB (r130_1 == (0 : Int)) (
  ldI .i64 w19 ⟨b18, 0, none⟩ fun x136_0 =>
  ldStr w19 ⟨b18, 1, none⟩ fun x136_1 =>
  ldStr w19 ⟨b18, 2, none⟩ fun x136_2 =>
  ldS w19 ⟨b18, 3, none⟩ fun x136_3p x136_3l x136_3c =>
  ldS w19 ⟨b18, 4, none⟩ fun x136_4p x136_4l x136_4c =>
  ldStr w19 ⟨b18, 5, none⟩ fun x136_5 =>
  ldI .i64 w19 ⟨b3, 0, none⟩ fun x137_0 =>
  ldStr w19 ⟨b3, 1, none⟩ fun x137_1 =>
  ldStr w19 ⟨b3, 2, none⟩ fun x137_2 =>
  ldS w19 ⟨b3, 3, none⟩ fun x137_3p x137_3l x137_3c =>
  ldS w19 ⟨b3, 4, none⟩ fun x137_4p x137_4l x137_4c =>
  ldStr w19 ⟨b3, 5, none⟩ fun x137_5 =>
  callJ Tryd.prog fn_ref05_Same #[.agg ⟨[.int .i64 x136_0, .string x136_1, .string x136_2, .slice x136_3p x136_3l x136_3c, .slice x136_4p x136_4l x136_4c, .string x136_5]⟩, .agg ⟨[.int .i64 x137_0, .string x137_1, .string x137_2, .slice x137_3p x137_3l x137_3c, .slice x137_4p x137_4l x137_4c, .string x137_5]⟩] w19 [.one .bool] fun (r138 : Bool) (w21 : World) =>
  J_6 r138 w21) (
  J_6 false w19))))) fun J_100 =>
  nonNil now13 fun a82 =>
  ldS w12 ((a82.add 4)) fun x83p x83l x83c =>
  nonNil up11 fun a85 =>
  ldS w12 ((a85.add 4)) fun x86p x86l x86c =>
  condB (((x83l : Nat) : Int) != (w64 (((x86l : Nat) : Int) + (1 : Int)))) (
  J_100 true w12) (
  condB (decide (x81 < (0 : Int))) (
  J_100 true w12) (
  nonNil up11 fun a96 =>
  ldS w12 ((a96.add 4)) fun x97p x97l x97c =>
  J_100 (decide (x81 > ((x97l : Nat) : Int))) w12))) fun J_13 =>
  ldI .i64 w11.drew ⟨b7, 0, none⟩ fun x67_0 =>
  ldStr w11.drew ⟨b7, 1, none⟩ fun x67_1 =>
  ldStr w11.drew ⟨b7, 2, none⟩ fun x67_2 =>
  ldS w11.drew ⟨b7, 3, none⟩ fun x67_3p x67_3l x67_3c =>
  ldS w11.drew ⟨b7, 4, none⟩ fun x67_4p x67_4l x67_4c =>
  ldStr w11.drew ⟨b7, 5, none⟩ fun x67_5 =>
  slS at1p at1l at1c 1 none (some (w64 (((at1l : Nat) : Int) - (1 : Int)))) none fun q72p q72l q72c =>
  (
  callJ Tryd.prog fn_tree_At #[.agg ⟨[.int .i64 x67_0, .string x67_1, .string x67_2, .slice x67_3p x67_3l x67_3c, .slice x67_4p x67_4l x67_4c, .string x67_5]⟩, .slice q72p q72l q72c] w11.drew [.agg [.int .i64, .str, .str, .slice, .slice, .str], .one (.int .i64)] fun (r73_0_0 : Int) (r73_0_1 : ByteArray) (r73_0_2 : ByteArray) (r73_0_3p : Option Addr) (r73_0_3l : Nat) (r73_0_3c : Nat) (r73_0_4p : Option Addr) (r73_0_4l : Nat) (r73_0_4c : Nat) (r73_0_5 : ByteArray) (r73_1 : Int) (w22 : World) =>
  newB w22 (.cells (zeroC Tryd.prog T_api_Node) T_api_Node) fun b13 w23 =>
  cellsAt w23 ⟨b7, 0, none⟩ [.int .i64 x67_0, .string x67_1, .string x67_2, .slice x67_3p x67_3l x67_3c, .slice x67_4p x67_4l x67_4c, .string x67_5] ∧
  stN w23 ⟨b13, 0, none⟩ ⟨[.int .i64 r73_0_0, .string r73_0_1, .string r73_0_2, .slice r73_0_3p r73_0_3l r73_0_3c, .slice r73_0_4p r73_0_4l r73_0_4c, .string r73_0_5]⟩ 6 fun w24 =>
  J_13 (some ⟨b13, 0, none⟩) w24) ∧ (
  newB w11.drew (.cells (zeroC Tryd.prog T_api_Node) T_api_Node) fun b13_1 w25 =>
  cellsAt w25 ⟨b7, 0, none⟩ [.int .i64 x67_0, .string x67_1, .string x67_2, .slice x67_3p x67_3l x67_3c, .slice x67_4p x67_4l x67_4c, .string x67_5] ∧
  callJ Tryd.prog fn_tree_At #[.agg ⟨[.int .i64 x67_0, .string x67_1, .string x67_2, .slice x67_3p x67_3l x67_3c, .slice x67_4p x67_4l x67_4c, .string x67_5]⟩, .slice q72p q72l q72c] w25 [.agg [.int .i64, .str, .str, .slice, .slice, .str], .one (.int .i64)] fun (r73_0_1_0 : Int) (r73_0_1_1 : ByteArray) (r73_0_1_2 : ByteArray) (r73_0_1_3p : Option Addr) (r73_0_1_3l : Nat) (r73_0_1_3c : Nat) (r73_0_1_4p : Option Addr) (r73_0_1_4l : Nat) (r73_0_1_4c : Nat) (r73_0_1_5 : ByteArray) (r73_1_1 : Int) (w26 : World) =>
  stN w26 ⟨b13_1, 0, none⟩ ⟨[.int .i64 r73_0_1_0, .string r73_0_1_1, .string r73_0_1_2, .slice r73_0_1_3p r73_0_1_3l r73_0_1_3c, .slice r73_0_1_4p r73_0_1_4l r73_0_1_4c, .string r73_0_1_5]⟩ 6 fun w27 =>
  J_13 (some ⟨b13_1, 0, none⟩) w27)) fun J_11 =>
  ldI .i64 w10.drew ⟨b3, 0, none⟩ fun x57_0 =>
  ldStr w10.drew ⟨b3, 1, none⟩ fun x57_1 =>
  ldStr w10.drew ⟨b3, 2, none⟩ fun x57_2 =>
  ldS w10.drew ⟨b3, 3, none⟩ fun x57_3p x57_3l x57_3c =>
  ldS w10.drew ⟨b3, 4, none⟩ fun x57_4p x57_4l x57_4c =>
  ldStr w10.drew ⟨b3, 5, none⟩ fun x57_5 =>
  slS at1p at1l at1c 1 none (some (w64 (((at1l : Nat) : Int) - (1 : Int)))) none fun q62p q62l q62c =>
  (
  callJ Tryd.prog fn_tree_At #[.agg ⟨[.int .i64 x57_0, .string x57_1, .string x57_2, .slice x57_3p x57_3l x57_3c, .slice x57_4p x57_4l x57_4c, .string x57_5]⟩, .slice q62p q62l q62c] w10.drew [.agg [.int .i64, .str, .str, .slice, .slice, .str], .one (.int .i64)] fun (r63_0_0 : Int) (r63_0_1 : ByteArray) (r63_0_2 : ByteArray) (r63_0_3p : Option Addr) (r63_0_3l : Nat) (r63_0_3c : Nat) (r63_0_4p : Option Addr) (r63_0_4l : Nat) (r63_0_4c : Nat) (r63_0_5 : ByteArray) (r63_1 : Int) (w28 : World) =>
  newB w28 (.cells (zeroC Tryd.prog T_api_Node) T_api_Node) fun b11 w29 =>
  cellsAt w29 ⟨b3, 0, none⟩ [.int .i64 x57_0, .string x57_1, .string x57_2, .slice x57_3p x57_3l x57_3c, .slice x57_4p x57_4l x57_4c, .string x57_5] ∧
  stN w29 ⟨b11, 0, none⟩ ⟨[.int .i64 r63_0_0, .string r63_0_1, .string r63_0_2, .slice r63_0_3p r63_0_3l r63_0_3c, .slice r63_0_4p r63_0_4l r63_0_4c, .string r63_0_5]⟩ 6 fun w30 =>
  J_11 (some ⟨b11, 0, none⟩) w30) ∧ (
  newB w10.drew (.cells (zeroC Tryd.prog T_api_Node) T_api_Node) fun b11_1 w31 =>
  cellsAt w31 ⟨b3, 0, none⟩ [.int .i64 x57_0, .string x57_1, .string x57_2, .slice x57_3p x57_3l x57_3c, .slice x57_4p x57_4l x57_4c, .string x57_5] ∧
  callJ Tryd.prog fn_tree_At #[.agg ⟨[.int .i64 x57_0, .string x57_1, .string x57_2, .slice x57_3p x57_3l x57_3c, .slice x57_4p x57_4l x57_4c, .string x57_5]⟩, .slice q62p q62l q62c] w31 [.agg [.int .i64, .str, .str, .slice, .slice, .str], .one (.int .i64)] fun (r63_0_1_0 : Int) (r63_0_1_1 : ByteArray) (r63_0_1_2 : ByteArray) (r63_0_1_3p : Option Addr) (r63_0_1_3l : Nat) (r63_0_1_3c : Nat) (r63_0_1_4p : Option Addr) (r63_0_1_4l : Nat) (r63_0_1_4c : Nat) (r63_0_1_5 : ByteArray) (r63_1_1 : Int) (w32 : World) =>
  stN w32 ⟨b11_1, 0, none⟩ ⟨[.int .i64 r63_0_1_0, .string r63_0_1_1, .string r63_0_1_2, .slice r63_0_1_3p r63_0_1_3l r63_0_1_3c, .slice r63_0_1_4p r63_0_1_4l r63_0_1_4c, .string r63_0_1_5]⟩ 6 fun w33 =>
  J_11 (some ⟨b11_1, 0, none⟩) w33))) fun J_55 =>
  condB (r35_1 != (0 : Int)) (
  J_55 true w9.drew) (
  ldI .i64 w9.drew ⟨b9, 0, none⟩ fun x41_0 =>
  ldStr w9.drew ⟨b9, 1, none⟩ fun x41_1 =>
  ldStr w9.drew ⟨b9, 2, none⟩ fun x41_2 =>
  ldS w9.drew ⟨b9, 3, none⟩ fun x41_3p x41_3l x41_3c =>
  ldS w9.drew ⟨b9, 4, none⟩ fun x41_4p x41_4l x41_4c =>
  ldStr w9.drew ⟨b9, 5, none⟩ fun x41_5 =>
  ldI .i64 w9.drew ⟨b5, 0, none⟩ fun x42_0 =>
  ldStr w9.drew ⟨b5, 1, none⟩ fun x42_1 =>
  ldStr w9.drew ⟨b5, 2, none⟩ fun x42_2 =>
  ldS w9.drew ⟨b5, 3, none⟩ fun x42_3p x42_3l x42_3c =>
  ldS w9.drew ⟨b5, 4, none⟩ fun x42_4p x42_4l x42_4c =>
  ldStr w9.drew ⟨b5, 5, none⟩ fun x42_5 =>
  callJ Tryd.prog fn_ref05_Same #[.agg ⟨[.int .i64 x41_0, .string x41_1, .string x41_2, .slice x41_3p x41_3l x41_3c, .slice x41_4p x41_4l x41_4c, .string x41_5]⟩, .agg ⟨[.int .i64 x42_0, .string x42_1, .string x42_2, .slice x42_3p x42_3l x42_3c, .slice x42_4p x42_4l x42_4c, .string x42_5]⟩] w9.drew [.one .bool] fun (r43 : Bool) (w34 : World) =>
  condB (!r43) (
  J_55 true w34) (
  ldI .i64 w34 ⟨b7, 0, none⟩ fun x47_0 =>
  ldStr w34 ⟨b7, 1, none⟩ fun x47_1 =>
  ldStr w34 ⟨b7, 2, none⟩ fun x47_2 =>
  ldS w34 ⟨b7, 3, none⟩ fun x47_3p x47_3l x47_3c =>
  ldS w34 ⟨b7, 4, none⟩ fun x47_4p x47_4l x47_4c =>
  ldStr w34 ⟨b7, 5, none⟩ fun x47_5 =>
  ldI .i64 w34 ⟨b3, 0, none⟩ fun x49_0 =>
  ldStr w34 ⟨b3, 1, none⟩ fun x49_1 =>
  ldStr w34 ⟨b3, 2, none⟩ fun x49_2 =>
  ldS w34 ⟨b3, 3, none⟩ fun x49_3p x49_3l x49_3c =>
  ldS w34 ⟨b3, 4, none⟩ fun x49_4p x49_4l x49_4c =>
  ldStr w34 ⟨b3, 5, none⟩ fun x49_5 =>
  ldI .i64 w34 ⟨b5, 0, none⟩ fun x51_0 =>
  ldStr w34 ⟨b5, 1, none⟩ fun x51_1 =>
  ldStr w34 ⟨b5, 2, none⟩ fun x51_2 =>
  ldS w34 ⟨b5, 3, none⟩ fun x51_3p x51_3l x51_3c =>
  ldS w34 ⟨b5, 4, none⟩ fun x51_4p x51_4l x51_4c =>
  ldStr w34 ⟨b5, 5, none⟩ fun x51_5 =>
  callJ Tryd.prog fn_tree_Size #[.agg ⟨[.int .i64 x47_0, .string x47_1, .string x47_2, .slice x47_3p x47_3l x47_3c, .slice x47_4p x47_4l x47_4c, .string x47_5]⟩] w34 [.one (.int .i64)] fun (r48 : Int) (w35 : World) =>
  cellsAt w35 ⟨b5, 0, none⟩ [.int .i64 x51_0, .string x51_1, .string x51_2, .slice x51_3p x51_3l x51_3c, .slice x51_4p x51_4l x51_4c, .string x51_5] ∧
  cellsAt w35 ⟨b3, 0, none⟩ [.int .i64 x49_0, .string x49_1, .string x49_2, .slice x49_3p x49_3l x49_3c, .slice x49_4p x49_4l x49_4c, .string x49_5] ∧
  callJ Tryd.prog fn_tree_Size #[.agg ⟨[.int .i64 x49_0, .string x49_1, .string x49_2, .slice x49_3p x49_3l x49_3c, .slice x49_4p x49_4l x49_4c, .string x49_5]⟩] w35 [.one (.int .i64)] fun (r50 : Int) (w36 : World) =>
  cellsAt w36 ⟨b5, 0, none⟩ [.int .i64 x51_0, .string x51_1, .string x51_2, .slice x51_3p x51_3l x51_3c, .slice x51_4p x51_4l x51_4c, .string x51_5] ∧
  callJ Tryd.prog fn_tree_Size #[.agg ⟨[.int .i64 x51_0, .string x51_1, .string x51_2, .slice x51_3p x51_3l x51_3c, .slice x51_4p x51_4l x51_4c, .string x51_5]⟩] w36 [.one (.int .i64)] fun (r52 : Int) (w37 : World) =>
  J_55 (r48 != (w64 (r50 + r52))) w37))))
def ann_law09_EditPlaces : Ann := .s (.o) (.s (.s (.o) (.c (.s (.o) (.o)) (.o))) (.s (.o) (.s (.s (.o) (.c (.s (.o) (.o)) (.o))) (.s (.o) (.s (.j [(55, .bool)] (.d (.take 0 (.take 1 (.take 2 (.take 3 (.take 4 (.eff 5 (.take 6 (.take 7 (.take 8 (.take 9 (.take 11 (.take 13 (.eff 10 (.eff 12 (.eff 14 (.take 15 (.take 16 (.take 17 (.done)))) (.none)) (.none)) (.none)))))))) (.none)))))))) (.c (.s (.o) (.o)) (.o))) (.j [(11, .ptr)] (.d (.take 0 (.take 1 (.take 2 (.take 3 (.take 4 (.take 5 (.eff 6 (.take 7 (.take 8 (.take 9 (.eff 10 (.eff 11 (.take 12 (.done)) (.none)) (.none))))) (.eff 10 (.eff 6 (.take 7 (.take 8 (.take 9 (.eff 11 (.take 12 (.done)) (.none))))) (.none)) (.none)))))))))) (.j [(13, .ptr)] (.d (.take 0 (.take 1 (.take 2 (.take 3 (.take 4 (.take 5 (.eff 6 (.take 7 (.take 8 (.take 9 (.eff 10 (.eff 11 (.take 12 (.done)) (.none)) (.none))))) (.eff 10 (.eff 6 (.take 7 (.take 8 (.take 9 (.eff 11 (.take 12 (.done)) (.none))))) (.none)) (.none)))))))))) (.s (.o) (.s (.j [(100, .bool)] (.o) (.c (.s (.o) (.o)) (.o))) (.s (.s (.o) (.b (.l [(104, .int .i64)] (.s (.o) (.s (.c (.o) (.o)) (.s (.b (.s (.o) (.s (.o) (.j [(17, .int .i64)] (.s (.o) (.c (.o) (.o))) (.s (.d (.take 0 (.take 1 (.take 2 (.take 3 (.take 4 (.take 5 (.take 6 (.take 7 (.take 8 (.take 9 (.eff 10 (.take 11 (.done)) (.none))))))))))))) (.c (.s (.o) (.o)) (.o))))))) (.o))))))) (.s (.o) (.j [(6, .bool)] (.o) (.o)))))))))))))
theorem eq_law09_EditPlaces (d0_0 : Int) (d0_1 : ByteArray) (d0_2 : ByteArray) (d0_3p : Option Addr) (d0_3l : Nat) (d0_3c : Nat) (d0_4p : Option Addr) (d0_4l : Nat) (d0_4c : Nat) (d0_5 : ByteArray) (at1p : Option Addr) (at1l : Nat) (at1c : Nat) (node2_0 : Int) (node2_1 : ByteArray) (node2_2 : ByteArray) (node2_3p : Option Addr) (node2_3l : Nat) (node2_3c : Nat) (node2_4p : Option Addr) (node2_4l : Nat) (node2_4c : Nat) (node2_5 : ByteArray) (w : World) (J : Bool → World → Prop) : vcFun Tryd.prog Tryd.f6 ann_law09_EditPlaces [.one .bool] [.agg ⟨[.int .i64 d0_0, .string d0_1, .string d0_2, .slice d0_3p d0_3l d0_3c, .slice d0_4p d0_4l d0_4c, .string d0_5]⟩, .slice at1p at1l at1c, .agg ⟨[.int .i64 node2_0, .string node2_1, .string node2_2, .slice node2_3p node2_3l node2_3c, .slice node2_4p node2_4l node2_4c, .string node2_5]⟩] w J = VC_law09_EditPlaces d0_0 d0_1 d0_2 d0_3p d0_3l d0_3c d0_4p d0_4l d0_4c d0_5 at1p at1l at1c node2_0 node2_1 node2_2 node2_3p node2_3l node2_3c node2_4p node2_4l node2_4c node2_5 w J := by kernel_rfl
theorem c_law09_EditPlaces {d0_0 : Int} {d0_1 : ByteArray} {d0_2 : ByteArray} {d0_3p : Option Addr} {d0_3l : Nat} {d0_3c : Nat} {d0_4p : Option Addr} {d0_4l : Nat} {d0_4c : Nat} {d0_5 : ByteArray} {at1p : Option Addr} {at1l : Nat} {at1c : Nat} {node2_0 : Int} {node2_1 : ByteArray} {node2_2 : ByteArray} {node2_3p : Option Addr} {node2_3l : Nat} {node2_3c : Nat} {node2_4p : Option Addr} {node2_4l : Nat} {node2_4c : Nat} {node2_5 : ByteArray} {w : World} {J : Bool → World → Prop} (h : VC_law09_EditPlaces d0_0 d0_1 d0_2 d0_3p d0_3l d0_3c d0_4p d0_4l d0_4c d0_5 at1p at1l at1c node2_0 node2_1 node2_2 node2_3p node2_3l node2_3c node2_4p node2_4l node2_4c node2_5 w J) : callJ Tryd.prog fn_law09_EditPlaces #[.agg ⟨[.int .i64 d0_0, .string d0_1, .string d0_2, .slice d0_3p d0_3l d0_3c, .slice d0_4p d0_4l d0_4c, .string d0_5]⟩, .slice at1p at1l at1c, .agg ⟨[.int .i64 node2_0, .string node2_1, .string node2_2, .slice node2_3p node2_3l node2_3c, .slice node2_4p node2_4l node2_4c, .string node2_5]⟩] w [.one .bool] J := vc_calls Tryd.func6 ann_law09_EditPlaces (Eq.mpr (eq_law09_EditPlaces d0_0 d0_1 d0_2 d0_3p d0_3l d0_3c d0_4p d0_4l d0_4c d0_5 at1p at1l at1c node2_0 node2_1 node2_2 node2_3p node2_3l node2_3c node2_4p node2_4l node2_4c node2_5 w J) h)

end Go.Proofs.YtkgfbphdmnapdaaDoor
