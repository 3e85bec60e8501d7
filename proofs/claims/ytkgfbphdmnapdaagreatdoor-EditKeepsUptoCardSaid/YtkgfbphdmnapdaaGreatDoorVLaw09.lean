/- What the conditions of these functions are, reckoned by the reading; printed by program. -/
import Derived.Test.YtkgfbphdmnapdaaGreatDoorNm
import Derived.KernelRfl
set_option maxRecDepth 100000
set_option linter.unusedVariables false
namespace Go.Proofs.YtkgfbphdmnapdaaGreatDoor
open Go Go.Vc

/-- lectern/lecternlaw09.awake -/
def VC_law09_awake  (w : World) (J : Bool → World → Prop) : Prop :=
  callJ Tryz.prog fn_law09_little #[] w [.agg [.int .i64, .str, .str, .slice, .slice, .str]] fun (r8_0 : Int) (r8_1 : ByteArray) (r8_2 : ByteArray) (r8_3p : Option Addr) (r8_3l : Nat) (r8_3c : Nat) (r8_4p : Option Addr) (r8_4l : Nat) (r8_4c : Nat) (r8_5 : ByteArray) (w1 : World) =>
  newB w1 (.cells ⟨[.int .i64 (0 : Int), .int .i64 (0 : Int)]⟩ T_int) fun b9 w2 =>
  callJ Tryz.prog fn_edit_Apply #[.agg ⟨[.int .i64 r8_0, .string r8_1, .string r8_2, .slice r8_3p r8_3l r8_3c, .slice r8_4p r8_4l r8_4c, .string r8_5]⟩, .agg ⟨[.int .i64 (2 : Int), .slice (some ⟨b9, 0, none⟩) 2 2, .string ByteArray.empty, .string ByteArray.empty, .string ByteArray.empty, .int .i64 (0 : Int), .string ByteArray.empty, .string ByteArray.empty, .slice none 0 0, .slice none 0 0, .string ByteArray.empty]⟩] w2 [.agg [.int .i64, .str, .str, .slice, .slice, .str], .one (.int .i64)] fun (r11_0_0 : Int) (r11_0_1 : ByteArray) (r11_0_2 : ByteArray) (r11_0_3p : Option Addr) (r11_0_3l : Nat) (r11_0_3c : Nat) (r11_0_4p : Option Addr) (r11_0_4l : Nat) (r11_0_4c : Nat) (r11_0_5 : ByteArray) (r11_1 : Int) (w3 : World) =>
  newB w3 (.cells (zeroC Tryz.prog T_api_Node) T_api_Node) fun b1 w4 =>
  stN w4 ⟨b1, 0, none⟩ ⟨[.int .i64 r11_0_0, .string r11_0_1, .string r11_0_2, .slice r11_0_3p r11_0_3l r11_0_3c, .slice r11_0_4p r11_0_4l r11_0_4c, .string r11_0_5]⟩ 6 fun w5 =>
  callJ Tryz.prog fn_law09_little #[] w5 [.agg [.int .i64, .str, .str, .slice, .slice, .str]] fun (r15_0 : Int) (r15_1 : ByteArray) (r15_2 : ByteArray) (r15_3p : Option Addr) (r15_3l : Nat) (r15_3c : Nat) (r15_4p : Option Addr) (r15_4l : Nat) (r15_4c : Nat) (r15_5 : ByteArray) (w6 : World) =>
  newB w6 (.cells ⟨[.int .i64 (0 : Int)]⟩ T_int) fun b16 w7 =>
  callJ Tryz.prog fn_edit_Apply #[.agg ⟨[.int .i64 r15_0, .string r15_1, .string r15_2, .slice r15_3p r15_3l r15_3c, .slice r15_4p r15_4l r15_4c, .string r15_5]⟩, .agg ⟨[.int .i64 (2 : Int), .slice (some ⟨b16, 0, none⟩) 1 1, .string ByteArray.empty, .string ByteArray.empty, .string ByteArray.empty, .int .i64 (0 : Int), .string ByteArray.empty, .string ByteArray.empty, .slice none 0 0, .slice none 0 0, .string ByteArray.empty]⟩] w7 [.agg [.int .i64, .str, .str, .slice, .slice, .str], .one (.int .i64)] fun (r18_0_0 : Int) (r18_0_1 : ByteArray) (r18_0_2 : ByteArray) (r18_0_3p : Option Addr) (r18_0_3l : Nat) (r18_0_3c : Nat) (r18_0_4p : Option Addr) (r18_0_4l : Nat) (r18_0_4c : Nat) (r18_0_5 : ByteArray) (r18_1 : Int) (w8 : World) =>
  newB w8 (.cells (zeroC Tryz.prog T_api_Node) T_api_Node) fun b3 w9 =>
  stN w9 ⟨b3, 0, none⟩ ⟨[.int .i64 r18_0_0, .string r18_0_1, .string r18_0_2, .slice r18_0_3p r18_0_3l r18_0_3c, .slice r18_0_4p r18_0_4l r18_0_4c, .string r18_0_5]⟩ 6 fun w10 =>
  callJ Tryz.prog fn_law09_little #[] w10 [.agg [.int .i64, .str, .str, .slice, .slice, .str]] fun (r22_0 : Int) (r22_1 : ByteArray) (r22_2 : ByteArray) (r22_3p : Option Addr) (r22_3l : Nat) (r22_3c : Nat) (r22_4p : Option Addr) (r22_4l : Nat) (r22_4c : Nat) (r22_5 : ByteArray) (w11 : World) =>
  newB w11 (.cells ⟨[.int .i64 (0 : Int), .int .i64 (0 : Int)]⟩ T_int) fun b23 w12 =>
  callJ Tryz.prog fn_edit_Back #[.agg ⟨[.int .i64 r22_0, .string r22_1, .string r22_2, .slice r22_3p r22_3l r22_3c, .slice r22_4p r22_4l r22_4c, .string r22_5]⟩, .agg ⟨[.int .i64 (2 : Int), .slice (some ⟨b23, 0, none⟩) 2 2, .string ByteArray.empty, .string ByteArray.empty, .string ByteArray.empty, .int .i64 (0 : Int), .string ByteArray.empty, .string ByteArray.empty, .slice none 0 0, .slice none 0 0, .string ByteArray.empty]⟩] w12 [.agg [.int .i64, .slice, .str, .str, .str, .int .i64, .str, .str, .slice, .slice, .str], .one (.int .i64)] fun (r25_0_0 : Int) (r25_0_1p : Option Addr) (r25_0_1l : Nat) (r25_0_1c : Nat) (r25_0_2 : ByteArray) (r25_0_3 : ByteArray) (r25_0_4 : ByteArray) (r25_0_5 : Int) (r25_0_6 : ByteArray) (r25_0_7 : ByteArray) (r25_0_8p : Option Addr) (r25_0_8l : Nat) (r25_0_8c : Nat) (r25_0_9p : Option Addr) (r25_0_9l : Nat) (r25_0_9c : Nat) (r25_0_10 : ByteArray) (r25_1 : Int) (w13 : World) =>
  newB w13 (.cells (zeroC Tryz.prog T_edit_Edit) T_edit_Edit) fun b5 w14 =>
  stN w14 ⟨b5, 0, none⟩ ⟨[.int .i64 r25_0_0, .slice r25_0_1p r25_0_1l r25_0_1c, .string r25_0_2, .string r25_0_3, .string r25_0_4, .int .i64 r25_0_5, .string r25_0_6, .string r25_0_7, .slice r25_0_8p r25_0_8l r25_0_8c, .slice r25_0_9p r25_0_9l r25_0_9c, .string r25_0_10]⟩ 11 fun w15 =>
  withJ (fun (x0 : Bool) (w16 : World) =>
  J x0 w16) fun J_0 =>
  condB (r11_1 == (0 : Int)) (
  condB (r18_1 == (30 : Int)) (
  condB (r25_1 == (0 : Int)) (
  ldS w15 ⟨b1, 4, none⟩ fun x40p x40l x40c =>
  condB (((x40l : Nat) : Int) == (1 : Int)) (
  ldS w15 ⟨b1, 4, none⟩ fun x46p x46l x46c =>
  idxA x46p x46l (0 : Int) fun a47 =>
  ldS w15 (((a47.add ((0 : Int).toNat * 6)).add 4)) fun x49p x49l x49c =>
  condB (((x49l : Nat) : Int) == (1 : Int)) (
  ldI .i64 w15 ⟨b5, 0, none⟩ fun x55 =>
  condB (x55 == (1 : Int)) (
  ldStr w15 ⟨b5, 10, none⟩ fun x61 =>
  J_0 (x61.toList == (⟨#[120]⟩ : ByteArray).toList) w15) (
  J_0 false w15)) (
  J_0 false w15)) (
  J_0 false w15)) (
  J_0 false w15)) (
  J_0 false w15)) (
  J_0 false w15)
def ann_law09_awake : Ann := .s (.o) (.s (.o) (.s (.o) (.s (.o) (.j [(0, .bool)] (.o) (.o)))))
theorem eq_law09_awake  (w : World) (J : Bool → World → Prop) : vcFun Tryz.prog Tryz.f6 ann_law09_awake [.one .bool] [] w J = VC_law09_awake  w J := by kernel_rfl
theorem c_law09_awake {w : World} {J : Bool → World → Prop} (h : VC_law09_awake  w J) : callJ Tryz.prog fn_law09_awake #[] w [.one .bool] J := vc_calls Tryz.func6 ann_law09_awake (Eq.mpr (eq_law09_awake  w J) h)

/-- lectern/lecternlaw09.little -/
def VC_law09_little  (w : World) (J : Int → ByteArray → ByteArray → Option Addr → Nat → Nat → Option Addr → Nat → Nat → ByteArray → World → Prop) : Prop :=
  newB w (.cells (zeroC Tryz.prog T_api_Node) T_api_Node) fun b0 w1 =>
  Array.size (⟨[.string ByteArray.empty, .string ⟨#[98]⟩]⟩ : Array Value) = 2 ∧
  Array.size (⟨[.string ByteArray.empty, .string ⟨#[98]⟩, .string ⟨#[49]⟩]⟩ : Array Value) = 3 ∧
  newB w1 (.cells ⟨[.string ByteArray.empty, .string ⟨#[98]⟩, .string ⟨#[49]⟩]⟩ T_api_Attr) fun b5 w2 =>
  Array.size (⟨[.string ByteArray.empty, .string ⟨#[97]⟩]⟩ : Array Value) = 2 ∧
  newB w2 (.cells (zeroC Tryz.prog T_api_Node) T_api_Node) fun b1 w3 =>
  stN w3 ⟨b1, 0, none⟩ ⟨[.int .i64 (2 : Int), .string ByteArray.empty, .string ⟨#[97]⟩, .slice (some ⟨b5, 0, none⟩) 1 1, .slice none 0 0, .string ByteArray.empty]⟩ 6 fun w4 =>
  Array.size (⟨[.string ByteArray.empty, .string ⟨#[99]⟩]⟩ : Array Value) = 2 ∧
  Array.size (⟨[.int .i64 (3 : Int), .string ByteArray.empty, .string ByteArray.empty, .slice none 0 0, .slice none 0 0, .string ⟨#[120]⟩]⟩ : Array Value) = 6 ∧
  Array.size (⟨[.int .i64 (2 : Int), .string ByteArray.empty, .string ⟨#[99]⟩, .slice none 0 0, .slice none 0 0, .string ByteArray.empty]⟩ : Array Value) = 6 ∧
  newB w4 (.cells ⟨[.int .i64 (3 : Int), .string ByteArray.empty, .string ByteArray.empty, .slice none 0 0, .slice none 0 0, .string ⟨#[120]⟩, .int .i64 (2 : Int), .string ByteArray.empty, .string ⟨#[99]⟩, .slice none 0 0, .slice none 0 0, .string ByteArray.empty]⟩ T_api_Node) fun b10 w5 =>
  stV w5 ⟨b1, 4, none⟩ (.slice (some ⟨b10, 0, none⟩) 2 2) fun w6 =>
  ldI .i64 w6 ⟨b1, 0, none⟩ fun x12_0 =>
  ldStr w6 ⟨b1, 1, none⟩ fun x12_1 =>
  ldStr w6 ⟨b1, 2, none⟩ fun x12_2 =>
  ldS w6 ⟨b1, 3, none⟩ fun x12_3p x12_3l x12_3c =>
  ldS w6 ⟨b1, 4, none⟩ fun x12_4p x12_4l x12_4c =>
  ldStr w6 ⟨b1, 5, none⟩ fun x12_5 =>
  Array.size (⟨[.int .i64 x12_0, .string x12_1, .string x12_2, .slice x12_3p x12_3l x12_3c, .slice x12_4p x12_4l x12_4c, .string x12_5]⟩ : Array Value) = 6 ∧
  newB w6 (.cells ⟨[.int .i64 x12_0, .string x12_1, .string x12_2, .slice x12_3p x12_3l x12_3c, .slice x12_4p x12_4l x12_4c, .string x12_5]⟩ T_api_Node) fun b13 w7 =>
  stN w7 ⟨b0, 0, none⟩ ⟨[.int .i64 (1 : Int), .string ByteArray.empty, .string ByteArray.empty, .slice none 0 0, .slice (some ⟨b13, 0, none⟩) 1 1, .string ByteArray.empty]⟩ 6 fun w8 =>
  ldI .i64 w8 ⟨b0, 0, none⟩ fun r_0 =>
  ldStr w8 ⟨b0, 1, none⟩ fun r_1 =>
  ldStr w8 ⟨b0, 2, none⟩ fun r_2 =>
  ldS w8 ⟨b0, 3, none⟩ fun r_3p r_3l r_3c =>
  ldS w8 ⟨b0, 4, none⟩ fun r_4p r_4l r_4c =>
  ldStr w8 ⟨b0, 5, none⟩ fun r_5 =>
  J r_0 r_1 r_2 r_3p r_3l r_3c r_4p r_4l r_4c r_5 w8
def ann_law09_little : Ann := .s (.o) (.s (.o) (.s (.o) (.s (.o) (.o))))
theorem eq_law09_little  (w : World) (J : Int → ByteArray → ByteArray → Option Addr → Nat → Nat → Option Addr → Nat → Nat → ByteArray → World → Prop) : vcFun Tryz.prog Tryz.f17 ann_law09_little [.agg [.int .i64, .str, .str, .slice, .slice, .str]] [] w J = VC_law09_little  w J := by kernel_rfl
theorem c_law09_little {w : World} {J : Int → ByteArray → ByteArray → Option Addr → Nat → Nat → Option Addr → Nat → Nat → ByteArray → World → Prop} (h : VC_law09_little  w J) : callJ Tryz.prog fn_law09_little #[] w [.agg [.int .i64, .str, .str, .slice, .slice, .str]] J := vc_calls Tryz.func17 ann_law09_little (Eq.mpr (eq_law09_little  w J) h)

/-- lectern/lecternlaw09.spoil -/
def VC_law09_spoil (n0_0 : Int) (n0_1 : ByteArray) (n0_2 : ByteArray) (n0_3p : Option Addr) (n0_3l : Nat) (n0_3c : Nat) (n0_4p : Option Addr) (n0_4l : Nat) (n0_4c : Nat) (n0_5 : ByteArray) (w : World) (J : World → Prop) : Prop :=
  newB w (.cells ⟨[.int .i64 n0_0, .string n0_1, .string n0_2, .slice n0_3p n0_3l n0_3c, .slice n0_4p n0_4l n0_4c, .string n0_5]⟩ T_api_Node) fun b1 w1 =>
  ldS w1 ⟨b1, 3, none⟩ fun x5p x5l x5c =>
  ∃ I_7 : Int → World → Nat → Prop, (∃ m : Nat, I_7 (0 : Int) w1 m) ∧ ∀ (x7 : Int) (w2 : World) (m : Nat), I_7 x7 w2 m → (
  condB (decide (x7 < ((x5l : Nat) : Int))) (
  ldS w2 ⟨b1, 3, none⟩ fun x11p x11l x11c =>
  idxA x11p x11l x7 fun a14 =>
  stN w2 ((a14.add (x7.toNat * 3))) ⟨[.string ByteArray.empty, .string ByteArray.empty, .string ⟨#[103, 111, 110, 101]⟩]⟩ 3 fun w3 =>
  ∃ m' : Nat, m' < m ∧ I_7 (w64 (x7 + (1 : Int))) w3 m') (
  ldS w2 ⟨b1, 4, none⟩ fun x17p x17l x17c =>
  ∃ I_19 : Int → World → Nat → Prop, (∃ m : Nat, I_19 (0 : Int) w2 m) ∧ ∀ (x19 : Int) (w4 : World) (m_1 : Nat), I_19 x19 w4 m_1 → (
  condB (decide (x19 < ((x17l : Nat) : Int))) (
  ldS w4 ⟨b1, 4, none⟩ fun x23p x23l x23c =>
  idxA x23p x23l x19 fun a25 =>
  ldI .i64 w4 ((a25.add (x19.toNat * 6))) fun x26_0 =>
  ldStr w4 (((a25.add (x19.toNat * 6)).add 1)) fun x26_1 =>
  ldStr w4 (((a25.add (x19.toNat * 6)).add 2)) fun x26_2 =>
  ldS w4 (((a25.add (x19.toNat * 6)).add 3)) fun x26_3p x26_3l x26_3c =>
  ldS w4 (((a25.add (x19.toNat * 6)).add 4)) fun x26_4p x26_4l x26_4c =>
  ldStr w4 (((a25.add (x19.toNat * 6)).add 5)) fun x26_5 =>
  callJ Tryz.prog fn_law09_spoil #[.agg ⟨[.int .i64 x26_0, .string x26_1, .string x26_2, .slice x26_3p x26_3l x26_3c, .slice x26_4p x26_4l x26_4c, .string x26_5]⟩] w4 [] fun (w5 : World) =>
  ldS w5 ⟨b1, 4, none⟩ fun x29p x29l x29c =>
  idxA x29p x29l x19 fun a32 =>
  stN w5 ((a32.add (x19.toNat * 6))) ⟨[.int .i64 (0 : Int), .string ByteArray.empty, .string ByteArray.empty, .slice none 0 0, .slice none 0 0, .string ⟨#[103, 111, 110, 101]⟩]⟩ 6 fun w6 =>
  ∃ m' : Nat, m' < m_1 ∧ I_19 (w64 (x19 + (1 : Int))) w6 m') (
  J w4))))
def ann_law09_spoil : Ann := .s (.o) (.s (.s (.o) (.b (.l [(7, .int .i64)] (.s (.o) (.s (.c (.o) (.o)) (.s (.b (.s (.o) (.o))) (.o))))))) (.s (.o) (.b (.l [(19, .int .i64)] (.s (.o) (.s (.c (.o) (.o)) (.s (.b (.s (.o) (.s (.o) (.o)))) (.o))))))))
theorem eq_law09_spoil (n0_0 : Int) (n0_1 : ByteArray) (n0_2 : ByteArray) (n0_3p : Option Addr) (n0_3l : Nat) (n0_3c : Nat) (n0_4p : Option Addr) (n0_4l : Nat) (n0_4c : Nat) (n0_5 : ByteArray) (w : World) (J : World → Prop) : vcFun Tryz.prog Tryz.f16 ann_law09_spoil [] [.agg ⟨[.int .i64 n0_0, .string n0_1, .string n0_2, .slice n0_3p n0_3l n0_3c, .slice n0_4p n0_4l n0_4c, .string n0_5]⟩] w J = VC_law09_spoil n0_0 n0_1 n0_2 n0_3p n0_3l n0_3c n0_4p n0_4l n0_4c n0_5 w J := by kernel_rfl
theorem c_law09_spoil {n0_0 : Int} {n0_1 : ByteArray} {n0_2 : ByteArray} {n0_3p : Option Addr} {n0_3l : Nat} {n0_3c : Nat} {n0_4p : Option Addr} {n0_4l : Nat} {n0_4c : Nat} {n0_5 : ByteArray} {w : World} {J : World → Prop} (h : VC_law09_spoil n0_0 n0_1 n0_2 n0_3p n0_3l n0_3c n0_4p n0_4l n0_4c n0_5 w J) : callJ Tryz.prog fn_law09_spoil #[.agg ⟨[.int .i64 n0_0, .string n0_1, .string n0_2, .slice n0_3p n0_3l n0_3c, .slice n0_4p n0_4l n0_4c, .string n0_5]⟩] w [] J := vc_calls Tryz.func16 ann_law09_spoil (Eq.mpr (eq_law09_spoil n0_0 n0_1 n0_2 n0_3p n0_3l n0_3c n0_4p n0_4l n0_4c n0_5 w J) h)

end Go.Proofs.YtkgfbphdmnapdaaGreatDoor
