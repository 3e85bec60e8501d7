/- What the conditions of these functions are, reckoned by the reading; printed by program. -/
import Derived.Test.YtmmfookfpdcohaaGreatDoorNm
import Derived.KernelRfl
set_option maxRecDepth 100000
set_option linter.unusedVariables false
namespace Go.Proofs.YtmmfookfpdcohaaGreatDoor
open Go Go.Vc

/-- lectern/lecternlaw05.awake -/
def VC_law05_awake  (w : World) (J : Bool → World → Prop) : Prop :=
  callJ Tryz.prog fn_law05_little #[] w [.agg [.int .i64, .str, .str, .slice, .slice, .str]] fun (r3_0 : Int) (r3_1 : ByteArray) (r3_2 : ByteArray) (r3_3p : Option Addr) (r3_3l : Nat) (r3_3c : Nat) (r3_4p : Option Addr) (r3_4l : Nat) (r3_4c : Nat) (r3_5 : ByteArray) (w1 : World) =>
  newB w1 (.cells (zeroC Tryz.prog T_api_Node) T_api_Node) fun b1 w2 =>
  stN w2 ⟨b1, 0, none⟩ ⟨[.int .i64 r3_0, .string r3_1, .string r3_2, .slice r3_3p r3_3l r3_3c, .slice r3_4p r3_4l r3_4c, .string r3_5]⟩ 6 fun w3 =>
  ldI .i64 w3 ⟨b1, 0, none⟩ fun x4_0 =>
  ldStr w3 ⟨b1, 1, none⟩ fun x4_1 =>
  ldStr w3 ⟨b1, 2, none⟩ fun x4_2 =>
  ldS w3 ⟨b1, 3, none⟩ fun x4_3p x4_3l x4_3c =>
  ldS w3 ⟨b1, 4, none⟩ fun x4_4p x4_4l x4_4c =>
  ldStr w3 ⟨b1, 5, none⟩ fun x4_5 =>
  callJ Tryz.prog fn_tree_Spaces #[.agg ⟨[.int .i64 x4_0, .string x4_1, .string x4_2, .slice x4_3p x4_3l x4_3c, .slice x4_4p x4_4l x4_4c, .string x4_5]⟩] w3 [.one .slice] fun (r5p : Option Addr) (r5l : Nat) (r5c : Nat) (w4 : World) =>
  withJ (fun (x0 : Bool) (w5 : World) =>
  J x0 w5) fun J_0 =>
  ldI .i64 w4 ⟨b1, 0, none⟩ fun x6_0 =>
  ldStr w4 ⟨b1, 1, none⟩ fun x6_1 =>
  ldStr w4 ⟨b1, 2, none⟩ fun x6_2 =>
  ldS w4 ⟨b1, 3, none⟩ fun x6_3p x6_3l x6_3c =>
  ldS w4 ⟨b1, 4, none⟩ fun x6_4p x6_4l x6_4c =>
  ldStr w4 ⟨b1, 5, none⟩ fun x6_5 =>
  callJ Tryz.prog fn_tree_Check #[.agg ⟨[.int .i64 x6_0, .string x6_1, .string x6_2, .slice x6_3p x6_3l x6_3c, .slice x6_4p x6_4l x6_4c, .string x6_5]⟩] w4 [.one (.int .i64)] fun (r7 : Int) (w6 : World) =>
  condB (r7 == (0 : Int)) (
  ldI .i64 w6 ⟨b1, 0, none⟩ fun x10_0 =>
  ldStr w6 ⟨b1, 1, none⟩ fun x10_1 =>
  ldStr w6 ⟨b1, 2, none⟩ fun x10_2 =>
  ldS w6 ⟨b1, 3, none⟩ fun x10_3p x10_3l x10_3c =>
  ldS w6 ⟨b1, 4, none⟩ fun x10_4p x10_4l x10_4c =>
  ldStr w6 ⟨b1, 5, none⟩ fun x10_5 =>
  callJ Tryz.prog fn_tree_Size #[.agg ⟨[.int .i64 x10_0, .string x10_1, .string x10_2, .slice x10_3p x10_3l x10_3c, .slice x10_4p x10_4l x10_4c, .string x10_5]⟩] w6 [.one (.int .i64)] fun (r11 : Int) (w7 : World) =>
  condB (r11 == (4 : Int)) (
  ldI .i64 w7 ⟨b1, 0, none⟩ fun x15_0 =>
  ldStr w7 ⟨b1, 1, none⟩ fun x15_1 =>
  ldStr w7 ⟨b1, 2, none⟩ fun x15_2 =>
  ldS w7 ⟨b1, 3, none⟩ fun x15_3p x15_3l x15_3c =>
  ldS w7 ⟨b1, 4, none⟩ fun x15_4p x15_4l x15_4c =>
  ldStr w7 ⟨b1, 5, none⟩ fun x15_5 =>
  callJ Tryz.prog fn_tree_Depth #[.agg ⟨[.int .i64 x15_0, .string x15_1, .string x15_2, .slice x15_3p x15_3l x15_3c, .slice x15_4p x15_4l x15_4c, .string x15_5]⟩] w7 [.one (.int .i64)] fun (r16 : Int) (w8 : World) =>
  condB (r16 == (3 : Int)) (
  condB (((r5l : Nat) : Int) == (1 : Int)) (
  idxA r5p r5l (0 : Int) fun a26 =>
  ldStr w8 ((a26.add ((0 : Int).toNat * 1))) fun x27 =>
  condB (x27.toList == (⟨#[117]⟩ : ByteArray).toList) (
  callJ Tryz.prog fn_tree_Check #[.agg ⟨[.int .i64 (1 : Int), .string ByteArray.empty, .string ByteArray.empty, .slice none 0 0, .slice none 0 0, .string ByteArray.empty]⟩] w8 [.one (.int .i64)] fun (r32 : Int) (w9 : World) =>
  J_0 (r32 == (30 : Int)) w9) (
  J_0 false w8)) (
  J_0 false w8)) (
  J_0 false w8)) (
  J_0 false w7)) (
  J_0 false w6)
def ann_law05_awake : Ann := .s (.o) (.s (.o) (.s (.o) (.j [(0, .bool)] (.o) (.o))))
theorem eq_law05_awake  (w : World) (J : Bool → World → Prop) : vcFun Tryz.prog Tryz.f6 ann_law05_awake [.one .bool] [] w J = VC_law05_awake  w J := by kernel_rfl
theorem c_law05_awake {w : World} {J : Bool → World → Prop} (h : VC_law05_awake  w J) : callJ Tryz.prog fn_law05_awake #[] w [.one .bool] J := vc_calls Tryz.func6 ann_law05_awake (Eq.mpr (eq_law05_awake  w J) h)

/-- lectern/lecternlaw05.little -/
def VC_law05_little  (w : World) (J : Int → ByteArray → ByteArray → Option Addr → Nat → Nat → Option Addr → Nat → Nat → ByteArray → World → Prop) : Prop :=
  newB w (.cells (zeroC Tryz.prog T_api_Node) T_api_Node) fun b0 w1 =>
  Array.size (⟨[.string ByteArray.empty, .string ⟨#[98]⟩]⟩ : Array Value) = 2 ∧
  Array.size (⟨[.string ByteArray.empty, .string ⟨#[98]⟩, .string ⟨#[49]⟩]⟩ : Array Value) = 3 ∧
  newB w1 (.cells ⟨[.string ByteArray.empty, .string ⟨#[98]⟩, .string ⟨#[49]⟩]⟩ T_api_Attr) fun b5 w2 =>
  Array.size (⟨[.string ⟨#[117]⟩, .string ⟨#[97]⟩]⟩ : Array Value) = 2 ∧
  newB w2 (.cells (zeroC Tryz.prog T_api_Node) T_api_Node) fun b1 w3 =>
  stN w3 ⟨b1, 0, none⟩ ⟨[.int .i64 (2 : Int), .string ⟨#[117]⟩, .string ⟨#[97]⟩, .slice (some ⟨b5, 0, none⟩) 1 1, .slice none 0 0, .string ByteArray.empty]⟩ 6 fun w4 =>
  Array.size (⟨[.string ByteArray.empty, .string ⟨#[99]⟩]⟩ : Array Value) = 2 ∧
  Array.size (⟨[.int .i64 (3 : Int), .string ByteArray.empty, .string ByteArray.empty, .slice none 0 0, .slice none 0 0, .string ⟨#[120]⟩]⟩ : Array Value) = 6 ∧
  Array.size (⟨[.int .i64 (2 : Int), .string ByteArray.empty, .string ⟨#[99]⟩, .slice none 0 0, .slice none 0 0, .string ByteArray.empty]⟩ : Array Value) = 6 ∧
  newB w4 (.cells ⟨[.int .i64 (3 : Int), .string ByteArray.empty, .string ByteArray.empty, .slice none 0 0, .slice none 0 0, .string ⟨#[120]⟩, .int .i64 (2 : Int), .string ByteArray.empty, .string ⟨#[99]⟩, .slice none 0 0, .slice none 0 0, .string ByteArray.empty]⟩ T_api_Node) fun b10 w5 =>
  stV w5 ⟨b1, 4, none⟩ (.slice (some ⟨b10, 0, none⟩) 2 2) fun w6 =>
  ldI .i64 w6 ⟨b1, 0, none⟩ fun x12_0 =>
  ldStr w6 ⟨b1, 1, none⟩ fun x12_1 =>
  ldStr w6 ⟨b1, 2, none⟩ fun x12_2 =>
  ldS w6 ⟨b1, 3, none⟩ fun x12_3p x12_3l x12_3c =>
  ldS w6 ⟨b1, 4, none⟩ fun x12_4p x12_4l x12_4c =>
  ldStr w6 ⟨b1, 5, none⟩ fun x12_5 =>
  Array.size (⟨[.int .i64 x12_0, .string x12_1, .string x12_2, .slice x12_3p x12_3l x12_3c, .slice x12_4p x12_4l x12_4c, .string x12_5]⟩ : Array Value) = 6 ∧
  newB w6 (.cells ⟨[.int .i64 x12_0, .string x12_1, .string x12_2, .slice x12_3p x12_3l x12_3c, .slice x12_4p x12_4l x12_4c, .string x12_5]⟩ T_api_Node) fun b13 w7 =>
  stN w7 ⟨b0, 0, none⟩ ⟨[.int .i64 (1 : Int), .string ByteArray.empty, .string ByteArray.empty, .slice none 0 0, .slice (some ⟨b13, 0, none⟩) 1 1, .string ByteArray.empty]⟩ 6 fun w8 =>
  ldI .i64 w8 ⟨b0, 0, none⟩ fun r_0 =>
  ldStr w8 ⟨b0, 1, none⟩ fun r_1 =>
  ldStr w8 ⟨b0, 2, none⟩ fun r_2 =>
  ldS w8 ⟨b0, 3, none⟩ fun r_3p r_3l r_3c =>
  ldS w8 ⟨b0, 4, none⟩ fun r_4p r_4l r_4c =>
  ldStr w8 ⟨b0, 5, none⟩ fun r_5 =>
  J r_0 r_1 r_2 r_3p r_3l r_3c r_4p r_4l r_4c r_5 w8
def ann_law05_little : Ann := .s (.o) (.s (.o) (.s (.o) (.s (.o) (.o))))
theorem eq_law05_little  (w : World) (J : Int → ByteArray → ByteArray → Option Addr → Nat → Nat → Option Addr → Nat → Nat → ByteArray → World → Prop) : vcFun Tryz.prog Tryz.f25 ann_law05_little [.agg [.int .i64, .str, .str, .slice, .slice, .str]] [] w J = VC_law05_little  w J := by kernel_rfl
theorem c_law05_little {w : World} {J : Int → ByteArray → ByteArray → Option Addr → Nat → Nat → Option Addr → Nat → Nat → ByteArray → World → Prop} (h : VC_law05_little  w J) : callJ Tryz.prog fn_law05_little #[] w [.agg [.int .i64, .str, .str, .slice, .slice, .str]] J := vc_calls Tryz.func25 ann_law05_little (Eq.mpr (eq_law05_little  w J) h)

/-- lectern/lecternlaw05.spoil -/
def VC_law05_spoil (n0_0 : Int) (n0_1 : ByteArray) (n0_2 : ByteArray) (n0_3p : Option Addr) (n0_3l : Nat) (n0_3c : Nat) (n0_4p : Option Addr) (n0_4l : Nat) (n0_4c : Nat) (n0_5 : ByteArray) (w : World) (J : World → Prop) : Prop :=
  newB w (.cells ⟨[.int .i64 n0_0, .string n0_1, .string n0_2, .slice n0_3p n0_3l n0_3c, .slice n0_4p n0_4l n0_4c, .string n0_5]⟩ T_api_Node) fun b1 w1 =>
  ldS w1 ⟨b1, 3, none⟩ fun x5p x5l x5c =>
  ∃ I_7 : Int → World → Nat → Prop, (∃ m : Nat, I_7 (0 : Int) w1 m) ∧ ∀ (x7 : Int) (w2 : World) (m : Nat), I_7 x7 w2 m → (
  condB (decide (x7 < ((x5l : Nat) : Int))) (
  ldS w2 ⟨b1, 3, none⟩ fun x11p x11l x11c =>
  idxA x11p x11l x7 fun a14 =>
  stN w2 ((a14.add (x7.toNat * 3))) ⟨[.string ByteArray.empty, .string ByteArray.empty, .string ⟨#[103, 111, 110, 101]⟩]⟩ 3 fun w3 =>
  ∃ m' : Nat, m' < m ∧ I_7 (w64 (x7 + (1 : Int))) w3 m') (
  ldS w2 ⟨b1, 4, none⟩ fun x17p x17l x17c =>
  ∃ I_19 : Int → World → Nat → Prop, (∃ m : Nat, I_19 (0 : Int) w2 m) ∧ ∀ (x19 : Int) (w4 : World) (m_1 : Nat), I_19 x19 w4 m_1 → (
  condB (decide (x19 < ((x17l : Nat) : Int))) (
  ldS w4 ⟨b1, 4, none⟩ fun x23p x23l x23c =>
  idxA x23p x23l x19 fun a25 =>
  ldI .i64 w4 ((a25.add (x19.toNat * 6))) fun x26_0 =>
  ldStr w4 (((a25.add (x19.toNat * 6)).add 1)) fun x26_1 =>
  ldStr w4 (((a25.add (x19.toNat * 6)).add 2)) fun x26_2 =>
  ldS w4 (((a25.add (x19.toNat * 6)).add 3)) fun x26_3p x26_3l x26_3c =>
  ldS w4 (((a25.add (x19.toNat * 6)).add 4)) fun x26_4p x26_4l x26_4c =>
  ldStr w4 (((a25.add (x19.toNat * 6)).add 5)) fun x26_5 =>
  callJ Tryz.prog fn_law05_spoil #[.agg ⟨[.int .i64 x26_0, .string x26_1, .string x26_2, .slice x26_3p x26_3l x26_3c, .slice x26_4p x26_4l x26_4c, .string x26_5]⟩] w4 [] fun (w5 : World) =>
  ldS w5 ⟨b1, 4, none⟩ fun x29p x29l x29c =>
  idxA x29p x29l x19 fun a32 =>
  stN w5 ((a32.add (x19.toNat * 6))) ⟨[.int .i64 (0 : Int), .string ByteArray.empty, .string ByteArray.empty, .slice none 0 0, .slice none 0 0, .string ⟨#[103, 111, 110, 101]⟩]⟩ 6 fun w6 =>
  ∃ m' : Nat, m' < m_1 ∧ I_19 (w64 (x19 + (1 : Int))) w6 m') (
  J w4))))
def ann_law05_spoil : Ann := .s (.o) (.s (.s (.o) (.b (.l [(7, .int .i64)] (.s (.o) (.s (.c (.o) (.o)) (.s (.b (.s (.o) (.o))) (.o))))))) (.s (.o) (.b (.l [(19, .int .i64)] (.s (.o) (.s (.c (.o) (.o)) (.s (.b (.s (.o) (.s (.o) (.o)))) (.o))))))))
theorem eq_law05_spoil (n0_0 : Int) (n0_1 : ByteArray) (n0_2 : ByteArray) (n0_3p : Option Addr) (n0_3l : Nat) (n0_3c : Nat) (n0_4p : Option Addr) (n0_4l : Nat) (n0_4c : Nat) (n0_5 : ByteArray) (w : World) (J : World → Prop) : vcFun Tryz.prog Tryz.f17 ann_law05_spoil [] [.agg ⟨[.int .i64 n0_0, .string n0_1, .string n0_2, .slice n0_3p n0_3l n0_3c, .slice n0_4p n0_4l n0_4c, .string n0_5]⟩] w J = VC_law05_spoil n0_0 n0_1 n0_2 n0_3p n0_3l n0_3c n0_4p n0_4l n0_4c n0_5 w J := by kernel_rfl
theorem c_law05_spoil {n0_0 : Int} {n0_1 : ByteArray} {n0_2 : ByteArray} {n0_3p : Option Addr} {n0_3l : Nat} {n0_3c : Nat} {n0_4p : Option Addr} {n0_4l : Nat} {n0_4c : Nat} {n0_5 : ByteArray} {w : World} {J : World → Prop} (h : VC_law05_spoil n0_0 n0_1 n0_2 n0_3p n0_3l n0_3c n0_4p n0_4l n0_4c n0_5 w J) : callJ Tryz.prog fn_law05_spoil #[.agg ⟨[.int .i64 n0_0, .string n0_1, .string n0_2, .slice n0_3p n0_3l n0_3c, .slice n0_4p n0_4l n0_4c, .string n0_5]⟩] w [] J := vc_calls Tryz.func17 ann_law05_spoil (Eq.mpr (eq_law05_spoil n0_0 n0_1 n0_2 n0_3p n0_3l n0_3c n0_4p n0_4l n0_4c n0_5 w J) h)

/-- lectern/lecternlaw05.TreeChecks -/
def VC_law05_TreeChecks (d0_0 : Int) (d0_1 : ByteArray) (d0_2 : ByteArray) (d0_3p : Option Addr) (d0_3l : Nat) (d0_3c : Nat) (d0_4p : Option Addr) (d0_4l : Nat) (d0_4c : Nat) (d0_5 : ByteArray) (w : World) (J : Bool → World → Prop) : Prop :=
  newB w (.cells ⟨[.int .i64 d0_0, .string d0_1, .string d0_2, .slice d0_3p d0_3l d0_3c, .slice d0_4p d0_4l d0_4c, .string d0_5]⟩ T_api_Node) fun b1 w1 =>
  callJ Tryz.prog fn_law05_awake #[] w1 [.one .bool] fun (r4 : Bool) (w2 : World) =>
  condB (!r4) (
  J false w2) (
  ldI .i64 w2 ⟨b1, 0, none⟩ fun x6_0 =>
  ldStr w2 ⟨b1, 1, none⟩ fun x6_1 =>
  ldStr w2 ⟨b1, 2, none⟩ fun x6_2 =>
  ldS w2 ⟨b1, 3, none⟩ fun x6_3p x6_3l x6_3c =>
  ldS w2 ⟨b1, 4, none⟩ fun x6_4p x6_4l x6_4c =>
  ldStr w2 ⟨b1, 5, none⟩ fun x6_5 =>
  callJ Tryz.prog fn_ref05_Twin #[.agg ⟨[.int .i64 x6_0, .string x6_1, .string x6_2, .slice x6_3p x6_3l x6_3c, .slice x6_4p x6_4l x6_4c, .string x6_5]⟩] w2 [.agg [.int .i64, .str, .str, .slice, .slice, .str]] fun (r7_0 : Int) (r7_1 : ByteArray) (r7_2 : ByteArray) (r7_3p : Option Addr) (r7_3l : Nat) (r7_3c : Nat) (r7_4p : Option Addr) (r7_4l : Nat) (r7_4c : Nat) (r7_5 : ByteArray) (w3 : World) =>
  newB w3 (.cells (zeroC Tryz.prog T_api_Node) T_api_Node) fun b3 w4 =>
  stN w4 ⟨b3, 0, none⟩ ⟨[.int .i64 r7_0, .string r7_1, .string r7_2, .slice r7_3p r7_3l r7_3c, .slice r7_4p r7_4l r7_4c, .string r7_5]⟩ 6 fun w5 =>
  withJ (fun (x2 : Bool) (w6 : World) =>
  J x2 w6) fun J_2 =>
  ldI .i64 w5.drew ⟨b1, 0, none⟩ fun x8_0 =>
  ldStr w5.drew ⟨b1, 1, none⟩ fun x8_1 =>
  ldStr w5.drew ⟨b1, 2, none⟩ fun x8_2 =>
  ldS w5.drew ⟨b1, 3, none⟩ fun x8_3p x8_3l x8_3c =>
  ldS w5.drew ⟨b1, 4, none⟩ fun x8_4p x8_4l x8_4c =>
  ldStr w5.drew ⟨b1, 5, none⟩ fun x8_5 =>
  ldI .i64 w5.drew ⟨b1, 0, none⟩ fun x10_0 =>
  ldStr w5.drew ⟨b1, 1, none⟩ fun x10_1 =>
  ldStr w5.drew ⟨b1, 2, none⟩ fun x10_2 =>
  ldS w5.drew ⟨b1, 3, none⟩ fun x10_3p x10_3l x10_3c =>
  ldS w5.drew ⟨b1, 4, none⟩ fun x10_4p x10_4l x10_4c =>
  ldStr w5.drew ⟨b1, 5, none⟩ fun x10_5 =>
  callJ Tryz.prog fn_tree_Check #[.agg ⟨[.int .i64 x8_0, .string x8_1, .string x8_2, .slice x8_3p x8_3l x8_3c, .slice x8_4p x8_4l x8_4c, .string x8_5]⟩] w5.drew [.one (.int .i64)] fun (r9 : Int) (w7 : World) =>
  cellsAt w7 ⟨b1, 0, none⟩ [.int .i64 x10_0, .string x10_1, .string x10_2, .slice x10_3p x10_3l x10_3c, .slice x10_4p x10_4l x10_4c, .string x10_5] ∧
  callJ Tryz.prog fn_ref05_Check #[.agg ⟨[.int .i64 x10_0, .string x10_1, .string x10_2, .slice x10_3p x10_3l x10_3c, .slice x10_4p x10_4l x10_4c, .string x10_5]⟩] w7 [.one (.int .i64)] fun (r11 : Int) (w8 : World) =>
  condB (r9 == r11) (
  ldI .i64 w8 ⟨b1, 0, none⟩ fun x14_0 =>
  ldStr w8 ⟨b1, 1, none⟩ fun x14_1 =>
  ldStr w8 ⟨b1, 2, none⟩ fun x14_2 =>
  ldS w8 ⟨b1, 3, none⟩ fun x14_3p x14_3l x14_3c =>
  ldS w8 ⟨b1, 4, none⟩ fun x14_4p x14_4l x14_4c =>
  ldStr w8 ⟨b1, 5, none⟩ fun x14_5 =>
  ldI .i64 w8 ⟨b3, 0, none⟩ fun x15_0 =>
  ldStr w8 ⟨b3, 1, none⟩ fun x15_1 =>
  ldStr w8 ⟨b3, 2, none⟩ fun x15_2 =>
  ldS w8 ⟨b3, 3, none⟩ fun x15_3p x15_3l x15_3c =>
  ldS w8 ⟨b3, 4, none⟩ fun x15_4p x15_4l x15_4c =>
  ldStr w8 ⟨b3, 5, none⟩ fun x15_5 =>
  callJ Tryz.prog fn_ref05_Same #[.agg ⟨[.int .i64 x14_0, .string x14_1, .string x14_2, .slice x14_3p x14_3l x14_3c, .slice x14_4p x14_4l x14_4c, .string x14_5]⟩, .agg ⟨[.int .i64 x15_0, .string x15_1, .string x15_2, .slice x15_3p x15_3l x15_3c, .slice x15_4p x15_4l x15_4c, .string x15_5]⟩] w8 [.one .bool] fun (r16 : Bool) (w9 : World) =>
  J_2 r16 w9) (
  J_2 false w8))
def ann_law05_TreeChecks : Ann := .s (.o) (.s (.s (.o) (.c (.s (.o) (.o)) (.o))) (.s (.o) (.j [(2, .bool)] (.d (.take 0 (.take 2 (.eff 1 (.eff 3 (.take 4 (.take 5 (.take 6 (.take 7 (.eff 8 (.take 9 (.take 10 (.done))) (.none)))))) (.none)) (.none))))) (.o))))
theorem eq_law05_TreeChecks (d0_0 : Int) (d0_1 : ByteArray) (d0_2 : ByteArray) (d0_3p : Option Addr) (d0_3l : Nat) (d0_3c : Nat) (d0_4p : Option Addr) (d0_4l : Nat) (d0_4c : Nat) (d0_5 : ByteArray) (w : World) (J : Bool → World → Prop) : vcFun Tryz.prog Tryz.f3 ann_law05_TreeChecks [.one .bool] [.agg ⟨[.int .i64 d0_0, .string d0_1, .string d0_2, .slice d0_3p d0_3l d0_3c, .slice d0_4p d0_4l d0_4c, .string d0_5]⟩] w J = VC_law05_TreeChecks d0_0 d0_1 d0_2 d0_3p d0_3l d0_3c d0_4p d0_4l d0_4c d0_5 w J := by kernel_rfl
theorem c_law05_TreeChecks {d0_0 : Int} {d0_1 : ByteArray} {d0_2 : ByteArray} {d0_3p : Option Addr} {d0_3l : Nat} {d0_3c : Nat} {d0_4p : Option Addr} {d0_4l : Nat} {d0_4c : Nat} {d0_5 : ByteArray} {w : World} {J : Bool → World → Prop} (h : VC_law05_TreeChecks d0_0 d0_1 d0_2 d0_3p d0_3l d0_3c d0_4p d0_4l d0_4c d0_5 w J) : callJ Tryz.prog fn_law05_TreeChecks #[.agg ⟨[.int .i64 d0_0, .string d0_1, .string d0_2, .slice d0_3p d0_3l d0_3c, .slice d0_4p d0_4l d0_4c, .string d0_5]⟩] w [.one .bool] J := vc_calls Tryz.func3 ann_law05_TreeChecks (Eq.mpr (eq_law05_TreeChecks d0_0 d0_1 d0_2 d0_3p d0_3l d0_3c d0_4p d0_4l d0_4c d0_5 w J) h)

/-- lectern/lecternlaw05.TreeTells -/
def VC_law05_TreeTells (a0_0 : Int) (a0_1 : ByteArray) (a0_2 : ByteArray) (a0_3p : Option Addr) (a0_3l : Nat) (a0_3c : Nat) (a0_4p : Option Addr) (a0_4l : Nat) (a0_4c : Nat) (a0_5 : ByteArray) (b1_0 : Int) (b1_1 : ByteArray) (b1_2 : ByteArray) (b1_3p : Option Addr) (b1_3l : Nat) (b1_3c : Nat) (b1_4p : Option Addr) (b1_4l : Nat) (b1_4c : Nat) (b1_5 : ByteArray) (w : World) (J : Bool → World → Prop) : Prop :=
  newB w (.cells ⟨[.int .i64 a0_0, .string a0_1, .string a0_2, .slice a0_3p a0_3l a0_3c, .slice a0_4p a0_4l a0_4c, .string a0_5]⟩ T_api_Node) fun b2 w1 =>
  newB w1 (.cells ⟨[.int .i64 b1_0, .string b1_1, .string b1_2, .slice b1_3p b1_3l b1_3c, .slice b1_4p b1_4l b1_4c, .string b1_5]⟩ T_api_Node) fun b3 w2 =>
  callJ Tryz.prog fn_law05_awake #[] w2 [.one .bool] fun (r10 : Bool) (w3 : World) =>
  condB (!r10) (
  J false w3) (
  ldI .i64 w3.drew ⟨b2, 0, none⟩ fun x12_0 =>
  ldStr w3.drew ⟨b2, 1, none⟩ fun x12_1 =>
  ldStr w3.drew ⟨b2, 2, none⟩ fun x12_2 =>
  ldS w3.drew ⟨b2, 3, none⟩ fun x12_3p x12_3l x12_3c =>
  ldS w3.drew ⟨b2, 4, none⟩ fun x12_4p x12_4l x12_4c =>
  ldStr w3.drew ⟨b2, 5, none⟩ fun x12_5 =>
  ldI .i64 w3.drew ⟨b2, 0, none⟩ fun x14_0 =>
  ldStr w3.drew ⟨b2, 1, none⟩ fun x14_1 =>
  ldStr w3.drew ⟨b2, 2, none⟩ fun x14_2 =>
  ldS w3.drew ⟨b2, 3, none⟩ fun x14_3p x14_3l x14_3c =>
  ldS w3.drew ⟨b2, 4, none⟩ fun x14_4p x14_4l x14_4c =>
  ldStr w3.drew ⟨b2, 5, none⟩ fun x14_5 =>
  callJ Tryz.prog fn_tree_Spaces #[.agg ⟨[.int .i64 x12_0, .string x12_1, .string x12_2, .slice x12_3p x12_3l x12_3c, .slice x12_4p x12_4l x12_4c, .string x12_5]⟩] w3.drew [.one .slice] fun (r13p : Option Addr) (r13l : Nat) (r13c : Nat) (w4 : World) =>
  cellsAt w4 ⟨b2, 0, none⟩ [.int .i64 x14_0, .string x14_1, .string x14_2, .slice x14_3p x14_3l x14_3c, .slice x14_4p x14_4l x14_4c, .string x14_5] ∧
  callJ Tryz.prog fn_ref05_Spaces #[.agg ⟨[.int .i64 x14_0, .string x14_1, .string x14_2, .slice x14_3p x14_3l x14_3c, .slice x14_4p x14_4l x14_4c, .string x14_5]⟩] w4 [.one .slice] fun (r15p : Option Addr) (r15l : Nat) (r15c : Nat) (w5 : World) =>
  withJ (fun (x44 : Bool) (w6 : World) =>
  condB x44 (
  J false w6) (
  ∃ I_47 : Int → World → Nat → Prop, (∃ m : Nat, I_47 (0 : Int) w6 m) ∧ ∀ (x47 : Int) (w7 : World) (m : Nat), I_47 x47 w7 m → (
  condB (decide (x47 < ((r13l : Nat) : Int))) (
  idxA r13p r13l x47 fun a52 =>
  ldStr w7.drew ((a52.add (x47.toNat * 1))) fun x53 =>
  idxA r15p r15l x47 fun a56 =>
  ldStr w7.drew ((a56.add (x47.toNat * 1))) fun x57 =>
  condB (!(x53.toList == x57.toList)) (
  J false w7.drew) (
  ∃ m' : Nat, m' < m ∧ I_47 (w64 (x47 + (1 : Int))) w7.drew m')) (
  ldI .i64 w7 ⟨b2, 0, none⟩ fun x60_0 =>
  ldStr w7 ⟨b2, 1, none⟩ fun x60_1 =>
  ldStr w7 ⟨b2, 2, none⟩ fun x60_2 =>
  ldS w7 ⟨b2, 3, none⟩ fun x60_3p x60_3l x60_3c =>
  ldS w7 ⟨b2, 4, none⟩ fun x60_4p x60_4l x60_4c =>
  ldStr w7 ⟨b2, 5, none⟩ fun x60_5 =>
  callJ Tryz.prog fn_ref05_Twin #[.agg ⟨[.int .i64 x60_0, .string x60_1, .string x60_2, .slice x60_3p x60_3l x60_3c, .slice x60_4p x60_4l x60_4c, .string x60_5]⟩] w7 [.agg [.int .i64, .str, .str, .slice, .slice, .str]] fun (r61_0 : Int) (r61_1 : ByteArray) (r61_2 : ByteArray) (r61_3p : Option Addr) (r61_3l : Nat) (r61_3c : Nat) (r61_4p : Option Addr) (r61_4l : Nat) (r61_4c : Nat) (r61_5 : ByteArray) (w8 : World) =>
  newB w8 (.cells (zeroC Tryz.prog T_api_Node) T_api_Node) fun b8 w9 =>
  stN w9 ⟨b8, 0, none⟩ ⟨[.int .i64 r61_0, .string r61_1, .string r61_2, .slice r61_3p r61_3l r61_3c, .slice r61_4p r61_4l r61_4c, .string r61_5]⟩ 6 fun w10 =>
  ldI .i64 w10 ⟨b2, 0, none⟩ fun x62_0 =>
  ldStr w10 ⟨b2, 1, none⟩ fun x62_1 =>
  ldStr w10 ⟨b2, 2, none⟩ fun x62_2 =>
  ldS w10 ⟨b2, 3, none⟩ fun x62_3p x62_3l x62_3c =>
  ldS w10 ⟨b2, 4, none⟩ fun x62_4p x62_4l x62_4c =>
  ldStr w10 ⟨b2, 5, none⟩ fun x62_5 =>
  callJ Tryz.prog fn_tree_Copy #[.agg ⟨[.int .i64 x62_0, .string x62_1, .string x62_2, .slice x62_3p x62_3l x62_3c, .slice x62_4p x62_4l x62_4c, .string x62_5]⟩] w10 [.agg [.int .i64, .str, .str, .slice, .slice, .str]] fun (r63_0 : Int) (r63_1 : ByteArray) (r63_2 : ByteArray) (r63_3p : Option Addr) (r63_3l : Nat) (r63_3c : Nat) (r63_4p : Option Addr) (r63_4l : Nat) (r63_4c : Nat) (r63_5 : ByteArray) (w11 : World) =>
  newB w11 (.cells (zeroC Tryz.prog T_api_Node) T_api_Node) fun b9 w12 =>
  stN w12 ⟨b9, 0, none⟩ ⟨[.int .i64 r63_0, .string r63_1, .string r63_2, .slice r63_3p r63_3l r63_3c, .slice r63_4p r63_4l r63_4c, .string r63_5]⟩ 6 fun w13 =>
  withJ (fun (x73 : Bool) (w14 : World) =>
  condB x73 (
  J false w14) (
  ldI .i64 w14 ⟨b9, 0, none⟩ fun x74_0 =>
  ldStr w14 ⟨b9, 1, none⟩ fun x74_1 =>
  ldStr w14 ⟨b9, 2, none⟩ fun x74_2 =>
  ldS w14 ⟨b9, 3, none⟩ fun x74_3p x74_3l x74_3c =>
  ldS w14 ⟨b9, 4, none⟩ fun x74_4p x74_4l x74_4c =>
  ldStr w14 ⟨b9, 5, none⟩ fun x74_5 =>
  callJ Tryz.prog fn_law05_spoil #[.agg ⟨[.int .i64 x74_0, .string x74_1, .string x74_2, .slice x74_3p x74_3l x74_3c, .slice x74_4p x74_4l x74_4c, .string x74_5]⟩] w14 [] fun (w15 : World) =>
  ldI .i64 w15 ⟨b2, 0, none⟩ fun x76_0 =>
  ldStr w15 ⟨b2, 1, none⟩ fun x76_1 =>
  ldStr w15 ⟨b2, 2, none⟩ fun x76_2 =>
  ldS w15 ⟨b2, 3, none⟩ fun x76_3p x76_3l x76_3c =>
  ldS w15 ⟨b2, 4, none⟩ fun x76_4p x76_4l x76_4c =>
  ldStr w15 ⟨b2, 5, none⟩ fun x76_5 =>
  ldI .i64 w15 ⟨b8, 0, none⟩ fun x77_0 =>
  ldStr w15 ⟨b8, 1, none⟩ fun x77_1 =>
  ldStr w15 ⟨b8, 2, none⟩ fun x77_2 =>
  ldS w15 ⟨b8, 3, none⟩ fun x77_3p x77_3l x77_3c =>
  ldS w15 ⟨b8, 4, none⟩ fun x77_4p x77_4l x77_4c =>
  ldStr w15 ⟨b8, 5, none⟩ fun x77_5 =>
  callJ Tryz.prog fn_ref05_Same #[.agg ⟨[.int .i64 x76_0, .string x76_1, .string x76_2, .slice x76_3p x76_3l x76_3c, .slice x76_4p x76_4l x76_4c, .string x76_5]⟩, .agg ⟨[.int .i64 x77_0, .string x77_1, .string x77_2, .slice x77_3p x77_3l x77_3c, .slice x77_4p x77_4l x77_4c, .string x77_5]⟩] w15 [.one .bool] fun (r78 : Bool) (w16 : World) =>
  J r78 w16)) fun J_73 =>
  ldI .i64 w13 ⟨b9, 0, none⟩ fun x64_0 =>
  ldStr w13 ⟨b9, 1, none⟩ fun x64_1 =>
  ldStr w13 ⟨b9, 2, none⟩ fun x64_2 =>
  ldS w13 ⟨b9, 3, none⟩ fun x64_3p x64_3l x64_3c =>
  ldS w13 ⟨b9, 4, none⟩ fun x64_4p x64_4l x64_4c =>
  ldStr w13 ⟨b9, 5, none⟩ fun x64_5 =>
  ldI .i64 w13 ⟨b2, 0, none⟩ fun x65_0 =>
  ldStr w13 ⟨b2, 1, none⟩ fun x65_1 =>
  ldStr w13 ⟨b2, 2, none⟩ fun x65_2 =>
  ldS w13 ⟨b2, 3, none⟩ fun x65_3p x65_3l x65_3c =>
  ldS w13 ⟨b2, 4, none⟩ fun x65_4p x65_4l x65_4c =>
  ldStr w13 ⟨b2, 5, none⟩ fun x65_5 =>
  callJ Tryz.prog fn_ref05_Same #[.agg ⟨[.int .i64 x64_0, .string x64_1, .string x64_2, .slice x64_3p x64_3l x64_3c, .slice x64_4p x64_4l x64_4c, .string x64_5]⟩, .agg ⟨[.int .i64 x65_0, .string x65_1, .string x65_2, .slice x65_3p x65_3l x65_3c, .slice x65_4p x65_4l x65_4c, .string x65_5]⟩] w13 [.one .bool] fun (r66 : Bool) (w17 : World) =>
  condB (!r66) (
  J_73 true w17) (
  ldI .i64 w17 ⟨b9, 0, none⟩ fun x69_0 =>
  ldStr w17 ⟨b9, 1, none⟩ fun x69_1 =>
  ldStr w17 ⟨b9, 2, none⟩ fun x69_2 =>
  ldS w17 ⟨b9, 3, none⟩ fun x69_3p x69_3l x69_3c =>
  ldS w17 ⟨b9, 4, none⟩ fun x69_4p x69_4l x69_4c =>
  ldStr w17 ⟨b9, 5, none⟩ fun x69_5 =>
  ldI .i64 w17 ⟨b2, 0, none⟩ fun x70_0 =>
  ldStr w17 ⟨b2, 1, none⟩ fun x70_1 =>
  ldStr w17 ⟨b2, 2, none⟩ fun x70_2 =>
  ldS w17 ⟨b2, 3, none⟩ fun x70_3p x70_3l x70_3c =>
  ldS w17 ⟨b2, 4, none⟩ fun x70_4p x70_4l x70_4c =>
  ldStr w17 ⟨b2, 5, none⟩ fun x70_5 =>
  callJ Tryz.prog fn_tree_Equal #[.agg ⟨[.int .i64 x69_0, .string x69_1, .string x69_2, .slice x69_3p x69_3l x69_3c, .slice x69_4p x69_4l x69_4c, .string x69_5]⟩, .agg ⟨[.int .i64 x70_0, .string x70_1, .string x70_2, .slice x70_3p x70_3l x70_3c, .slice x70_4p x70_4l x70_4c, .string x70_5]⟩] w17 [.one .bool] fun (r71 : Bool) (w18 : World) =>
  J_73 (!r71) w18))))) fun J_44 =>
  ldI .i64 w5.drew ⟨b2, 0, none⟩ fun x16_0 =>
  ldStr w5.drew ⟨b2, 1, none⟩ fun x16_1 =>
  ldStr w5.drew ⟨b2, 2, none⟩ fun x16_2 =>
  ldS w5.drew ⟨b2, 3, none⟩ fun x16_3p x16_3l x16_3c =>
  ldS w5.drew ⟨b2, 4, none⟩ fun x16_4p x16_4l x16_4c =>
  ldStr w5.drew ⟨b2, 5, none⟩ fun x16_5 =>
  ldI .i64 w5.drew ⟨b3, 0, none⟩ fun x17_0 =>
  ldStr w5.drew ⟨b3, 1, none⟩ fun x17_1 =>
  ldStr w5.drew ⟨b3, 2, none⟩ fun x17_2 =>
  ldS w5.drew ⟨b3, 3, none⟩ fun x17_3p x17_3l x17_3c =>
  ldS w5.drew ⟨b3, 4, none⟩ fun x17_4p x17_4l x17_4c =>
  ldStr w5.drew ⟨b3, 5, none⟩ fun x17_5 =>
  ldI .i64 w5.drew ⟨b2, 0, none⟩ fun x19_0 =>
  ldStr w5.drew ⟨b2, 1, none⟩ fun x19_1 =>
  ldStr w5.drew ⟨b2, 2, none⟩ fun x19_2 =>
  ldS w5.drew ⟨b2, 3, none⟩ fun x19_3p x19_3l x19_3c =>
  ldS w5.drew ⟨b2, 4, none⟩ fun x19_4p x19_4l x19_4c =>
  ldStr w5.drew ⟨b2, 5, none⟩ fun x19_5 =>
  ldI .i64 w5.drew ⟨b3, 0, none⟩ fun x20_0 =>
  ldStr w5.drew ⟨b3, 1, none⟩ fun x20_1 =>
  ldStr w5.drew ⟨b3, 2, none⟩ fun x20_2 =>
  ldS w5.drew ⟨b3, 3, none⟩ fun x20_3p x20_3l x20_3c =>
  ldS w5.drew ⟨b3, 4, none⟩ fun x20_4p x20_4l x20_4c =>
  ldStr w5.drew ⟨b3, 5, none⟩ fun x20_5 =>
  callJ Tryz.prog fn_tree_Equal #[.agg ⟨[.int .i64 x16_0, .string x16_1, .string x16_2, .slice x16_3p x16_3l x16_3c, .slice x16_4p x16_4l x16_4c, .string x16_5]⟩, .agg ⟨[.int .i64 x17_0, .string x17_1, .string x17_2, .slice x17_3p x17_3l x17_3c, .slice x17_4p x17_4l x17_4c, .string x17_5]⟩] w5.drew [.one .bool] fun (r18 : Bool) (w19 : World) =>
  cellsAt w19 ⟨b3, 0, none⟩ [.int .i64 x20_0, .string x20_1, .string x20_2, .slice x20_3p x20_3l x20_3c, .slice x20_4p x20_4l x20_4c, .string x20_5] ∧
  cellsAt w19 ⟨b2, 0, none⟩ [.int .i64 x19_0, .string x19_1, .string x19_2, .slice x19_3p x19_3l x19_3c, .slice x19_4p x19_4l x19_4c, .string x19_5] ∧
  callJ Tryz.prog fn_ref05_Same #[.agg ⟨[.int .i64 x19_0, .string x19_1, .string x19_2, .slice x19_3p x19_3l x19_3c, .slice x19_4p x19_4l x19_4c, .string x19_5]⟩, .agg ⟨[.int .i64 x20_0, .string x20_1, .string x20_2, .slice x20_3p x20_3l x20_3c, .slice x20_4p x20_4l x20_4c, .string x20_5]⟩] w19 [.one .bool] fun (r21 : Bool) (w20 : World) =>
  condB (!(r18 == r21)) (
  J_44 true w20) (
  ldI .i64 w20 ⟨b2, 0, none⟩ fun x24_0 =>
  ldStr w20 ⟨b2, 1, none⟩ fun x24_1 =>
  ldStr w20 ⟨b2, 2, none⟩ fun x24_2 =>
  ldS w20 ⟨b2, 3, none⟩ fun x24_3p x24_3l x24_3c =>
  ldS w20 ⟨b2, 4, none⟩ fun x24_4p x24_4l x24_4c =>
  ldStr w20 ⟨b2, 5, none⟩ fun x24_5 =>
  ldI .i64 w20 ⟨b2, 0, none⟩ fun x26_0 =>
  ldStr w20 ⟨b2, 1, none⟩ fun x26_1 =>
  ldStr w20 ⟨b2, 2, none⟩ fun x26_2 =>
  ldS w20 ⟨b2, 3, none⟩ fun x26_3p x26_3l x26_3c =>
  ldS w20 ⟨b2, 4, none⟩ fun x26_4p x26_4l x26_4c =>
  ldStr w20 ⟨b2, 5, none⟩ fun x26_5 =>
  callJ Tryz.prog fn_tree_Size #[.agg ⟨[.int .i64 x24_0, .string x24_1, .string x24_2, .slice x24_3p x24_3l x24_3c, .slice x24_4p x24_4l x24_4c, .string x24_5]⟩] w20 [.one (.int .i64)] fun (r25 : Int) (w21 : World) =>
  cellsAt w21 ⟨b2, 0, none⟩ [.int .i64 x26_0, .string x26_1, .string x26_2, .slice x26_3p x26_3l x26_3c, .slice x26_4p x26_4l x26_4c, .string x26_5] ∧
  callJ Tryz.prog fn_ref05_Flat #[.agg ⟨[.int .i64 x26_0, .string x26_1, .string x26_2, .slice x26_3p x26_3l x26_3c, .slice x26_4p x26_4l x26_4c, .string x26_5]⟩] w21 [.one .slice] fun (r27p : Option Addr) (r27l : Nat) (r27c : Nat) (w22 : World) =>
  condB (r25 != ((r27l : Nat) : Int)) (
  J_44 true w22) (
  ldI .i64 w22 ⟨b2, 0, none⟩ fun x32_0 =>
  ldStr w22 ⟨b2, 1, none⟩ fun x32_1 =>
  ldStr w22 ⟨b2, 2, none⟩ fun x32_2 =>
  ldS w22 ⟨b2, 3, none⟩ fun x32_3p x32_3l x32_3c =>
  ldS w22 ⟨b2, 4, none⟩ fun x32_4p x32_4l x32_4c =>
  ldStr w22 ⟨b2, 5, none⟩ fun x32_5 =>
  ldI .i64 w22 ⟨b2, 0, none⟩ fun x34_0 =>
  ldStr w22 ⟨b2, 1, none⟩ fun x34_1 =>
  ldStr w22 ⟨b2, 2, none⟩ fun x34_2 =>
  ldS w22 ⟨b2, 3, none⟩ fun x34_3p x34_3l x34_3c =>
  ldS w22 ⟨b2, 4, none⟩ fun x34_4p x34_4l x34_4c =>
  ldStr w22 ⟨b2, 5, none⟩ fun x34_5 =>
  callJ Tryz.prog fn_tree_Depth #[.agg ⟨[.int .i64 x32_0, .string x32_1, .string x32_2, .slice x32_3p x32_3l x32_3c, .slice x32_4p x32_4l x32_4c, .string x32_5]⟩] w22 [.one (.int .i64)] fun (r33 : Int) (w23 : World) =>
  cellsAt w23 ⟨b2, 0, none⟩ [.int .i64 x34_0, .string x34_1, .string x34_2, .slice x34_3p x34_3l x34_3c, .slice x34_4p x34_4l x34_4c, .string x34_5] ∧
  callJ Tryz.prog fn_ref05_Deep #[.agg ⟨[.int .i64 x34_0, .string x34_1, .string x34_2, .slice x34_3p x34_3l x34_3c, .slice x34_4p x34_4l x34_4c, .string x34_5]⟩] w23 [.one (.int .i64)] fun (r35 : Int) (w24 : World) =>
  condB (r33 != r35) (
  J_44 true w24) (
  J_44 (((r13l : Nat) : Int) != ((r15l : Nat) : Int)) w24))))
def ann_law05_TreeTells : Ann := .s (.o) (.s (.s (.o) (.c (.s (.o) (.o)) (.o))) (.s (.d (.take 0 (.take 2 (.eff 1 (.eff 3 (.take 4 (.take 5 (.done))) (.none)) (.none))))) (.s (.j [(44, .bool)] (.d (.take 0 (.take 1 (.take 3 (.take 4 (.eff 2 (.eff 5 (.take 6 (.take 7 (.take 8 (.take 10 (.eff 9 (.eff 11 (.take 12 (.take 13 (.take 14 (.take 15 (.take 16 (.take 18 (.eff 17 (.eff 19 (.take 20 (.take 21 (.take 22 (.take 23 (.take 24 (.take 25 (.take 26 (.take 27 (.take 28 (.done)))))))))) (.none)) (.none)))))))) (.none)) (.none)))))) (.none)) (.none))))))) (.c (.s (.o) (.o)) (.o))) (.s (.s (.o) (.b (.l [(47, .int .i64)] (.s (.o) (.s (.c (.o) (.o)) (.s (.b (.s (.o) (.s (.d (.take 0 (.take 1 (.take 2 (.take 3 (.take 4 (.take 5 (.take 6 (.take 7 (.take 8 (.done))))))))))) (.c (.s (.o) (.o)) (.o))))) (.o))))))) (.s (.o) (.s (.o) (.s (.j [(73, .bool)] (.o) (.c (.s (.o) (.o)) (.o))) (.s (.o) (.s (.o) (.o))))))))))
theorem eq_law05_TreeTells (a0_0 : Int) (a0_1 : ByteArray) (a0_2 : ByteArray) (a0_3p : Option Addr) (a0_3l : Nat) (a0_3c : Nat) (a0_4p : Option Addr) (a0_4l : Nat) (a0_4c : Nat) (a0_5 : ByteArray) (b1_0 : Int) (b1_1 : ByteArray) (b1_2 : ByteArray) (b1_3p : Option Addr) (b1_3l : Nat) (b1_3c : Nat) (b1_4p : Option Addr) (b1_4l : Nat) (b1_4c : Nat) (b1_5 : ByteArray) (w : World) (J : Bool → World → Prop) : vcFun Tryz.prog Tryz.f5 ann_law05_TreeTells [.one .bool] [.agg ⟨[.int .i64 a0_0, .string a0_1, .string a0_2, .slice a0_3p a0_3l a0_3c, .slice a0_4p a0_4l a0_4c, .string a0_5]⟩, .agg ⟨[.int .i64 b1_0, .string b1_1, .string b1_2, .slice b1_3p b1_3l b1_3c, .slice b1_4p b1_4l b1_4c, .string b1_5]⟩] w J = VC_law05_TreeTells a0_0 a0_1 a0_2 a0_3p a0_3l a0_3c a0_4p a0_4l a0_4c a0_5 b1_0 b1_1 b1_2 b1_3p b1_3l b1_3c b1_4p b1_4l b1_4c b1_5 w J := by kernel_rfl
theorem c_law05_TreeTells {a0_0 : Int} {a0_1 : ByteArray} {a0_2 : ByteArray} {a0_3p : Option Addr} {a0_3l : Nat} {a0_3c : Nat} {a0_4p : Option Addr} {a0_4l : Nat} {a0_4c : Nat} {a0_5 : ByteArray} {b1_0 : Int} {b1_1 : ByteArray} {b1_2 : ByteArray} {b1_3p : Option Addr} {b1_3l : Nat} {b1_3c : Nat} {b1_4p : Option Addr} {b1_4l : Nat} {b1_4c : Nat} {b1_5 : ByteArray} {w : World} {J : Bool → World → Prop} (h : VC_law05_TreeTells a0_0 a0_1 a0_2 a0_3p a0_3l a0_3c a0_4p a0_4l a0_4c a0_5 b1_0 b1_1 b1_2 b1_3p b1_3l b1_3c b1_4p b1_4l b1_4c b1_5 w J) : callJ Tryz.prog fn_law05_TreeTells #[.agg ⟨[.int .i64 a0_0, .string a0_1, .string a0_2, .slice a0_3p a0_3l a0_3c, .slice a0_4p a0_4l a0_4c, .string a0_5]⟩, .agg ⟨[.int .i64 b1_0, .string b1_1, .string b1_2, .slice b1_3p b1_3l b1_3c, .slice b1_4p b1_4l b1_4c, .string b1_5]⟩] w [.one .bool] J := vc_calls Tryz.func5 ann_law05_TreeTells (Eq.mpr (eq_law05_TreeTells a0_0 a0_1 a0_2 a0_3p a0_3l a0_3c a0_4p a0_4l a0_4c a0_5 b1_0 b1_1 b1_2 b1_3p b1_3l b1_3c b1_4p b1_4l b1_4c b1_5 w J) h)

end Go.Proofs.YtmmfookfpdcohaaGreatDoor
