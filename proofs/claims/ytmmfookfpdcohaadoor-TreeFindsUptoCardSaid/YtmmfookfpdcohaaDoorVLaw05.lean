/- What the conditions of these functions are, reckoned by the reading; printed by program. -/
import Derived.Test.YtmmfookfpdcohaaDoorNm
import Derived.KernelRfl
set_option maxRecDepth 100000
set_option linter.unusedVariables false
namespace Go.Proofs.YtmmfookfpdcohaaDoor
open Go Go.Vc

/-- lectern/lecternlaw05.awake -/
def VC_law05_awake  (w : World) (J : Bool → World → Prop) : Prop :=
  callJ Tryd.prog fn_law05_little #[] w [.agg [.int .i64, .str, .str, .slice, .slice, .str]] fun (r3_0 : Int) (r3_1 : ByteArray) (r3_2 : ByteArray) (r3_3p : Option Addr) (r3_3l : Nat) (r3_3c : Nat) (r3_4p : Option Addr) (r3_4l : Nat) (r3_4c : Nat) (r3_5 : ByteArray) (w1 : World) =>
  newB w1 (.cells (zeroC Tryd.prog T_api_Node) T_api_Node) fun b1 w2 =>
  stN w2 ⟨b1, 0, none⟩ ⟨[.int .i64 r3_0, .string r3_1, .string r3_2, .slice r3_3p r3_3l r3_3c, .slice r3_4p r3_4l r3_4c, .string r3_5]⟩ 6 fun w3 =>
  ldI .i64 w3 ⟨b1, 0, none⟩ fun x4_0 =>
  ldStr w3 ⟨b1, 1, none⟩ fun x4_1 =>
  ldStr w3 ⟨b1, 2, none⟩ fun x4_2 =>
  ldS w3 ⟨b1, 3, none⟩ fun x4_3p x4_3l x4_3c =>
  ldS w3 ⟨b1, 4, none⟩ fun x4_4p x4_4l x4_4c =>
  ldStr w3 ⟨b1, 5, none⟩ fun x4_5 =>
  callJ Tryd.prog fn_tree_Spaces #[.agg ⟨[.int .i64 x4_0, .string x4_1, .string x4_2, .slice x4_3p x4_3l x4_3c, .slice x4_4p x4_4l x4_4c, .string x4_5]⟩] w3 [.one .slice] fun (r5p : Option Addr) (r5l : Nat) (r5c : Nat) (w4 : World) =>
  withJ (fun (x0 : Bool) (w5 : World) =>
  J x0 w5) fun J_0 =>
  ldI .i64 w4 ⟨b1, 0, none⟩ fun x6_0 =>
  ldStr w4 ⟨b1, 1, none⟩ fun x6_1 =>
  ldStr w4 ⟨b1, 2, none⟩ fun x6_2 =>
  ldS w4 ⟨b1, 3, none⟩ fun x6_3p x6_3l x6_3c =>
  ldS w4 ⟨b1, 4, none⟩ fun x6_4p x6_4l x6_4c =>
  ldStr w4 ⟨b1, 5, none⟩ fun x6_5 =>
  callJ Tryd.prog fn_tree_Check #[.agg ⟨[.int .i64 x6_0, .string x6_1, .string x6_2, .slice x6_3p x6_3l x6_3c, .slice x6_4p x6_4l x6_4c, .string x6_5]⟩] w4 [.one (.int .i64)] fun (r7 : Int) (w6 : World) =>
  condB (r7 == (0 : Int)) (
  ldI .i64 w6 ⟨b1, 0, none⟩ fun x10_0 =>
  ldStr w6 ⟨b1, 1, none⟩ fun x10_1 =>
  ldStr w6 ⟨b1, 2, none⟩ fun x10_2 =>
  ldS w6 ⟨b1, 3, none⟩ fun x10_3p x10_3l x10_3c =>
  ldS w6 ⟨b1, 4, none⟩ fun x10_4p x10_4l x10_4c =>
  ldStr w6 ⟨b1, 5, none⟩ fun x10_5 =>
  callJ Tryd.prog fn_tree_Size #[.agg ⟨[.int .i64 x10_0, .string x10_1, .string x10_2, .slice x10_3p x10_3l x10_3c, .slice x10_4p x10_4l x10_4c, .string x10_5]⟩] w6 [.one (.int .i64)] fun (r11 : Int) (w7 : World) =>
  condB (r11 == (4 : Int)) (
  ldI .i64 w7 ⟨b1, 0, none⟩ fun x15_0 =>
  ldStr w7 ⟨b1, 1, none⟩ fun x15_1 =>
  ldStr w7 ⟨b1, 2, none⟩ fun x15_2 =>
  ldS w7 ⟨b1, 3, none⟩ fun x15_3p x15_3l x15_3c =>
  ldS w7 ⟨b1, 4, none⟩ fun x15_4p x15_4l x15_4c =>
  ldStr w7 ⟨b1, 5, none⟩ fun x15_5 =>
  callJ Tryd.prog fn_tree_Depth #[.agg ⟨[.int .i64 x15_0, .string x15_1, .string x15_2, .slice x15_3p x15_3l x15_3c, .slice x15_4p x15_4l x15_4c, .string x15_5]⟩] w7 [.one (.int .i64)] fun (r16 : Int) (w8 : World) =>
  condB (r16 == (3 : Int)) (
  condB (((r5l : Nat) : Int) == (1 : Int)) (
  idxA r5p r5l (0 : Int) fun a26 =>
  ldStr w8 ((a26.add ((0 : Int).toNat * 1))) fun x27 =>
  condB (x27.toList == (⟨#[117]⟩ : ByteArray).toList) (
  callJ Tryd.prog fn_tree_Check #[.agg ⟨[.int .i64 (1 : Int), .string ByteArray.empty, .string ByteArray.empty, .slice none 0 0, .slice none 0 0, .string ByteArray.empty]⟩] w8 [.one (.int .i64)] fun (r32 : Int) (w9 : World) =>
  J_0 (r32 == (30 : Int)) w9) (
  J_0 false w8)) (
  J_0 false w8)) (
  J_0 false w8)) (
  J_0 false w7)) (
  J_0 false w6)
def ann_law05_awake : Ann := .s (.o) (.s (.o) (.s (.o) (.j [(0, .bool)] (.o) (.o))))
theorem eq_law05_awake  (w : World) (J : Bool → World → Prop) : vcFun Tryd.prog Tryd.f7 ann_law05_awake [.one .bool] [] w J = VC_law05_awake  w J := by kernel_rfl
theorem c_law05_awake {w : World} {J : Bool → World → Prop} (h : VC_law05_awake  w J) : callJ Tryd.prog fn_law05_awake #[] w [.one .bool] J := vc_calls Tryd.func7 ann_law05_awake (Eq.mpr (eq_law05_awake  w J) h)

/-- lectern/lecternlaw05.little -/
def VC_law05_little  (w : World) (J : Int → ByteArray → ByteArray → Option Addr → Nat → Nat → Option Addr → Nat → Nat → ByteArray → World → Prop) : Prop :=
  newB w (.cells (zeroC Tryd.prog T_api_Node) T_api_Node) fun b0 w1 =>
  Array.size (⟨[.string ByteArray.empty, .string ⟨#[98]⟩]⟩ : Array Value) = 2 ∧
  Array.size (⟨[.string ByteArray.empty, .string ⟨#[98]⟩, .string ⟨#[49]⟩]⟩ : Array Value) = 3 ∧
  newB w1 (.cells ⟨[.string ByteArray.empty, .string ⟨#[98]⟩, .string ⟨#[49]⟩]⟩ T_api_Attr) fun b5 w2 =>
  Array.size (⟨[.string ⟨#[117]⟩, .string ⟨#[97]⟩]⟩ : Array Value) = 2 ∧
  newB w2 (.cells (zeroC Tryd.prog T_api_Node) T_api_Node) fun b1 w3 =>
  stN w3 ⟨b1, 0, none⟩ ⟨[.int .i64 (2 : Int), .string ⟨#[117]⟩, .string ⟨#[97]⟩, .slice (some ⟨b5, 0, none⟩) 1 1, .slice none 0 0, .string ByteArray.empty]⟩ 6 fun w4 =>
  Array.size (⟨[.string ByteArray.empty, .string ⟨#[99]⟩]⟩ : Array Value) = 2 ∧
  Array.size (⟨[.int .i64 (3 : Int), .string ByteArray.empty, .string ByteArray.empty, .slice none 0 0, .slice none 0 0, .string ⟨#[120]⟩]⟩ : Array Value) = 6 ∧
  Array.size (⟨[.int .i64 (2 : Int), .string ByteArray.empty, .string ⟨#[99]⟩, .slice none 0 0, .slice none 0 0, .string ByteArray.empty]⟩ : Array Value) = 6 ∧
  newB w4 (.cells ⟨[.int .i64 (3 : Int), .string ByteArray.empty, .string ByteArray.empty, .slice none 0 0, .slice none 0 0, .string ⟨#[120]⟩, .int .i64 (2 : Int), .string ByteArray.empty, .string ⟨#[99]⟩, .slice none 0 0, .slice none 0 0, .string ByteArray.empty]⟩ T_api_Node) fun b10 w5 =>
  stV w5 ⟨b1, 4, none⟩ (.slice (some ⟨b10, 0, none⟩) 2 2) fun w6 =>
  ldI .i64 w6 ⟨b1, 0, none⟩ fun x12_0 =>
  ldStr w6 ⟨b1, 1, none⟩ fun x12_1 =>
  ldStr w6 ⟨b1, 2, none⟩ fun x12_2 =>
  ldS w6 ⟨b1, 3, none⟩ fun x12_3p x12_3l x12_3c =>
  ldS w6 ⟨b1, 4, none⟩ fun x12_4p x12_4l x12_4c =>
  ldStr w6 ⟨b1, 5, none⟩ fun x12_5 =>
  Array.size (⟨[.int .i64 x12_0, .string x12_1, .string x12_2, .slice x12_3p x12_3l x12_3c, .slice x12_4p x12_4l x12_4c, .string x12_5]⟩ : Array Value) = 6 ∧
  newB w6 (.cells ⟨[.int .i64 x12_0, .string x12_1, .string x12_2, .slice x12_3p x12_3l x12_3c, .slice x12_4p x12_4l x12_4c, .string x12_5]⟩ T_api_Node) fun b13 w7 =>
  stN w7 ⟨b0, 0, none⟩ ⟨[.int .i64 (1 : Int), .string ByteArray.empty, .string ByteArray.empty, .slice none 0 0, .slice (some ⟨b13, 0, none⟩) 1 1, .string ByteArray.empty]⟩ 6 fun w8 =>
  ldI .i64 w8 ⟨b0, 0, none⟩ fun r_0 =>
  ldStr w8 ⟨b0, 1, none⟩ fun r_1 =>
  ldStr w8 ⟨b0, 2, none⟩ fun r_2 =>
  ldS w8 ⟨b0, 3, none⟩ fun r_3p r_3l r_3c =>
  ldS w8 ⟨b0, 4, none⟩ fun r_4p r_4l r_4c =>
  ldStr w8 ⟨b0, 5, none⟩ fun r_5 =>
  J r_0 r_1 r_2 r_3p r_3l r_3c r_4p r_4l r_4c r_5 w8
def ann_law05_little : Ann := .s (.o) (.s (.o) (.s (.o) (.s (.o) (.o))))
theorem eq_law05_little  (w : World) (J : Int → ByteArray → ByteArray → Option Addr → Nat → Nat → Option Addr → Nat → Nat → ByteArray → World → Prop) : vcFun Tryd.prog Tryd.f20 ann_law05_little [.agg [.int .i64, .str, .str, .slice, .slice, .str]] [] w J = VC_law05_little  w J := by kernel_rfl
theorem c_law05_little {w : World} {J : Int → ByteArray → ByteArray → Option Addr → Nat → Nat → Option Addr → Nat → Nat → ByteArray → World → Prop} (h : VC_law05_little  w J) : callJ Tryd.prog fn_law05_little #[] w [.agg [.int .i64, .str, .str, .slice, .slice, .str]] J := vc_calls Tryd.func20 ann_law05_little (Eq.mpr (eq_law05_little  w J) h)

/-- lectern/lecternlaw05.spoil -/
def VC_law05_spoil (n0_0 : Int) (n0_1 : ByteArray) (n0_2 : ByteArray) (n0_3p : Option Addr) (n0_3l : Nat) (n0_3c : Nat) (n0_4p : Option Addr) (n0_4l : Nat) (n0_4c : Nat) (n0_5 : ByteArray) (w : World) (J : World → Prop) : Prop :=
  newB w (.cells ⟨[.int .i64 n0_0, .string n0_1, .string n0_2, .slice n0_3p n0_3l n0_3c, .slice n0_4p n0_4l n0_4c, .string n0_5]⟩ T_api_Node) fun b1 w1 =>
  ldS w1 ⟨b1, 3, none⟩ fun x5p x5l x5c =>
  ∃ I_7 : Int → World → Nat → Prop, (∃ m : Nat, I_7 (0 : Int) w1 m) ∧ ∀ (x7 : Int) (w2 : World) (m : Nat), I_7 x7 w2 m → (
  condB (decide (x7 < ((x5l : Nat) : Int))) (
  ldS w2 ⟨b1, 3, none⟩ fun x11p x11l x11c =>
  idxA x11p x11l x7 fun a14 =>
  stN w2 ((a14.add (x7.toNat * 3))) ⟨[.string ByteArray.empty, .string ByteArray.empty, .string ⟨#[103, 111, 110, 101]⟩]⟩ 3 fun w3 =>
  ∃ m' : Nat, m' < m ∧ I_7 (w64 (x7 + (1 : Int))) w3 m') (
  ldS w2 ⟨b1, 4, none⟩ fun x17p x17l x17c =>
  ∃ I_19 : Int → World → Nat → Prop, (∃ m : Nat, I_19 (0 : Int) w2 m) ∧ ∀ (x19 : Int) (w4 : World) (m_1 : Nat), I_19 x19 w4 m_1 → (
  condB (decide (x19 < ((x17l : Nat) : Int))) (
  ldS w4 ⟨b1, 4, none⟩ fun x23p x23l x23c =>
  idxA x23p x23l x19 fun a25 =>
  ldI .i64 w4 ((a25.add (x19.toNat * 6))) fun x26_0 =>
  ldStr w4 (((a25.add (x19.toNat * 6)).add 1)) fun x26_1 =>
  ldStr w4 (((a25.add (x19.toNat * 6)).add 2)) fun x26_2 =>
  ldS w4 (((a25.add (x19.toNat * 6)).add 3)) fun x26_3p x26_3l x26_3c =>
  ldS w4 (((a25.add (x19.toNat * 6)).add 4)) fun x26_4p x26_4l x26_4c =>
  ldStr w4 (((a25.add (x19.toNat * 6)).add 5)) fun x26_5 =>
  callJ Tryd.prog fn_law05_spoil #[.agg ⟨[.int .i64 x26_0, .string x26_1, .string x26_2, .slice x26_3p x26_3l x26_3c, .slice x26_4p x26_4l x26_4c, .string x26_5]⟩] w4 [] fun (w5 : World) =>
  ldS w5 ⟨b1, 4, none⟩ fun x29p x29l x29c =>
  idxA x29p x29l x19 fun a32 =>
  stN w5 ((a32.add (x19.toNat * 6))) ⟨[.int .i64 (0 : Int), .string ByteArray.empty, .string ByteArray.empty, .slice none 0 0, .slice none 0 0, .string ⟨#[103, 111, 110, 101]⟩]⟩ 6 fun w6 =>
  ∃ m' : Nat, m' < m_1 ∧ I_19 (w64 (x19 + (1 : Int))) w6 m') (
  J w4))))
def ann_law05_spoil : Ann := .s (.o) (.s (.s (.o) (.b (.l [(7, .int .i64)] (.s (.o) (.s (.c (.o) (.o)) (.s (.b (.s (.o) (.o))) (.o))))))) (.s (.o) (.b (.l [(19, .int .i64)] (.s (.o) (.s (.c (.o) (.o)) (.s (.b (.s (.o) (.s (.o) (.o)))) (.o))))))))
theorem eq_law05_spoil (n0_0 : Int) (n0_1 : ByteArray) (n0_2 : ByteArray) (n0_3p : Option Addr) (n0_3l : Nat) (n0_3c : Nat) (n0_4p : Option Addr) (n0_4l : Nat) (n0_4c : Nat) (n0_5 : ByteArray) (w : World) (J : World → Prop) : vcFun Tryd.prog Tryd.f19 ann_law05_spoil [] [.agg ⟨[.int .i64 n0_0, .string n0_1, .string n0_2, .slice n0_3p n0_3l n0_3c, .slice n0_4p n0_4l n0_4c, .string n0_5]⟩] w J = VC_law05_spoil n0_0 n0_1 n0_2 n0_3p n0_3l n0_3c n0_4p n0_4l n0_4c n0_5 w J := by kernel_rfl
theorem c_law05_spoil {n0_0 : Int} {n0_1 : ByteArray} {n0_2 : ByteArray} {n0_3p : Option Addr} {n0_3l : Nat} {n0_3c : Nat} {n0_4p : Option Addr} {n0_4l : Nat} {n0_4c : Nat} {n0_5 : ByteArray} {w : World} {J : World → Prop} (h : VC_law05_spoil n0_0 n0_1 n0_2 n0_3p n0_3l n0_3c n0_4p n0_4l n0_4c n0_5 w J) : callJ Tryd.prog fn_law05_spoil #[.agg ⟨[.int .i64 n0_0, .string n0_1, .string n0_2, .slice n0_3p n0_3l n0_3c, .slice n0_4p n0_4l n0_4c, .string n0_5]⟩] w [] J := vc_calls Tryd.func19 ann_law05_spoil (Eq.mpr (eq_law05_spoil n0_0 n0_1 n0_2 n0_3p n0_3l n0_3c n0_4p n0_4l n0_4c n0_5 w J) h)

/-- lectern/lecternlaw05.bare -/
def VC_law05_bare (n0_0 : Int) (n0_1 : ByteArray) (n0_2 : ByteArray) (n0_3p : Option Addr) (n0_3l : Nat) (n0_3c : Nat) (n0_4p : Option Addr) (n0_4l : Nat) (n0_4c : Nat) (n0_5 : ByteArray) (w : World) (J : Int → ByteArray → ByteArray → Option Addr → Nat → Nat → Option Addr → Nat → Nat → ByteArray → World → Prop) : Prop :=
  newB w (.cells ⟨[.int .i64 n0_0, .string n0_1, .string n0_2, .slice n0_3p n0_3l n0_3c, .slice n0_4p n0_4l n0_4c, .string n0_5]⟩ T_api_Node) fun b1 w1 =>
  newB w1 (.cells (zeroC Tryd.prog T_api_Node) T_api_Node) fun b2 w2 =>
  ldS w2 ⟨b1, 4, none⟩ fun x7p x7l x7c =>
  stV w2 ⟨b1, 4, none⟩ (.slice none 0 0) fun w3 =>
  ∃ I_11 : Int → World → Nat → Prop, (∃ m : Nat, I_11 (0 : Int) w3 m) ∧ ∀ (x11 : Int) (w4 : World) (m : Nat), I_11 x11 w4 m → (
  condB (decide (x11 < ((x7l : Nat) : Int))) (
  withJ (fun (w5 : World) =>
  ∃ m' : Nat, m' < m ∧ I_11 (w64 (x11 + (1 : Int))) w5 m') fun J_0 =>
  idxA x7p x7l x11 fun a13 =>
  ldI .i64 w4 ((a13.add (x11.toNat * 6))) fun x14_0 =>
  ldStr w4 (((a13.add (x11.toNat * 6)).add 1)) fun x14_1 =>
  ldStr w4 (((a13.add (x11.toNat * 6)).add 2)) fun x14_2 =>
  ldS w4 (((a13.add (x11.toNat * 6)).add 3)) fun x14_3p x14_3l x14_3c =>
  ldS w4 (((a13.add (x11.toNat * 6)).add 4)) fun x14_4p x14_4l x14_4c =>
  ldStr w4 (((a13.add (x11.toNat * 6)).add 5)) fun x14_5 =>
  newB w4 (.cells (zeroC Tryd.prog T_api_Node) T_api_Node) fun b5 w6 =>
  stN w6 ⟨b5, 0, none⟩ ⟨[.int .i64 x14_0, .string x14_1, .string x14_2, .slice x14_3p x14_3l x14_3c, .slice x14_4p x14_4l x14_4c, .string x14_5]⟩ 6 fun w7 =>
  withJ (fun (x22 : Bool) (w8 : World) =>
  condB x22 (
  ldS w8.drew ⟨b1, 4, none⟩ fun x24p x24l x24c =>
  ldI .i64 w8.drew ⟨b5, 0, none⟩ fun x25_0 =>
  ldStr w8.drew ⟨b5, 1, none⟩ fun x25_1 =>
  ldStr w8.drew ⟨b5, 2, none⟩ fun x25_2 =>
  ldS w8.drew ⟨b5, 3, none⟩ fun x25_3p x25_3l x25_3c =>
  ldS w8.drew ⟨b5, 4, none⟩ fun x25_4p x25_4l x25_4c =>
  ldStr w8.drew ⟨b5, 5, none⟩ fun x25_5 =>
  callJ Tryd.prog fn_law05_bare #[.agg ⟨[.int .i64 x25_0, .string x25_1, .string x25_2, .slice x25_3p x25_3l x25_3c, .slice x25_4p x25_4l x25_4c, .string x25_5]⟩] w8.drew [.agg [.int .i64, .str, .str, .slice, .slice, .str]] fun (r26_0 : Int) (r26_1 : ByteArray) (r26_2 : ByteArray) (r26_3p : Option Addr) (r26_3l : Nat) (r26_3c : Nat) (r26_4p : Option Addr) (r26_4l : Nat) (r26_4c : Nat) (r26_5 : ByteArray) (w9 : World) =>
  w9.cell? ⟨b1, 4, none⟩ = some (.slice x24p x24l x24c) ∧
  Array.size (⟨[.int .i64 r26_0, .string r26_1, .string r26_2, .slice r26_3p r26_3l r26_3c, .slice r26_4p r26_4l r26_4c, .string r26_5]⟩ : Array Value) = 6 ∧
  newB w9 (.cells ⟨[.int .i64 r26_0, .string r26_1, .string r26_2, .slice r26_3p r26_3l r26_3c, .slice r26_4p r26_4l r26_4c, .string r26_5]⟩ T_api_Node) fun b27 w10 =>
  w10.cell? ⟨b1, 4, none⟩ = some (.slice x24p x24l x24c) ∧
  appJ Tryd.prog T_sl_api_Node T_sl_api_Node (.slice x24p x24l x24c) (.slice (some ⟨b27, 0, none⟩) 1 1) w10 fun q28p q28l q28c w11 =>
  stV w11 ⟨b1, 4, none⟩ (.slice q28p q28l q28c) fun w12 =>
  J_0 w12) (
  J_0 w8)) fun J_22 =>
  ldI .i64 w7 ⟨b5, 0, none⟩ fun x16 =>
  condB (x16 != (4 : Int)) (
  ldI .i64 w7 ⟨b5, 0, none⟩ fun x20 =>
  J_22 (x20 != (5 : Int)) w7) (
  J_22 false w7)) (
  ldI .i64 w4 ⟨b1, 0, none⟩ fun x31_0 =>
  ldStr w4 ⟨b1, 1, none⟩ fun x31_1 =>
  ldStr w4 ⟨b1, 2, none⟩ fun x31_2 =>
  ldS w4 ⟨b1, 3, none⟩ fun x31_3p x31_3l x31_3c =>
  ldS w4 ⟨b1, 4, none⟩ fun x31_4p x31_4l x31_4c =>
  ldStr w4 ⟨b1, 5, none⟩ fun x31_5 =>
  stN w4 ⟨b2, 0, none⟩ ⟨[.int .i64 x31_0, .string x31_1, .string x31_2, .slice x31_3p x31_3l x31_3c, .slice x31_4p x31_4l x31_4c, .string x31_5]⟩ 6 fun w13 =>
  ldI .i64 w13 ⟨b2, 0, none⟩ fun r_0 =>
  ldStr w13 ⟨b2, 1, none⟩ fun r_1 =>
  ldStr w13 ⟨b2, 2, none⟩ fun r_2 =>
  ldS w13 ⟨b2, 3, none⟩ fun r_3p r_3l r_3c =>
  ldS w13 ⟨b2, 4, none⟩ fun r_4p r_4l r_4c =>
  ldStr w13 ⟨b2, 5, none⟩ fun r_5 =>
  J r_0 r_1 r_2 r_3p r_3l r_3c r_4p r_4l r_4c r_5 w13))
def ann_law05_bare : Ann := .s (.o) (.s (.o) (.s (.o) (.s (.s (.o) (.b (.l [(11, .int .i64)] (.s (.o) (.s (.c (.o) (.o)) (.j [] (.b (.s (.o) (.j [(22, .bool)] (.o) (.c (.d (.take 0 (.take 1 (.take 2 (.eff 3 (.eff 4 (.eff 5 (.take 6 (.eff 7 (.done) (.none))) (.none)) (.none)) (.none)))))) (.o))))) (.o))))))) (.s (.o) (.o)))))
theorem eq_law05_bare (n0_0 : Int) (n0_1 : ByteArray) (n0_2 : ByteArray) (n0_3p : Option Addr) (n0_3l : Nat) (n0_3c : Nat) (n0_4p : Option Addr) (n0_4l : Nat) (n0_4c : Nat) (n0_5 : ByteArray) (w : World) (J : Int → ByteArray → ByteArray → Option Addr → Nat → Nat → Option Addr → Nat → Nat → ByteArray → World → Prop) : vcFun Tryd.prog Tryd.f11 ann_law05_bare [.agg [.int .i64, .str, .str, .slice, .slice, .str]] [.agg ⟨[.int .i64 n0_0, .string n0_1, .string n0_2, .slice n0_3p n0_3l n0_3c, .slice n0_4p n0_4l n0_4c, .string n0_5]⟩] w J = VC_law05_bare n0_0 n0_1 n0_2 n0_3p n0_3l n0_3c n0_4p n0_4l n0_4c n0_5 w J := by kernel_rfl
theorem c_law05_bare {n0_0 : Int} {n0_1 : ByteArray} {n0_2 : ByteArray} {n0_3p : Option Addr} {n0_3l : Nat} {n0_3c : Nat} {n0_4p : Option Addr} {n0_4l : Nat} {n0_4c : Nat} {n0_5 : ByteArray} {w : World} {J : Int → ByteArray → ByteArray → Option Addr → Nat → Nat → Option Addr → Nat → Nat → ByteArray → World → Prop} (h : VC_law05_bare n0_0 n0_1 n0_2 n0_3p n0_3l n0_3c n0_4p n0_4l n0_4c n0_5 w J) : callJ Tryd.prog fn_law05_bare #[.agg ⟨[.int .i64 n0_0, .string n0_1, .string n0_2, .slice n0_3p n0_3l n0_3c, .slice n0_4p n0_4l n0_4c, .string n0_5]⟩] w [.agg [.int .i64, .str, .str, .slice, .slice, .str]] J := vc_calls Tryd.func11 ann_law05_bare (Eq.mpr (eq_law05_bare n0_0 n0_1 n0_2 n0_3p n0_3l n0_3c n0_4p n0_4l n0_4c n0_5 w J) h)

/-- lectern/lecternlaw05.TreeOrders -/
def VC_law05_TreeOrders (a0_0 : ByteArray) (a0_1 : ByteArray) (b1_0 : ByteArray) (b1_1 : ByteArray) (c2_0 : ByteArray) (c2_1 : ByteArray) (w : World) (J : Bool → World → Prop) : Prop :=
  newB w (.cells ⟨[.string a0_0, .string a0_1]⟩ T_api_Name) fun b3 w1 =>
  newB w1 (.cells ⟨[.string b1_0, .string b1_1]⟩ T_api_Name) fun b4 w2 =>
  newB w2 (.cells ⟨[.string c2_0, .string c2_1]⟩ T_api_Name) fun b5 w3 =>
  callJ Tryd.prog fn_law05_awake #[] w3 [.one .bool] fun (r10 : Bool) (w4 : World) =>
  condB (!r10) (
  J false w4) (
  ldStr w4.drew ⟨b3, 0, none⟩ fun x12_0 =>
  ldStr w4.drew ⟨b3, 1, none⟩ fun x12_1 =>
  ldStr w4.drew ⟨b4, 0, none⟩ fun x13_0 =>
  ldStr w4.drew ⟨b4, 1, none⟩ fun x13_1 =>
  ldStr w4.drew ⟨b4, 0, none⟩ fun x15_0 =>
  ldStr w4.drew ⟨b4, 1, none⟩ fun x15_1 =>
  ldStr w4.drew ⟨b5, 0, none⟩ fun x16_0 =>
  ldStr w4.drew ⟨b5, 1, none⟩ fun x16_1 =>
  ldStr w4.drew ⟨b3, 0, none⟩ fun x18_0 =>
  ldStr w4.drew ⟨b3, 1, none⟩ fun x18_1 =>
  ldStr w4.drew ⟨b5, 0, none⟩ fun x19_0 =>
  ldStr w4.drew ⟨b5, 1, none⟩ fun x19_1 =>
  callJ Tryd.prog fn_tree_Order #[.agg ⟨[.string x12_0, .string x12_1]⟩, .agg ⟨[.string x13_0, .string x13_1]⟩] w4.drew [.one (.int .i64)] fun (r14 : Int) (w5 : World) =>
  cellsAt w5 ⟨b5, 0, none⟩ [.string x19_0, .string x19_1] ∧
  cellsAt w5 ⟨b3, 0, none⟩ [.string x18_0, .string x18_1] ∧
  cellsAt w5 ⟨b5, 0, none⟩ [.string x16_0, .string x16_1] ∧
  cellsAt w5 ⟨b4, 0, none⟩ [.string x15_0, .string x15_1] ∧
  callJ Tryd.prog fn_tree_Order #[.agg ⟨[.string x15_0, .string x15_1]⟩, .agg ⟨[.string x16_0, .string x16_1]⟩] w5 [.one (.int .i64)] fun (r17 : Int) (w6 : World) =>
  cellsAt w6 ⟨b5, 0, none⟩ [.string x19_0, .string x19_1] ∧
  cellsAt w6 ⟨b3, 0, none⟩ [.string x18_0, .string x18_1] ∧
  callJ Tryd.prog fn_tree_Order #[.agg ⟨[.string x18_0, .string x18_1]⟩, .agg ⟨[.string x19_0, .string x19_1]⟩] w6 [.one (.int .i64)] fun (r20 : Int) (w7 : World) =>
  withJ (fun (x50 : Bool) (w8 : World) =>
  condB x50 (
  J false w8) (
  withJ (fun (x6 : Bool) (w9 : World) =>
  J x6 w9) fun J_6 =>
  condB (decide (r14 ≤ (0 : Int))) (
  condB (decide (r17 ≤ (0 : Int))) (
  condB (!(decide (r20 > (0 : Int)))) (
  condB (decide (r14 ≥ (0 : Int))) (
  condB (decide (r17 ≥ (0 : Int))) (
  J_6 (!(decide (r20 < (0 : Int)))) w8) (
  J_6 true w8)) (
  J_6 true w8)) (
  J_6 false w8)) (
  condB (decide (r14 ≥ (0 : Int))) (
  condB (decide (r17 ≥ (0 : Int))) (
  J_6 (!(decide (r20 < (0 : Int)))) w8) (
  J_6 true w8)) (
  J_6 true w8))) (
  condB (decide (r14 ≥ (0 : Int))) (
  condB (decide (r17 ≥ (0 : Int))) (
  J_6 (!(decide (r20 < (0 : Int)))) w8) (
  J_6 true w8)) (
  J_6 true w8)))) fun J_50 =>
  ldStr w7 ⟨b4, 0, none⟩ fun x22_0 =>
  ldStr w7 ⟨b4, 1, none⟩ fun x22_1 =>
  ldStr w7 ⟨b3, 0, none⟩ fun x23_0 =>
  ldStr w7 ⟨b3, 1, none⟩ fun x23_1 =>
  callJ Tryd.prog fn_tree_Order #[.agg ⟨[.string x22_0, .string x22_1]⟩, .agg ⟨[.string x23_0, .string x23_1]⟩] w7 [.one (.int .i64)] fun (r24 : Int) (w10 : World) =>
  condB (r14 != (w64 (0 - r24))) (
  J_50 true w10) (
  ldStr w10 ⟨b3, 0, none⟩ fun x30_0 =>
  ldStr w10 ⟨b3, 1, none⟩ fun x30_1 =>
  ldStr w10 ⟨b4, 0, none⟩ fun x31_0 =>
  ldStr w10 ⟨b4, 1, none⟩ fun x31_1 =>
  condB (!((r14 == (0 : Int)) == ((x30_0.toList == x31_0.toList) && ((x30_1.toList == x31_1.toList) && true)))) (
  J_50 true w10) (
  ldStr w10 ⟨b3, 0, none⟩ fun x38_0 =>
  ldStr w10 ⟨b3, 1, none⟩ fun x38_1 =>
  ldStr w10 ⟨b4, 0, none⟩ fun x39_0 =>
  ldStr w10 ⟨b4, 1, none⟩ fun x39_1 =>
  callJ Tryd.prog fn_ref04_Before #[.agg ⟨[.string x38_0, .string x38_1]⟩, .agg ⟨[.string x39_0, .string x39_1]⟩] w10 [.one .bool] fun (r40 : Bool) (w11 : World) =>
  condB (!((decide (r14 < (0 : Int))) == r40)) (
  J_50 true w11) (
  condB (decide (r14 < (-1 : Int))) (
  J_50 true w11) (
  J_50 (decide (r14 > (1 : Int))) w11)))))
def ann_law05_TreeOrders : Ann := .s (.o) (.s (.s (.o) (.c (.s (.o) (.o)) (.o))) (.s (.d (.take 0 (.take 1 (.take 3 (.take 4 (.take 6 (.take 7 (.eff 2 (.eff 5 (.eff 8 (.take 9 (.take 10 (.take 11 (.done)))) (.none)) (.none)) (.none))))))))) (.s (.j [(50, .bool)] (.o) (.c (.s (.o) (.o)) (.o))) (.j [(6, .bool)] (.o) (.o)))))
theorem eq_law05_TreeOrders (a0_0 : ByteArray) (a0_1 : ByteArray) (b1_0 : ByteArray) (b1_1 : ByteArray) (c2_0 : ByteArray) (c2_1 : ByteArray) (w : World) (J : Bool → World → Prop) : vcFun Tryd.prog Tryd.f3 ann_law05_TreeOrders [.one .bool] [.agg ⟨[.string a0_0, .string a0_1]⟩, .agg ⟨[.string b1_0, .string b1_1]⟩, .agg ⟨[.string c2_0, .string c2_1]⟩] w J = VC_law05_TreeOrders a0_0 a0_1 b1_0 b1_1 c2_0 c2_1 w J := by kernel_rfl
theorem c_law05_TreeOrders {a0_0 : ByteArray} {a0_1 : ByteArray} {b1_0 : ByteArray} {b1_1 : ByteArray} {c2_0 : ByteArray} {c2_1 : ByteArray} {w : World} {J : Bool → World → Prop} (h : VC_law05_TreeOrders a0_0 a0_1 b1_0 b1_1 c2_0 c2_1 w J) : callJ Tryd.prog fn_law05_TreeOrders #[.agg ⟨[.string a0_0, .string a0_1]⟩, .agg ⟨[.string b1_0, .string b1_1]⟩, .agg ⟨[.string c2_0, .string c2_1]⟩] w [.one .bool] J := vc_calls Tryd.func3 ann_law05_TreeOrders (Eq.mpr (eq_law05_TreeOrders a0_0 a0_1 b1_0 b1_1 c2_0 c2_1 w J) h)

/-- lectern/lecternlaw05.TreeBares -/
def VC_law05_TreeBares (d0_0 : Int) (d0_1 : ByteArray) (d0_2 : ByteArray) (d0_3p : Option Addr) (d0_3l : Nat) (d0_3c : Nat) (d0_4p : Option Addr) (d0_4l : Nat) (d0_4c : Nat) (d0_5 : ByteArray) (w : World) (J : Bool → World → Prop) : Prop :=
  newB w (.cells ⟨[.int .i64 d0_0, .string d0_1, .string d0_2, .slice d0_3p d0_3l d0_3c, .slice d0_4p d0_4l d0_4c, .string d0_5]⟩ T_api_Node) fun b1 w1 =>
  callJ Tryd.prog fn_law05_awake #[] w1 [.one .bool] fun (r5 : Bool) (w2 : World) =>
  condB (!r5) (
  J false w2) (
  ldI .i64 w2 ⟨b1, 0, none⟩ fun x7_0 =>
  ldStr w2 ⟨b1, 1, none⟩ fun x7_1 =>
  ldStr w2 ⟨b1, 2, none⟩ fun x7_2 =>
  ldS w2 ⟨b1, 3, none⟩ fun x7_3p x7_3l x7_3c =>
  ldS w2 ⟨b1, 4, none⟩ fun x7_4p x7_4l x7_4c =>
  ldStr w2 ⟨b1, 5, none⟩ fun x7_5 =>
  callJ Tryd.prog fn_tree_Check #[.agg ⟨[.int .i64 x7_0, .string x7_1, .string x7_2, .slice x7_3p x7_3l x7_3c, .slice x7_4p x7_4l x7_4c, .string x7_5]⟩] w2 [.one (.int .i64)] fun (r8 : Int) (w3 : World) =>
  condB (r8 != (0 : Int)) (
  J true w3) (
  ldI .i64 w3 ⟨b1, 0, none⟩ fun x10_0 =>
  ldStr w3 ⟨b1, 1, none⟩ fun x10_1 =>
  ldStr w3 ⟨b1, 2, none⟩ fun x10_2 =>
  ldS w3 ⟨b1, 3, none⟩ fun x10_3p x10_3l x10_3c =>
  ldS w3 ⟨b1, 4, none⟩ fun x10_4p x10_4l x10_4c =>
  ldStr w3 ⟨b1, 5, none⟩ fun x10_5 =>
  callJ Tryd.prog fn_law05_bare #[.agg ⟨[.int .i64 x10_0, .string x10_1, .string x10_2, .slice x10_3p x10_3l x10_3c, .slice x10_4p x10_4l x10_4c, .string x10_5]⟩] w3 [.agg [.int .i64, .str, .str, .slice, .slice, .str]] fun (r11_0 : Int) (r11_1 : ByteArray) (r11_2 : ByteArray) (r11_3p : Option Addr) (r11_3l : Nat) (r11_3c : Nat) (r11_4p : Option Addr) (r11_4l : Nat) (r11_4c : Nat) (r11_5 : ByteArray) (w4 : World) =>
  newB w4 (.cells (zeroC Tryd.prog T_api_Node) T_api_Node) fun b3 w5 =>
  stN w5 ⟨b3, 0, none⟩ ⟨[.int .i64 r11_0, .string r11_1, .string r11_2, .slice r11_3p r11_3l r11_3c, .slice r11_4p r11_4l r11_4c, .string r11_5]⟩ 6 fun w6 =>
  ldI .i64 w6 ⟨b3, 0, none⟩ fun x12_0 =>
  ldStr w6 ⟨b3, 1, none⟩ fun x12_1 =>
  ldStr w6 ⟨b3, 2, none⟩ fun x12_2 =>
  ldS w6 ⟨b3, 3, none⟩ fun x12_3p x12_3l x12_3c =>
  ldS w6 ⟨b3, 4, none⟩ fun x12_4p x12_4l x12_4c =>
  ldStr w6 ⟨b3, 5, none⟩ fun x12_5 =>
  callJ Tryd.prog fn_tree_Check #[.agg ⟨[.int .i64 x12_0, .string x12_1, .string x12_2, .slice x12_3p x12_3l x12_3c, .slice x12_4p x12_4l x12_4c, .string x12_5]⟩] w6 [.one (.int .i64)] fun (r13 : Int) (w7 : World) =>
  withJ (fun (x34 : Bool) (w8 : World) =>
  condB x34 (
  J false w8) (
  withJ (fun (x2 : Bool) (w9 : World) =>
  J x2 w9) fun J_2 =>
  condB (r13 == (0 : Int)) (
  J_2 true w8) (
  J_2 (r13 == (32 : Int)) w8))) fun J_34 =>
  ldI .i64 w7.drew ⟨b3, 0, none⟩ fun x14_0 =>
  ldStr w7.drew ⟨b3, 1, none⟩ fun x14_1 =>
  ldStr w7.drew ⟨b3, 2, none⟩ fun x14_2 =>
  ldS w7.drew ⟨b3, 3, none⟩ fun x14_3p x14_3l x14_3c =>
  ldS w7.drew ⟨b3, 4, none⟩ fun x14_4p x14_4l x14_4c =>
  ldStr w7.drew ⟨b3, 5, none⟩ fun x14_5 =>
  ldI .i64 w7.drew ⟨b1, 0, none⟩ fun x16_0 =>
  ldStr w7.drew ⟨b1, 1, none⟩ fun x16_1 =>
  ldStr w7.drew ⟨b1, 2, none⟩ fun x16_2 =>
  ldS w7.drew ⟨b1, 3, none⟩ fun x16_3p x16_3l x16_3c =>
  ldS w7.drew ⟨b1, 4, none⟩ fun x16_4p x16_4l x16_4c =>
  ldStr w7.drew ⟨b1, 5, none⟩ fun x16_5 =>
  callJ Tryd.prog fn_tree_Size #[.agg ⟨[.int .i64 x14_0, .string x14_1, .string x14_2, .slice x14_3p x14_3l x14_3c, .slice x14_4p x14_4l x14_4c, .string x14_5]⟩] w7.drew [.one (.int .i64)] fun (r15 : Int) (w10 : World) =>
  cellsAt w10 ⟨b1, 0, none⟩ [.int .i64 x16_0, .string x16_1, .string x16_2, .slice x16_3p x16_3l x16_3c, .slice x16_4p x16_4l x16_4c, .string x16_5] ∧
  callJ Tryd.prog fn_tree_Size #[.agg ⟨[.int .i64 x16_0, .string x16_1, .string x16_2, .slice x16_3p x16_3l x16_3c, .slice x16_4p x16_4l x16_4c, .string x16_5]⟩] w10 [.one (.int .i64)] fun (r17 : Int) (w11 : World) =>
  condB (decide (r15 > r17)) (
  J_34 true w11) (
  ldI .i64 w11 ⟨b3, 0, none⟩ fun x20_0 =>
  ldStr w11 ⟨b3, 1, none⟩ fun x20_1 =>
  ldStr w11 ⟨b3, 2, none⟩ fun x20_2 =>
  ldS w11 ⟨b3, 3, none⟩ fun x20_3p x20_3l x20_3c =>
  ldS w11 ⟨b3, 4, none⟩ fun x20_4p x20_4l x20_4c =>
  ldStr w11 ⟨b3, 5, none⟩ fun x20_5 =>
  ldI .i64 w11 ⟨b1, 0, none⟩ fun x22_0 =>
  ldStr w11 ⟨b1, 1, none⟩ fun x22_1 =>
  ldStr w11 ⟨b1, 2, none⟩ fun x22_2 =>
  ldS w11 ⟨b1, 3, none⟩ fun x22_3p x22_3l x22_3c =>
  ldS w11 ⟨b1, 4, none⟩ fun x22_4p x22_4l x22_4c =>
  ldStr w11 ⟨b1, 5, none⟩ fun x22_5 =>
  callJ Tryd.prog fn_tree_Depth #[.agg ⟨[.int .i64 x20_0, .string x20_1, .string x20_2, .slice x20_3p x20_3l x20_3c, .slice x20_4p x20_4l x20_4c, .string x20_5]⟩] w11 [.one (.int .i64)] fun (r21 : Int) (w12 : World) =>
  cellsAt w12 ⟨b1, 0, none⟩ [.int .i64 x22_0, .string x22_1, .string x22_2, .slice x22_3p x22_3l x22_3c, .slice x22_4p x22_4l x22_4c, .string x22_5] ∧
  callJ Tryd.prog fn_tree_Depth #[.agg ⟨[.int .i64 x22_0, .string x22_1, .string x22_2, .slice x22_3p x22_3l x22_3c, .slice x22_4p x22_4l x22_4c, .string x22_5]⟩] w12 [.one (.int .i64)] fun (r23 : Int) (w13 : World) =>
  condB (decide (r21 > r23)) (
  J_34 true w13) (
  ldI .i64 w13 ⟨b3, 0, none⟩ fun x27_0 =>
  ldStr w13 ⟨b3, 1, none⟩ fun x27_1 =>
  ldStr w13 ⟨b3, 2, none⟩ fun x27_2 =>
  ldS w13 ⟨b3, 3, none⟩ fun x27_3p x27_3l x27_3c =>
  ldS w13 ⟨b3, 4, none⟩ fun x27_4p x27_4l x27_4c =>
  ldStr w13 ⟨b3, 5, none⟩ fun x27_5 =>
  ldI .i64 w13 ⟨b1, 0, none⟩ fun x30_0 =>
  ldStr w13 ⟨b1, 1, none⟩ fun x30_1 =>
  ldStr w13 ⟨b1, 2, none⟩ fun x30_2 =>
  ldS w13 ⟨b1, 3, none⟩ fun x30_3p x30_3l x30_3c =>
  ldS w13 ⟨b1, 4, none⟩ fun x30_4p x30_4l x30_4c =>
  ldStr w13 ⟨b1, 5, none⟩ fun x30_5 =>
  callJ Tryd.prog fn_tree_Spaces #[.agg ⟨[.int .i64 x27_0, .string x27_1, .string x27_2, .slice x27_3p x27_3l x27_3c, .slice x27_4p x27_4l x27_4c, .string x27_5]⟩] w13 [.one .slice] fun (r28p : Option Addr) (r28l : Nat) (r28c : Nat) (w14 : World) =>
  cellsAt w14 ⟨b1, 0, none⟩ [.int .i64 x30_0, .string x30_1, .string x30_2, .slice x30_3p x30_3l x30_3c, .slice x30_4p x30_4l x30_4c, .string x30_5] ∧
  callJ Tryd.prog fn_tree_Spaces #[.agg ⟨[.int .i64 x30_0, .string x30_1, .string x30_2, .slice x30_3p x30_3l x30_3c, .slice x30_4p x30_4l x30_4c, .string x30_5]⟩] w14 [.one .slice] fun (r31p : Option Addr) (r31l : Nat) (r31c : Nat) (w15 : World) =>
  J_34 (((r28l : Nat) : Int) != ((r31l : Nat) : Int)) w15))))
def ann_law05_TreeBares : Ann := .s (.o) (.s (.s (.o) (.c (.s (.o) (.o)) (.o))) (.s (.s (.o) (.c (.s (.o) (.o)) (.o))) (.s (.o) (.s (.o) (.s (.j [(34, .bool)] (.d (.take 0 (.take 2 (.eff 1 (.eff 3 (.take 4 (.take 5 (.take 6 (.take 8 (.eff 7 (.eff 9 (.take 10 (.take 11 (.take 12 (.take 13 (.take 16 (.eff 14 (.take 15 (.eff 17 (.take 18 (.take 19 (.take 20 (.done)))) (.none))) (.none))))))) (.none)) (.none)))))) (.none)) (.none))))) (.c (.s (.o) (.o)) (.o))) (.j [(2, .bool)] (.o) (.o)))))))
theorem eq_law05_TreeBares (d0_0 : Int) (d0_1 : ByteArray) (d0_2 : ByteArray) (d0_3p : Option Addr) (d0_3l : Nat) (d0_3c : Nat) (d0_4p : Option Addr) (d0_4l : Nat) (d0_4c : Nat) (d0_5 : ByteArray) (w : World) (J : Bool → World → Prop) : vcFun Tryd.prog Tryd.f4 ann_law05_TreeBares [.one .bool] [.agg ⟨[.int .i64 d0_0, .string d0_1, .string d0_2, .slice d0_3p d0_3l d0_3c, .slice d0_4p d0_4l d0_4c, .string d0_5]⟩] w J = VC_law05_TreeBares d0_0 d0_1 d0_2 d0_3p d0_3l d0_3c d0_4p d0_4l d0_4c d0_5 w J := by kernel_rfl
theorem c_law05_TreeBares {d0_0 : Int} {d0_1 : ByteArray} {d0_2 : ByteArray} {d0_3p : Option Addr} {d0_3l : Nat} {d0_3c : Nat} {d0_4p : Option Addr} {d0_4l : Nat} {d0_4c : Nat} {d0_5 : ByteArray} {w : World} {J : Bool → World → Prop} (h : VC_law05_TreeBares d0_0 d0_1 d0_2 d0_3p d0_3l d0_3c d0_4p d0_4l d0_4c d0_5 w J) : callJ Tryd.prog fn_law05_TreeBares #[.agg ⟨[.int .i64 d0_0, .string d0_1, .string d0_2, .slice d0_3p d0_3l d0_3c, .slice d0_4p d0_4l d0_4c, .string d0_5]⟩] w [.one .bool] J := vc_calls Tryd.func4 ann_law05_TreeBares (Eq.mpr (eq_law05_TreeBares d0_0 d0_1 d0_2 d0_3p d0_3l d0_3c d0_4p d0_4l d0_4c d0_5 w J) h)

/-- lectern/lecternlaw05.TreeParts -/
def VC_law05_TreeParts (d0_0 : Int) (d0_1 : ByteArray) (d0_2 : ByteArray) (d0_3p : Option Addr) (d0_3l : Nat) (d0_3c : Nat) (d0_4p : Option Addr) (d0_4l : Nat) (d0_4c : Nat) (d0_5 : ByteArray) (w : World) (J : Bool → World → Prop) : Prop :=
  newB w (.cells ⟨[.int .i64 d0_0, .string d0_1, .string d0_2, .slice d0_3p d0_3l d0_3c, .slice d0_4p d0_4l d0_4c, .string d0_5]⟩ T_api_Node) fun b1 w1 =>
  callJ Tryd.prog fn_law05_awake #[] w1 [.one .bool] fun (r11 : Bool) (w2 : World) =>
  condB (!r11) (
  J false w2) (
  ldS w2 ⟨b1, 4, none⟩ fun x14p x14l x14c =>
  ∃ I_3 : Int → Int → Int → World → Nat → Prop, (∃ m : Nat, I_3 (1 : Int) (0 : Int) (0 : Int) w2 m) ∧ ∀ (n3 : Int) (deep4 : Int) (x16 : Int) (w3 : World) (m : Nat), I_3 n3 deep4 x16 w3 m → (
  condB (decide (x16 < ((x14l : Nat) : Int))) (
  idxA x14p x14l x16 fun a18 =>
  ldI .i64 w3 ((a18.add (x16.toNat * 6))) fun x19_0 =>
  ldStr w3 (((a18.add (x16.toNat * 6)).add 1)) fun x19_1 =>
  ldStr w3 (((a18.add (x16.toNat * 6)).add 2)) fun x19_2 =>
  ldS w3 (((a18.add (x16.toNat * 6)).add 3)) fun x19_3p x19_3l x19_3c =>
  ldS w3 (((a18.add (x16.toNat * 6)).add 4)) fun x19_4p x19_4l x19_4c =>
  ldStr w3 (((a18.add (x16.toNat * 6)).add 5)) fun x19_5 =>
  newB w3 (.cells (zeroC Tryd.prog T_api_Node) T_api_Node) fun b6 w4 =>
  stN w4 ⟨b6, 0, none⟩ ⟨[.int .i64 x19_0, .string x19_1, .string x19_2, .slice x19_3p x19_3l x19_3c, .slice x19_4p x19_4l x19_4c, .string x19_5]⟩ 6 fun w5 =>
  ldI .i64 w5 ⟨b6, 0, none⟩ fun x21_0 =>
  ldStr w5 ⟨b6, 1, none⟩ fun x21_1 =>
  ldStr w5 ⟨b6, 2, none⟩ fun x21_2 =>
  ldS w5 ⟨b6, 3, none⟩ fun x21_3p x21_3l x21_3c =>
  ldS w5 ⟨b6, 4, none⟩ fun x21_4p x21_4l x21_4c =>
  ldStr w5 ⟨b6, 5, none⟩ fun x21_5 =>
  callJ Tryd.prog fn_tree_Size #[.agg ⟨[.int .i64 x21_0, .string x21_1, .string x21_2, .slice x21_3p x21_3l x21_3c, .slice x21_4p x21_4l x21_4c, .string x21_5]⟩] w5 [.one (.int .i64)] fun (r22 : Int) (w6 : World) =>
  ldI .i64 w6 ⟨b6, 0, none⟩ fun x25_0 =>
  ldStr w6 ⟨b6, 1, none⟩ fun x25_1 =>
  ldStr w6 ⟨b6, 2, none⟩ fun x25_2 =>
  ldS w6 ⟨b6, 3, none⟩ fun x25_3p x25_3l x25_3c =>
  ldS w6 ⟨b6, 4, none⟩ fun x25_4p x25_4l x25_4c =>
  ldStr w6 ⟨b6, 5, none⟩ fun x25_5 =>
  callJ Tryd.prog fn_tree_Depth #[.agg ⟨[.int .i64 x25_0, .string x25_1, .string x25_2, .slice x25_3p x25_3l x25_3c, .slice x25_4p x25_4l x25_4c, .string x25_5]⟩] w6 [.one (.int .i64)] fun (r26 : Int) (w7 : World) =>
  ∃ m' : Nat, m' < m ∧ I_3 (w64 (n3 + r22)) (if r26 > deep4 then r26 else deep4) (w64 (x16 + (1 : Int))) w7 m') (
  withJ (fun (x39 : Bool) (w8 : World) =>
  condB x39 (
  J false w8) (
  ldI .i64 w8 ⟨b1, 0, none⟩ fun x40_0 =>
  ldStr w8 ⟨b1, 1, none⟩ fun x40_1 =>
  ldStr w8 ⟨b1, 2, none⟩ fun x40_2 =>
  ldS w8 ⟨b1, 3, none⟩ fun x40_3p x40_3l x40_3c =>
  ldS w8 ⟨b1, 4, none⟩ fun x40_4p x40_4l x40_4c =>
  ldStr w8 ⟨b1, 5, none⟩ fun x40_5 =>
  callJ Tryd.prog fn_tree_Check #[.agg ⟨[.int .i64 x40_0, .string x40_1, .string x40_2, .slice x40_3p x40_3l x40_3c, .slice x40_4p x40_4l x40_4c, .string x40_5]⟩] w8 [.one (.int .i64)] fun (r41 : Int) (w9 : World) =>
  condB (r41 != (0 : Int)) (
  J true w9) (
  ldS w9 ⟨b1, 4, none⟩ fun x44p x44l x44c =>
  ∃ I_46 : Int → World → Nat → Prop, (∃ m : Nat, I_46 (0 : Int) w9 m) ∧ ∀ (x46 : Int) (w10 : World) (m_1 : Nat), I_46 x46 w10 m_1 → (
  condB (decide (x46 < ((x44l : Nat) : Int))) (
  idxA x44p x44l x46 fun a48 =>
  ldI .i64 w10 ((a48.add (x46.toNat * 6))) fun x49_0 =>
  ldStr w10 (((a48.add (x46.toNat * 6)).add 1)) fun x49_1 =>
  ldStr w10 (((a48.add (x46.toNat * 6)).add 2)) fun x49_2 =>
  ldS w10 (((a48.add (x46.toNat * 6)).add 3)) fun x49_3p x49_3l x49_3c =>
  ldS w10 (((a48.add (x46.toNat * 6)).add 4)) fun x49_4p x49_4l x49_4c =>
  ldStr w10 (((a48.add (x46.toNat * 6)).add 5)) fun x49_5 =>
  newB w10 (.cells (zeroC Tryd.prog T_api_Node) T_api_Node) fun b8 w11 =>
  stN w11 ⟨b8, 0, none⟩ ⟨[.int .i64 x49_0, .string x49_1, .string x49_2, .slice x49_3p x49_3l x49_3c, .slice x49_4p x49_4l x49_4c, .string x49_5]⟩ 6 fun w12 =>
  ldS w12 ⟨b8, 4, none⟩ fun x51p x51l x51c =>
  ∃ I_53 : Int → World → Nat → Prop, (∃ m : Nat, I_53 (0 : Int) w12 m) ∧ ∀ (x53 : Int) (w13 : World) (m_2 : Nat), I_53 x53 w13 m_2 → (
  condB (decide (x53 < ((x51l : Nat) : Int))) (
  idxA x51p x51l x53 fun a55 =>
  ldI .i64 w13 ((a55.add (x53.toNat * 6))) fun x56_0 =>
  ldStr w13 (((a55.add (x53.toNat * 6)).add 1)) fun x56_1 =>
  ldStr w13 (((a55.add (x53.toNat * 6)).add 2)) fun x56_2 =>
  ldS w13 (((a55.add (x53.toNat * 6)).add 3)) fun x56_3p x56_3l x56_3c =>
  ldS w13 (((a55.add (x53.toNat * 6)).add 4)) fun x56_4p x56_4l x56_4c =>
  ldStr w13 (((a55.add (x53.toNat * 6)).add 5)) fun x56_5 =>
  newB w13 (.cells (zeroC Tryd.prog T_api_Node) T_api_Node) fun b10 w14 =>
  stN w14 ⟨b10, 0, none⟩ ⟨[.int .i64 x56_0, .string x56_1, .string x56_2, .slice x56_3p x56_3l x56_3c, .slice x56_4p x56_4l x56_4c, .string x56_5]⟩ 6 fun w15 =>
  withJ (fun (x66 : Bool) (w16 : World) =>
  condB x66 (
  J false w16) (
  ∃ m' : Nat, m' < m_2 ∧ I_53 (w64 (x53 + (1 : Int))) w16 m')) fun J_66 =>
  ldI .i64 w15 ⟨b10, 0, none⟩ fun x58 =>
  condB (x58 == (2 : Int)) (
  ldI .i64 w15 ⟨b10, 0, none⟩ fun x61_0 =>
  ldStr w15 ⟨b10, 1, none⟩ fun x61_1 =>
  ldStr w15 ⟨b10, 2, none⟩ fun x61_2 =>
  ldS w15 ⟨b10, 3, none⟩ fun x61_3p x61_3l x61_3c =>
  ldS w15 ⟨b10, 4, none⟩ fun x61_4p x61_4l x61_4c =>
  ldStr w15 ⟨b10, 5, none⟩ fun x61_5 =>
  Array.size (⟨[.int .i64 x61_0, .string x61_1, .string x61_2, .slice x61_3p x61_3l x61_3c, .slice x61_4p x61_4l x61_4c, .string x61_5]⟩ : Array Value) = 6 ∧
  newB w15 (.cells ⟨[.int .i64 x61_0, .string x61_1, .string x61_2, .slice x61_3p x61_3l x61_3c, .slice x61_4p x61_4l x61_4c, .string x61_5]⟩ T_api_Node) fun b62 w17 =>
  callJ Tryd.prog fn_tree_Check #[.agg ⟨[.int .i64 (1 : Int), .string ByteArray.empty, .string ByteArray.empty, .slice none 0 0, .slice (some ⟨b62, 0, none⟩) 1 1, .string ByteArray.empty]⟩] w17 [.one (.int .i64)] fun (r64 : Int) (w18 : World) =>
  J_66 (r64 != (0 : Int)) w18) (
  J_66 false w15)) (
  ∃ m' : Nat, m' < m_1 ∧ I_46 (w64 (x46 + (1 : Int))) w13 m'))) (
  J true w10))))) fun J_39 =>
  ldI .i64 w3 ⟨b1, 0, none⟩ fun x30_0 =>
  ldStr w3 ⟨b1, 1, none⟩ fun x30_1 =>
  ldStr w3 ⟨b1, 2, none⟩ fun x30_2 =>
  ldS w3 ⟨b1, 3, none⟩ fun x30_3p x30_3l x30_3c =>
  ldS w3 ⟨b1, 4, none⟩ fun x30_4p x30_4l x30_4c =>
  ldStr w3 ⟨b1, 5, none⟩ fun x30_5 =>
  callJ Tryd.prog fn_tree_Size #[.agg ⟨[.int .i64 x30_0, .string x30_1, .string x30_2, .slice x30_3p x30_3l x30_3c, .slice x30_4p x30_4l x30_4c, .string x30_5]⟩] w3 [.one (.int .i64)] fun (r31 : Int) (w19 : World) =>
  condB (n3 != r31) (
  J_39 true w19) (
  ldI .i64 w19 ⟨b1, 0, none⟩ fun x36_0 =>
  ldStr w19 ⟨b1, 1, none⟩ fun x36_1 =>
  ldStr w19 ⟨b1, 2, none⟩ fun x36_2 =>
  ldS w19 ⟨b1, 3, none⟩ fun x36_3p x36_3l x36_3c =>
  ldS w19 ⟨b1, 4, none⟩ fun x36_4p x36_4l x36_4c =>
  ldStr w19 ⟨b1, 5, none⟩ fun x36_5 =>
  callJ Tryd.prog fn_tree_Depth #[.agg ⟨[.int .i64 x36_0, .string x36_1, .string x36_2, .slice x36_3p x36_3l x36_3c, .slice x36_4p x36_4l x36_4c, .string x36_5]⟩] w19 [.one (.int .i64)] fun (r37 : Int) (w20 : World) =>
  J_39 ((w64 (deep4 + (1 : Int))) != r37) w20))))
def ann_law05_TreeParts : Ann := .s (.o) (.s (.s (.o) (.c (.s (.o) (.o)) (.o))) (.s (.o) (.s (.s (.o) (.b (.l [(3, .int .i64), (4, .int .i64), (16, .int .i64)] (.s (.o) (.s (.c (.o) (.o)) (.s (.b (.s (.o) (.s (.o) (.o)))) (.o))))))) (.s (.j [(39, .bool)] (.o) (.c (.s (.o) (.o)) (.o))) (.s (.s (.o) (.c (.s (.o) (.o)) (.o))) (.s (.s (.o) (.b (.l [(46, .int .i64)] (.s (.o) (.s (.c (.o) (.o)) (.s (.b (.s (.o) (.s (.o) (.b (.l [(53, .int .i64)] (.s (.o) (.s (.c (.o) (.o)) (.s (.b (.s (.o) (.j [(66, .bool)] (.o) (.c (.s (.o) (.o)) (.o))))) (.o))))))))) (.o))))))) (.s (.o) (.o))))))))
theorem eq_law05_TreeParts (d0_0 : Int) (d0_1 : ByteArray) (d0_2 : ByteArray) (d0_3p : Option Addr) (d0_3l : Nat) (d0_3c : Nat) (d0_4p : Option Addr) (d0_4l : Nat) (d0_4c : Nat) (d0_5 : ByteArray) (w : World) (J : Bool → World → Prop) : vcFun Tryd.prog Tryd.f5 ann_law05_TreeParts [.one .bool] [.agg ⟨[.int .i64 d0_0, .string d0_1, .string d0_2, .slice d0_3p d0_3l d0_3c, .slice d0_4p d0_4l d0_4c, .string d0_5]⟩] w J = VC_law05_TreeParts d0_0 d0_1 d0_2 d0_3p d0_3l d0_3c d0_4p d0_4l d0_4c d0_5 w J := by kernel_rfl
theorem c_law05_TreeParts {d0_0 : Int} {d0_1 : ByteArray} {d0_2 : ByteArray} {d0_3p : Option Addr} {d0_3l : Nat} {d0_3c : Nat} {d0_4p : Option Addr} {d0_4l : Nat} {d0_4c : Nat} {d0_5 : ByteArray} {w : World} {J : Bool → World → Prop} (h : VC_law05_TreeParts d0_0 d0_1 d0_2 d0_3p d0_3l d0_3c d0_4p d0_4l d0_4c d0_5 w J) : callJ Tryd.prog fn_law05_TreeParts #[.agg ⟨[.int .i64 d0_0, .string d0_1, .string d0_2, .slice d0_3p d0_3l d0_3c, .slice d0_4p d0_4l d0_4c, .string d0_5]⟩] w [.one .bool] J := vc_calls Tryd.func5 ann_law05_TreeParts (Eq.mpr (eq_law05_TreeParts d0_0 d0_1 d0_2 d0_3p d0_3l d0_3c d0_4p d0_4l d0_4c d0_5 w J) h)

/-- lectern/lecternlaw05.TreeFinds -/
def VC_law05_TreeFinds (n0_0 : Int) (n0_1 : ByteArray) (n0_2 : ByteArray) (n0_3p : Option Addr) (n0_3l : Nat) (n0_3c : Nat) (n0_4p : Option Addr) (n0_4l : Nat) (n0_4c : Nat) (n0_5 : ByteArray) (path1p : Option Addr) (path1l : Nat) (path1c : Nat) (w : World) (J : Bool → World → Prop) : Prop :=
  newB w (.cells ⟨[.int .i64 n0_0, .string n0_1, .string n0_2, .slice n0_3p n0_3l n0_3c, .slice n0_4p n0_4l n0_4c, .string n0_5]⟩ T_api_Node) fun b2 w1 =>
  callJ Tryd.prog fn_law05_awake #[] w1 [.one .bool] fun (r10 : Bool) (w2 : World) =>
  condB (!r10) (
  J false w2) (
  ldI .i64 w2 ⟨b2, 0, none⟩ fun x12_0 =>
  ldStr w2 ⟨b2, 1, none⟩ fun x12_1 =>
  ldStr w2 ⟨b2, 2, none⟩ fun x12_2 =>
  ldS w2 ⟨b2, 3, none⟩ fun x12_3p x12_3l x12_3c =>
  ldS w2 ⟨b2, 4, none⟩ fun x12_4p x12_4l x12_4c =>
  ldStr w2 ⟨b2, 5, none⟩ fun x12_5 =>
  callJ Tryd.prog fn_ref05_Twin #[.agg ⟨[.int .i64 x12_0, .string x12_1, .string x12_2, .slice x12_3p x12_3l x12_3c, .slice x12_4p x12_4l x12_4c, .string x12_5]⟩] w2 [.agg [.int .i64, .str, .str, .slice, .slice, .str]] fun (r13_0 : Int) (r13_1 : ByteArray) (r13_2 : ByteArray) (r13_3p : Option Addr) (r13_3l : Nat) (r13_3c : Nat) (r13_4p : Option Addr) (r13_4l : Nat) (r13_4c : Nat) (r13_5 : ByteArray) (w3 : World) =>
  newB w3 (.cells (zeroC Tryd.prog T_api_Node) T_api_Node) fun b5 w4 =>
  stN w4 ⟨b5, 0, none⟩ ⟨[.int .i64 r13_0, .string r13_1, .string r13_2, .slice r13_3p r13_3l r13_3c, .slice r13_4p r13_4l r13_4c, .string r13_5]⟩ 6 fun w5 =>
  ldI .i64 w5 ⟨b2, 0, none⟩ fun x15_0 =>
  ldStr w5 ⟨b2, 1, none⟩ fun x15_1 =>
  ldStr w5 ⟨b2, 2, none⟩ fun x15_2 =>
  ldS w5 ⟨b2, 3, none⟩ fun x15_3p x15_3l x15_3c =>
  ldS w5 ⟨b2, 4, none⟩ fun x15_4p x15_4l x15_4c =>
  ldStr w5 ⟨b2, 5, none⟩ fun x15_5 =>
  callJ Tryd.prog fn_tree_At #[.agg ⟨[.int .i64 x15_0, .string x15_1, .string x15_2, .slice x15_3p x15_3l x15_3c, .slice x15_4p x15_4l x15_4c, .string x15_5]⟩, .slice path1p path1l path1c] w5 [.agg [.int .i64, .str, .str, .slice, .slice, .str], .one (.int .i64)] fun (r17_0_0 : Int) (r17_0_1 : ByteArray) (r17_0_2 : ByteArray) (r17_0_3p : Option Addr) (r17_0_3l : Nat) (r17_0_3c : Nat) (r17_0_4p : Option Addr) (r17_0_4l : Nat) (r17_0_4c : Nat) (r17_0_5 : ByteArray) (r17_1 : Int) (w6 : World) =>
  newB w6 (.cells (zeroC Tryd.prog T_api_Node) T_api_Node) fun b6 w7 =>
  stN w7 ⟨b6, 0, none⟩ ⟨[.int .i64 r17_0_0, .string r17_0_1, .string r17_0_2, .slice r17_0_3p r17_0_3l r17_0_3c, .slice r17_0_4p r17_0_4l r17_0_4c, .string r17_0_5]⟩ 6 fun w8 =>
  ldI .i64 w8 ⟨b2, 0, none⟩ fun x21_0 =>
  ldStr w8 ⟨b2, 1, none⟩ fun x21_1 =>
  ldStr w8 ⟨b2, 2, none⟩ fun x21_2 =>
  ldS w8 ⟨b2, 3, none⟩ fun x21_3p x21_3l x21_3c =>
  ldS w8 ⟨b2, 4, none⟩ fun x21_4p x21_4l x21_4c =>
  ldStr w8 ⟨b2, 5, none⟩ fun x21_5 =>
  callJ Tryd.prog fn_ref05_At #[.agg ⟨[.int .i64 x21_0, .string x21_1, .string x21_2, .slice x21_3p x21_3l x21_3c, .slice x21_4p x21_4l x21_4c, .string x21_5]⟩, .slice path1p path1l path1c] w8 [.agg [.int .i64, .str, .str, .slice, .slice, .str], .one .bool] fun (r23_0_0 : Int) (r23_0_1 : ByteArray) (r23_0_2 : ByteArray) (r23_0_3p : Option Addr) (r23_0_3l : Nat) (r23_0_3c : Nat) (r23_0_4p : Option Addr) (r23_0_4l : Nat) (r23_0_4c : Nat) (r23_0_5 : ByteArray) (r23_1 : Bool) (w9 : World) =>
  newB w9 (.cells (zeroC Tryd.prog T_api_Node) T_api_Node) fun b8 w10 =>
  stN w10 ⟨b8, 0, none⟩ ⟨[.int .i64 r23_0_0, .string r23_0_1, .string r23_0_2, .slice r23_0_3p r23_0_3l r23_0_3c, .slice r23_0_4p r23_0_4l r23_0_4c, .string r23_0_5]⟩ 6 fun w11 =>
  condB (!r23_1) (
  withJ (fun (x4 : Bool) (w12 : World) =>
  J x4 w12) fun J_4 =>
  condB (r17_1 == (35 : Int)) (
  ldI .i64 w11 ⟨b6, 0, none⟩ fun x31_0 =>
  ldStr w11 ⟨b6, 1, none⟩ fun x31_1 =>
  ldStr w11 ⟨b6, 2, none⟩ fun x31_2 =>
  ldS w11 ⟨b6, 3, none⟩ fun x31_3p x31_3l x31_3c =>
  ldS w11 ⟨b6, 4, none⟩ fun x31_4p x31_4l x31_4c =>
  ldStr w11 ⟨b6, 5, none⟩ fun x31_5 =>
  callJ Tryd.prog fn_ref05_Same #[.agg ⟨[.int .i64 x31_0, .string x31_1, .string x31_2, .slice x31_3p x31_3l x31_3c, .slice x31_4p x31_4l x31_4c, .string x31_5]⟩, .agg ⟨[.int .i64 (0 : Int), .string ByteArray.empty, .string ByteArray.empty, .slice none 0 0, .slice none 0 0, .string ByteArray.empty]⟩] w11 [.one .bool] fun (r33 : Bool) (w13 : World) =>
  J_4 r33 w13) (
  J_4 false w11)) (
  withJ (fun (x42 : Bool) (w14 : World) =>
  condB x42 (
  J false w14) (
  ldI .i64 w14 ⟨b6, 0, none⟩ fun x43_0 =>
  ldStr w14 ⟨b6, 1, none⟩ fun x43_1 =>
  ldStr w14 ⟨b6, 2, none⟩ fun x43_2 =>
  ldS w14 ⟨b6, 3, none⟩ fun x43_3p x43_3l x43_3c =>
  ldS w14 ⟨b6, 4, none⟩ fun x43_4p x43_4l x43_4c =>
  ldStr w14 ⟨b6, 5, none⟩ fun x43_5 =>
  callJ Tryd.prog fn_law05_spoil #[.agg ⟨[.int .i64 x43_0, .string x43_1, .string x43_2, .slice x43_3p x43_3l x43_3c, .slice x43_4p x43_4l x43_4c, .string x43_5]⟩] w14 [] fun (w15 : World) =>
  ldI .i64 w15 ⟨b2, 0, none⟩ fun x45_0 =>
  ldStr w15 ⟨b2, 1, none⟩ fun x45_1 =>
  ldStr w15 ⟨b2, 2, none⟩ fun x45_2 =>
  ldS w15 ⟨b2, 3, none⟩ fun x45_3p x45_3l x45_3c =>
  ldS w15 ⟨b2, 4, none⟩ fun x45_4p x45_4l x45_4c =>
  ldStr w15 ⟨b2, 5, none⟩ fun x45_5 =>
  ldI .i64 w15 ⟨b5, 0, none⟩ fun x46_0 =>
  ldStr w15 ⟨b5, 1, none⟩ fun x46_1 =>
  ldStr w15 ⟨b5, 2, none⟩ fun x46_2 =>
  ldS w15 ⟨b5, 3, none⟩ fun x46_3p x46_3l x46_3c =>
  ldS w15 ⟨b5, 4, none⟩ fun x46_4p x46_4l x46_4c =>
  ldStr w15 ⟨b5, 5, none⟩ fun x46_5 =>
  callJ Tryd.prog fn_ref05_Same #[.agg ⟨[.int .i64 x45_0, .string x45_1, .string x45_2, .slice x45_3p x45_3l x45_3c, .slice x45_4p x45_4l x45_4c, .string x45_5]⟩, .agg ⟨[.int .i64 x46_0, .string x46_1, .string x46_2, .slice x46_3p x46_3l x46_3c, .slice x46_4p x46_4l x46_4c, .string x46_5]⟩] w15 [.one .bool] fun (r47 : Bool) (w16 : World) =>
  J r47 w16)) fun J_42 =>
  condB (r17_1 != (0 : Int)) (
  J_42 true w11) (
  ldI .i64 w11 ⟨b6, 0, none⟩ fun x38_0 =>
  ldStr w11 ⟨b6, 1, none⟩ fun x38_1 =>
  ldStr w11 ⟨b6, 2, none⟩ fun x38_2 =>
  ldS w11 ⟨b6, 3, none⟩ fun x38_3p x38_3l x38_3c =>
  ldS w11 ⟨b6, 4, none⟩ fun x38_4p x38_4l x38_4c =>
  ldStr w11 ⟨b6, 5, none⟩ fun x38_5 =>
  ldI .i64 w11 ⟨b8, 0, none⟩ fun x39_0 =>
  ldStr w11 ⟨b8, 1, none⟩ fun x39_1 =>
  ldStr w11 ⟨b8, 2, none⟩ fun x39_2 =>
  ldS w11 ⟨b8, 3, none⟩ fun x39_3p x39_3l x39_3c =>
  ldS w11 ⟨b8, 4, none⟩ fun x39_4p x39_4l x39_4c =>
  ldStr w11 ⟨b8, 5, none⟩ fun x39_5 =>
  callJ Tryd.prog fn_ref05_Same #[.agg ⟨[.int .i64 x38_0, .string x38_1, .string x38_2, .slice x38_3p x38_3l x38_3c, .slice x38_4p x38_4l x38_4c, .string x38_5]⟩, .agg ⟨[.int .i64 x39_0, .string x39_1, .string x39_2, .slice x39_3p x39_3l x39_3c, .slice x39_4p x39_4l x39_4c, .string x39_5]⟩] w11 [.one .bool] fun (r40 : Bool) (w17 : World) =>
  J_42 (!r40) w17)))
def ann_law05_TreeFinds : Ann := .s (.o) (.s (.s (.o) (.c (.s (.o) (.o)) (.o))) (.s (.o) (.s (.o) (.s (.o) (.s (.s (.o) (.c (.j [(4, .bool)] (.o) (.o)) (.o))) (.s (.j [(42, .bool)] (.o) (.c (.s (.o) (.o)) (.o))) (.s (.o) (.s (.o) (.o)))))))))
theorem eq_law05_TreeFinds (n0_0 : Int) (n0_1 : ByteArray) (n0_2 : ByteArray) (n0_3p : Option Addr) (n0_3l : Nat) (n0_3c : Nat) (n0_4p : Option Addr) (n0_4l : Nat) (n0_4c : Nat) (n0_5 : ByteArray) (path1p : Option Addr) (path1l : Nat) (path1c : Nat) (w : World) (J : Bool → World → Prop) : vcFun Tryd.prog Tryd.f6 ann_law05_TreeFinds [.one .bool] [.agg ⟨[.int .i64 n0_0, .string n0_1, .string n0_2, .slice n0_3p n0_3l n0_3c, .slice n0_4p n0_4l n0_4c, .string n0_5]⟩, .slice path1p path1l path1c] w J = VC_law05_TreeFinds n0_0 n0_1 n0_2 n0_3p n0_3l n0_3c n0_4p n0_4l n0_4c n0_5 path1p path1l path1c w J := by kernel_rfl
theorem c_law05_TreeFinds {n0_0 : Int} {n0_1 : ByteArray} {n0_2 : ByteArray} {n0_3p : Option Addr} {n0_3l : Nat} {n0_3c : Nat} {n0_4p : Option Addr} {n0_4l : Nat} {n0_4c : Nat} {n0_5 : ByteArray} {path1p : Option Addr} {path1l : Nat} {path1c : Nat} {w : World} {J : Bool → World → Prop} (h : VC_law05_TreeFinds n0_0 n0_1 n0_2 n0_3p n0_3l n0_3c n0_4p n0_4l n0_4c n0_5 path1p path1l path1c w J) : callJ Tryd.prog fn_law05_TreeFinds #[.agg ⟨[.int .i64 n0_0, .string n0_1, .string n0_2, .slice n0_3p n0_3l n0_3c, .slice n0_4p n0_4l n0_4c, .string n0_5]⟩, .slice path1p path1l path1c] w [.one .bool] J := vc_calls Tryd.func6 ann_law05_TreeFinds (Eq.mpr (eq_law05_TreeFinds n0_0 n0_1 n0_2 n0_3p n0_3l n0_3c n0_4p n0_4l n0_4c n0_5 path1p path1l path1c w J) h)

end Go.Proofs.YtmmfookfpdcohaaDoor
