/- What the conditions of these functions are, reckoned by the reading; printed by program. -/
import Derived.Test.YtkgfbphdmnapdaaGreatDoorNm
import Derived.KernelRfl
set_option maxRecDepth 100000
set_option linter.unusedVariables false
namespace Go.Proofs.YtkgfbphdmnapdaaGreatDoor
open Go Go.Vc

/-- lectern/tree.Order -/
def VC_tree_Order (a0_0 : ByteArray) (a0_1 : ByteArray) (b1_0 : ByteArray) (b1_1 : ByteArray) (w : World) (J : Int → World → Prop) : Prop :=
  newB w (.cells ⟨[.string a0_0, .string a0_1]⟩ T_api_Name) fun b2 w1 =>
  newB w1 (.cells ⟨[.string b1_0, .string b1_1]⟩ T_api_Name) fun b3 w2 =>
  ldStr w2.drew ⟨b2, 0, none⟩ fun x6 =>
  ldStr w2.drew ⟨b3, 0, none⟩ fun x8 =>
  ldStr w2.drew ⟨b2, 1, none⟩ fun x11 =>
  ldStr w2.drew ⟨b3, 1, none⟩ fun x13 =>
  callJ Tryz.prog fn_cmp_Compare_string #[.string x6, .string x8] w2.drew [.one (.int .i64)] fun (r9 : Int) (w3 : World) =>
  w3.cell? ⟨b3, 1, none⟩ = some (.string x13) ∧
  w3.cell? ⟨b2, 1, none⟩ = some (.string x11) ∧
  callJ Tryz.prog fn_cmp_Compare_string #[.string x11, .string x13] w3 [.one (.int .i64)] fun (r14 : Int) (w4 : World) =>
  newB w4 (.cells ⟨[.int .i64 r9, .int .i64 r14]⟩ T_int) fun b15 w5 =>
  callJ Tryz.prog fn_cmp_Or_int #[.slice (some ⟨b15, 0, none⟩) 2 2] w5 [.one (.int .i64)] fun (r16 : Int) (w6 : World) =>
  J r16 w6
def ann_tree_Order : Ann := .s (.o) (.s (.d (.take 0 (.take 1 (.take 2 (.take 3 (.take 5 (.take 6 (.take 7 (.take 8 (.eff 4 (.eff 9 (.eff 10 (.eff 11 (.take 12 (.done)) (.none)) (.none)) (.none)) (.none))))))))))) (.o))
theorem eq_tree_Order (a0_0 : ByteArray) (a0_1 : ByteArray) (b1_0 : ByteArray) (b1_1 : ByteArray) (w : World) (J : Int → World → Prop) : vcFun Tryz.prog Tryz.f62 ann_tree_Order [.one (.int .i64)] [.agg ⟨[.string a0_0, .string a0_1]⟩, .agg ⟨[.string b1_0, .string b1_1]⟩] w J = VC_tree_Order a0_0 a0_1 b1_0 b1_1 w J := by kernel_rfl
theorem c_tree_Order {a0_0 : ByteArray} {a0_1 : ByteArray} {b1_0 : ByteArray} {b1_1 : ByteArray} {w : World} {J : Int → World → Prop} (h : VC_tree_Order a0_0 a0_1 b1_0 b1_1 w J) : callJ Tryz.prog fn_tree_Order #[.agg ⟨[.string a0_0, .string a0_1]⟩, .agg ⟨[.string b1_0, .string b1_1]⟩] w [.one (.int .i64)] J := vc_calls Tryz.func62 ann_tree_Order (Eq.mpr (eq_tree_Order a0_0 a0_1 b1_0 b1_1 w J) h)

/-- lectern/tree.Check -/
def VC_tree_Check (d0_0 : Int) (d0_1 : ByteArray) (d0_2 : ByteArray) (d0_3p : Option Addr) (d0_3l : Nat) (d0_3c : Nat) (d0_4p : Option Addr) (d0_4l : Nat) (d0_4c : Nat) (d0_5 : ByteArray) (w : World) (J : Int → World → Prop) : Prop :=
  newB w (.cells ⟨[.int .i64 d0_0, .string d0_1, .string d0_2, .slice d0_3p d0_3l d0_3c, .slice d0_4p d0_4l d0_4c, .string d0_5]⟩ T_api_Node) fun b1 w1 =>
  ldI .i64 w1 ⟨b1, 0, none⟩ fun x7_0 =>
  ldStr w1 ⟨b1, 1, none⟩ fun x7_1 =>
  ldStr w1 ⟨b1, 2, none⟩ fun x7_2 =>
  ldS w1 ⟨b1, 3, none⟩ fun x7_3p x7_3l x7_3c =>
  ldS w1 ⟨b1, 4, none⟩ fun x7_4p x7_4l x7_4c =>
  ldStr w1 ⟨b1, 5, none⟩ fun x7_5 =>
  callJ Tryz.prog fn_tree_flat #[.agg ⟨[.int .i64 x7_0, .string x7_1, .string x7_2, .slice x7_3p x7_3l x7_3c, .slice x7_4p x7_4l x7_4c, .string x7_5]⟩, .slice none 0 0] w1 [.one .slice] fun (r8p : Option Addr) (r8l : Nat) (r8c : Nat) (w2 : World) =>
  withJ (fun (x9 : Bool) (w3 : World) =>
  condB x9 (
  J (33 : Int) w3) (
  ldI .i64 w3 ⟨b1, 0, none⟩ fun x18_0 =>
  ldStr w3 ⟨b1, 1, none⟩ fun x18_1 =>
  ldStr w3 ⟨b1, 2, none⟩ fun x18_2 =>
  ldS w3 ⟨b1, 3, none⟩ fun x18_3p x18_3l x18_3c =>
  ldS w3 ⟨b1, 4, none⟩ fun x18_4p x18_4l x18_4c =>
  ldStr w3 ⟨b1, 5, none⟩ fun x18_5 =>
  callJ Tryz.prog fn_tree_deep #[.agg ⟨[.int .i64 x18_0, .string x18_1, .string x18_2, .slice x18_3p x18_3l x18_3c, .slice x18_4p x18_4l x18_4c, .string x18_5]⟩, .int .i64 (0 : Int)] w3 [.one .bool] fun (r19 : Bool) (w4 : World) =>
  condB r19 (
  J (31 : Int) w4) (
  withJ (fun (x20 : Bool) (w5 : World) =>
  condB x20 (
  J (5 : Int) w5) (
  callJ Tryz.prog fn_slices_ContainsFunc_sl_api_Node_api_Node #[.slice r8p r8l r8c, .func (.func 32) #[] #[]] w5 [.one .bool] fun (r31 : Bool) (w6 : World) =>
  condB r31 (
  J (24 : Int) w6) (
  callJ Tryz.prog fn_slices_ContainsFunc_sl_api_Node_api_Node #[.slice r8p r8l r8c, .func (.func 33) #[] #[]] w6 [.one .bool] fun (r34 : Bool) (w7 : World) =>
  condB r34 (
  J (21 : Int) w7) (
  callJ Tryz.prog fn_slices_ContainsFunc_sl_api_Node_api_Node #[.slice r8p r8l r8c, .func (.func 34) #[] #[]] w7 [.one .bool] fun (r37 : Bool) (w8 : World) =>
  condB r37 (
  J (34 : Int) w8) (
  callJ Tryz.prog fn_slices_ContainsFunc_sl_api_Node_api_Node #[.slice r8p r8l r8c, .func (.func 35) #[] #[]] w8 [.one .bool] fun (r40 : Bool) (w9 : World) =>
  condB r40 (
  J (32 : Int) w9) (
  ldS w9 ⟨b1, 4, none⟩ fun x42p x42l x42c =>
  ∃ I_4 : Int → Int → World → Nat → Prop, (∃ m : Nat, I_4 (0 : Int) (0 : Int) w9 m) ∧ ∀ (elements4 : Int) (x44 : Int) (w10 : World) (m : Nat), I_4 elements4 x44 w10 m → (
  condB (decide (x44 < ((x42l : Nat) : Int))) (
  withJ (fun (elements4_1 : Int) (w11 : World) =>
  ∃ m' : Nat, m' < m ∧ I_4 elements4_1 (w64 (x44 + (1 : Int))) w11 m') fun J_4 =>
  idxA x42p x42l x44 fun a46 =>
  ldI .i64 w10 ((a46.add (x44.toNat * 6))) fun x47_0 =>
  ldStr w10 (((a46.add (x44.toNat * 6)).add 1)) fun x47_1 =>
  ldStr w10 (((a46.add (x44.toNat * 6)).add 2)) fun x47_2 =>
  ldS w10 (((a46.add (x44.toNat * 6)).add 3)) fun x47_3p x47_3l x47_3c =>
  ldS w10 (((a46.add (x44.toNat * 6)).add 4)) fun x47_4p x47_4l x47_4c =>
  ldStr w10 (((a46.add (x44.toNat * 6)).add 5)) fun x47_5 =>
  newB w10 (.cells (zeroC Tryz.prog T_api_Node) T_api_Node) fun b6 w12 =>
  stN w12 ⟨b6, 0, none⟩ ⟨[.int .i64 x47_0, .string x47_1, .string x47_2, .slice x47_3p x47_3l x47_3c, .slice x47_4p x47_4l x47_4c, .string x47_5]⟩ 6 fun w13 =>
  ldI .i64 w13 ⟨b6, 0, none⟩ fun x49 =>
  condB (x49 == (2 : Int)) (
  J_4 (w64 (elements4 + (1 : Int))) w13) (
  J_4 elements4 w13)) (
  condB (elements4 != (1 : Int)) (
  J (30 : Int) w10) (
  J (0 : Int) w10))))))))) fun J_20 =>
  condB (decide ((w64 (((r8l : Nat) : Int) - (1 : Int))) > (2000 : Int))) (
  J_20 true w4) (
  callJ Tryz.prog fn_slices_ContainsFunc_sl_api_Node_api_Node #[.slice r8p r8l r8c, .func (.func 31) #[] #[]] w4 [.one .bool] fun (r27 : Bool) (w14 : World) =>
  J_20 r27 w14)))) fun J_9 =>
  ldI .i64 w2 ⟨b1, 0, none⟩ fun x11 =>
  condB (x11 != (1 : Int)) (
  J_9 true w2) (
  callJ Tryz.prog fn_slices_ContainsFunc_sl_api_Node_api_Node #[.slice r8p r8l r8c, .func (.func 29) #[] #[]] w2 [.one .bool] fun (r15 : Bool) (w15 : World) =>
  J_9 r15 w15)
def ann_tree_Check : Ann := .s (.o) (.s (.o) (.s (.b (.j [(9, .bool)] (.o) (.c (.s (.o) (.o)) (.s (.o) (.c (.s (.o) (.o)) (.j [(20, .bool)] (.o) (.c (.s (.o) (.o)) (.s (.o) (.c (.s (.o) (.o)) (.s (.o) (.c (.s (.o) (.o)) (.s (.o) (.c (.s (.o) (.o)) (.s (.o) (.c (.s (.o) (.o)) (.o)))))))))))))))) (.s (.o) (.s (.s (.o) (.b (.l [(4, .int .i64), (44, .int .i64)] (.s (.o) (.s (.c (.o) (.o)) (.j [(4, .int .i64)] (.b (.s (.o) (.s (.o) (.c (.o) (.o))))) (.o))))))) (.s (.s (.o) (.c (.s (.o) (.o)) (.o))) (.s (.o) (.o)))))))
theorem eq_tree_Check (d0_0 : Int) (d0_1 : ByteArray) (d0_2 : ByteArray) (d0_3p : Option Addr) (d0_3l : Nat) (d0_3c : Nat) (d0_4p : Option Addr) (d0_4l : Nat) (d0_4c : Nat) (d0_5 : ByteArray) (w : World) (J : Int → World → Prop) : vcFun Tryz.prog Tryz.f18 ann_tree_Check [.one (.int .i64)] [.agg ⟨[.int .i64 d0_0, .string d0_1, .string d0_2, .slice d0_3p d0_3l d0_3c, .slice d0_4p d0_4l d0_4c, .string d0_5]⟩] w J = VC_tree_Check d0_0 d0_1 d0_2 d0_3p d0_3l d0_3c d0_4p d0_4l d0_4c d0_5 w J := by kernel_rfl
theorem c_tree_Check {d0_0 : Int} {d0_1 : ByteArray} {d0_2 : ByteArray} {d0_3p : Option Addr} {d0_3l : Nat} {d0_3c : Nat} {d0_4p : Option Addr} {d0_4l : Nat} {d0_4c : Nat} {d0_5 : ByteArray} {w : World} {J : Int → World → Prop} (h : VC_tree_Check d0_0 d0_1 d0_2 d0_3p d0_3l d0_3c d0_4p d0_4l d0_4c d0_5 w J) : callJ Tryz.prog fn_tree_Check #[.agg ⟨[.int .i64 d0_0, .string d0_1, .string d0_2, .slice d0_3p d0_3l d0_3c, .slice d0_4p d0_4l d0_4c, .string d0_5]⟩] w [.one (.int .i64)] J := vc_calls Tryz.func18 ann_tree_Check (Eq.mpr (eq_tree_Check d0_0 d0_1 d0_2 d0_3p d0_3l d0_3c d0_4p d0_4l d0_4c d0_5 w J) h)

/-- lectern/tree.flat -/
def VC_tree_flat (n0_0 : Int) (n0_1 : ByteArray) (n0_2 : ByteArray) (n0_3p : Option Addr) (n0_3l : Nat) (n0_3c : Nat) (n0_4p : Option Addr) (n0_4l : Nat) (n0_4c : Nat) (n0_5 : ByteArray) (l1p : Option Addr) (l1l : Nat) (l1c : Nat) (w : World) (J : Option Addr → Nat → Nat → World → Prop) : Prop :=
  newB w (.cells ⟨[.int .i64 n0_0, .string n0_1, .string n0_2, .slice n0_3p n0_3l n0_3c, .slice n0_4p n0_4l n0_4c, .string n0_5]⟩ T_api_Node) fun b2 w1 =>
  ldI .i64 w1 ⟨b2, 0, none⟩ fun x8_0 =>
  ldStr w1 ⟨b2, 1, none⟩ fun x8_1 =>
  ldStr w1 ⟨b2, 2, none⟩ fun x8_2 =>
  ldS w1 ⟨b2, 3, none⟩ fun x8_3p x8_3l x8_3c =>
  ldS w1 ⟨b2, 4, none⟩ fun x8_4p x8_4l x8_4c =>
  ldStr w1 ⟨b2, 5, none⟩ fun x8_5 =>
  Array.size (⟨[.int .i64 x8_0, .string x8_1, .string x8_2, .slice x8_3p x8_3l x8_3c, .slice x8_4p x8_4l x8_4c, .string x8_5]⟩ : Array Value) = 6 ∧
  newB w1 (.cells ⟨[.int .i64 x8_0, .string x8_1, .string x8_2, .slice x8_3p x8_3l x8_3c, .slice x8_4p x8_4l x8_4c, .string x8_5]⟩ T_api_Node) fun b9 w2 =>
  appJ Tryz.prog T_sl_api_Node T_sl_api_Node (.slice l1p l1l l1c) (.slice (some ⟨b9, 0, none⟩) 1 1) w2 fun q10p q10l q10c w3 =>
  ldS w3 ⟨b2, 4, none⟩ fun x12p x12l x12c =>
  ∃ I_1 : Option Addr → Nat → Nat → Int → World → Nat → Prop, (∃ m : Nat, I_1 q10p q10l q10c (0 : Int) w3 m) ∧ ∀ (l1p : Option Addr) (l1l : Nat) (l1c : Nat) (x14 : Int) (w4 : World) (m : Nat), I_1 l1p l1l l1c x14 w4 m → (
  condB (decide (x14 < ((x12l : Nat) : Int))) (
  idxA x12p x12l x14 fun a16 =>
  ldI .i64 w4 ((a16.add (x14.toNat * 6))) fun x17_0 =>
  ldStr w4 (((a16.add (x14.toNat * 6)).add 1)) fun x17_1 =>
  ldStr w4 (((a16.add (x14.toNat * 6)).add 2)) fun x17_2 =>
  ldS w4 (((a16.add (x14.toNat * 6)).add 3)) fun x17_3p x17_3l x17_3c =>
  ldS w4 (((a16.add (x14.toNat * 6)).add 4)) fun x17_4p x17_4l x17_4c =>
  ldStr w4 (((a16.add (x14.toNat * 6)).add 5)) fun x17_5 =>
  newB w4 (.cells (zeroC Tryz.prog T_api_Node) T_api_Node) fun b6 w5 =>
  stN w5 ⟨b6, 0, none⟩ ⟨[.int .i64 x17_0, .string x17_1, .string x17_2, .slice x17_3p x17_3l x17_3c, .slice x17_4p x17_4l x17_4c, .string x17_5]⟩ 6 fun w6 =>
  ldI .i64 w6 ⟨b6, 0, none⟩ fun x18_0 =>
  ldStr w6 ⟨b6, 1, none⟩ fun x18_1 =>
  ldStr w6 ⟨b6, 2, none⟩ fun x18_2 =>
  ldS w6 ⟨b6, 3, none⟩ fun x18_3p x18_3l x18_3c =>
  ldS w6 ⟨b6, 4, none⟩ fun x18_4p x18_4l x18_4c =>
  ldStr w6 ⟨b6, 5, none⟩ fun x18_5 =>
  callJ Tryz.prog fn_tree_flat #[.agg ⟨[.int .i64 x18_0, .string x18_1, .string x18_2, .slice x18_3p x18_3l x18_3c, .slice x18_4p x18_4l x18_4c, .string x18_5]⟩, .slice l1p l1l l1c] w6 [.one .slice] fun (r20p : Option Addr) (r20l : Nat) (r20c : Nat) (w7 : World) =>
  ∃ m' : Nat, m' < m ∧ I_1 r20p r20l r20c (w64 (x14 + (1 : Int))) w7 m') (
  J l1p l1l l1c w4))
def ann_tree_flat : Ann := .s (.o) (.s (.o) (.s (.s (.o) (.b (.l [(1, .slice), (14, .int .i64)] (.s (.o) (.s (.c (.o) (.o)) (.s (.b (.s (.o) (.o))) (.o))))))) (.s (.o) (.o))))
theorem eq_tree_flat (n0_0 : Int) (n0_1 : ByteArray) (n0_2 : ByteArray) (n0_3p : Option Addr) (n0_3l : Nat) (n0_3c : Nat) (n0_4p : Option Addr) (n0_4l : Nat) (n0_4c : Nat) (n0_5 : ByteArray) (l1p : Option Addr) (l1l : Nat) (l1c : Nat) (w : World) (J : Option Addr → Nat → Nat → World → Prop) : vcFun Tryz.prog Tryz.f27 ann_tree_flat [.one .slice] [.agg ⟨[.int .i64 n0_0, .string n0_1, .string n0_2, .slice n0_3p n0_3l n0_3c, .slice n0_4p n0_4l n0_4c, .string n0_5]⟩, .slice l1p l1l l1c] w J = VC_tree_flat n0_0 n0_1 n0_2 n0_3p n0_3l n0_3c n0_4p n0_4l n0_4c n0_5 l1p l1l l1c w J := by kernel_rfl
theorem c_tree_flat {n0_0 : Int} {n0_1 : ByteArray} {n0_2 : ByteArray} {n0_3p : Option Addr} {n0_3l : Nat} {n0_3c : Nat} {n0_4p : Option Addr} {n0_4l : Nat} {n0_4c : Nat} {n0_5 : ByteArray} {l1p : Option Addr} {l1l : Nat} {l1c : Nat} {w : World} {J : Option Addr → Nat → Nat → World → Prop} (h : VC_tree_flat n0_0 n0_1 n0_2 n0_3p n0_3l n0_3c n0_4p n0_4l n0_4c n0_5 l1p l1l l1c w J) : callJ Tryz.prog fn_tree_flat #[.agg ⟨[.int .i64 n0_0, .string n0_1, .string n0_2, .slice n0_3p n0_3l n0_3c, .slice n0_4p n0_4l n0_4c, .string n0_5]⟩, .slice l1p l1l l1c] w [.one .slice] J := vc_calls Tryz.func27 ann_tree_flat (Eq.mpr (eq_tree_flat n0_0 n0_1 n0_2 n0_3p n0_3l n0_3c n0_4p n0_4l n0_4c n0_5 l1p l1l l1c w J) h)

/-- lectern/tree.odd -/
def VC_tree_odd (n0_0 : Int) (n0_1 : ByteArray) (n0_2 : ByteArray) (n0_3p : Option Addr) (n0_3l : Nat) (n0_3c : Nat) (n0_4p : Option Addr) (n0_4l : Nat) (n0_4c : Nat) (n0_5 : ByteArray) (w : World) (J : Bool → World → Prop) : Prop :=
  newB w (.cells ⟨[.int .i64 n0_0, .string n0_1, .string n0_2, .slice n0_3p n0_3l n0_3c, .slice n0_4p n0_4l n0_4c, .string n0_5]⟩ T_api_Node) fun b1 w1 =>
  withJ (fun (bad3 : Bool) (w2 : World) =>
  withJ (fun (bad3_1 : Bool) (w3 : World) =>
  withJ (fun (x2 : Bool) (w4 : World) =>
  J x2 w4) fun J_2 =>
  condB bad3_1 (
  J_2 true w3) (
  ldS w3 ⟨b1, 4, none⟩ fun x53p x53l x53c =>
  callJ Tryz.prog fn_slices_ContainsFunc_sl_api_Node_api_Node #[.slice x53p x53l x53c, .func (.func 51) #[] #[.pointer (some ⟨b1, 0, none⟩)]] w3 [.one .bool] fun (r55 : Bool) (w5 : World) =>
  J_2 r55 w5)) fun J_3_1 =>
  ldI .i64 w2 ⟨b1, 0, none⟩ fun x14 =>
  condB (x14 == (1 : Int)) (
  condB bad3 (
  J_3_1 true w2) (
  ldStr w2 ⟨b1, 1, none⟩ fun x27_0 =>
  ldStr w2 ⟨b1, 2, none⟩ fun x27_1 =>
  condB (!((x27_0.toList == ByteArray.empty.toList) && ((x27_1.toList == ByteArray.empty.toList) && true))) (
  J_3_1 true w2) (
  ldStr w2 ⟨b1, 5, none⟩ fun x33 =>
  J_3_1 (!(x33.toList == (⟨#[]⟩ : ByteArray).toList)) w2))) (
  condB (x14 == (2 : Int)) (
  ldStr w2 ⟨b1, 5, none⟩ fun x39 =>
  J_3_1 (!(x39.toList == (⟨#[]⟩ : ByteArray).toList)) w2) (
  condB (x14 == (5 : Int)) (
  condB bad3 (
  J_3_1 true w2) (
  ldStr w2 ⟨b1, 1, none⟩ fun x47 =>
  J_3_1 (!(x47.toList == (⟨#[]⟩ : ByteArray).toList)) w2)) (
  condB bad3 (
  J_3_1 true w2) (
  ldStr w2 ⟨b1, 1, none⟩ fun x18_0 =>
  ldStr w2 ⟨b1, 2, none⟩ fun x18_1 =>
  J_3_1 (!((x18_0.toList == ByteArray.empty.toList) && ((x18_1.toList == ByteArray.empty.toList) && true))) w2))))) fun J_3 =>
  ldI .i64 w1 ⟨b1, 0, none⟩ fun x5 =>
  condB (x5 != (2 : Int)) (
  ldS w1 ⟨b1, 3, none⟩ fun x9p x9l x9c =>
  J_3 (decide (((x9l : Nat) : Int) > (0 : Int))) w1) (
  J_3 false w1)
def ann_tree_odd : Ann := .s (.o) (.j [(3, .bool)] (.o) (.j [(3, .bool)] (.s (.o) (.b (.s (.o) (.c (.o) (.s (.o) (.c (.o) (.s (.o) (.c (.o) (.o))))))))) (.j [(2, .bool)] (.o) (.o))))
theorem eq_tree_odd (n0_0 : Int) (n0_1 : ByteArray) (n0_2 : ByteArray) (n0_3p : Option Addr) (n0_3l : Nat) (n0_3c : Nat) (n0_4p : Option Addr) (n0_4l : Nat) (n0_4c : Nat) (n0_5 : ByteArray) (w : World) (J : Bool → World → Prop) : vcFun Tryz.prog Tryz.f29 ann_tree_odd [.one .bool] [.agg ⟨[.int .i64 n0_0, .string n0_1, .string n0_2, .slice n0_3p n0_3l n0_3c, .slice n0_4p n0_4l n0_4c, .string n0_5]⟩] w J = VC_tree_odd n0_0 n0_1 n0_2 n0_3p n0_3l n0_3c n0_4p n0_4l n0_4c n0_5 w J := by kernel_rfl
theorem c_tree_odd {n0_0 : Int} {n0_1 : ByteArray} {n0_2 : ByteArray} {n0_3p : Option Addr} {n0_3l : Nat} {n0_3c : Nat} {n0_4p : Option Addr} {n0_4l : Nat} {n0_4c : Nat} {n0_5 : ByteArray} {w : World} {J : Bool → World → Prop} (h : VC_tree_odd n0_0 n0_1 n0_2 n0_3p n0_3l n0_3c n0_4p n0_4l n0_4c n0_5 w J) : callJ Tryz.prog fn_tree_odd #[.agg ⟨[.int .i64 n0_0, .string n0_1, .string n0_2, .slice n0_3p n0_3l n0_3c, .slice n0_4p n0_4l n0_4c, .string n0_5]⟩] w [.one .bool] J := vc_calls Tryz.func29 ann_tree_odd (Eq.mpr (eq_tree_odd n0_0 n0_1 n0_2 n0_3p n0_3l n0_3c n0_4p n0_4l n0_4c n0_5 w J) h)

/-- lectern/tree.odd$1 -/
def VC_tree_odd_1 (k0_0 : Int) (k0_1 : ByteArray) (k0_2 : ByteArray) (k0_3p : Option Addr) (k0_3l : Nat) (k0_3c : Nat) (k0_4p : Option Addr) (k0_4l : Nat) (k0_4c : Nat) (k0_5 : ByteArray) (fv0 : Addr) (w : World) (J : Bool → World → Prop) : Prop :=
  newB w (.cells ⟨[.int .i64 k0_0, .string k0_1, .string k0_2, .slice k0_3p k0_3l k0_3c, .slice k0_4p k0_4l k0_4c, .string k0_5]⟩ T_api_Node) fun b2 w1 =>
  ldI .i64 w1 fv0 fun x5 =>
  ldI .i64 w1 ⟨b2, 0, none⟩ fun x7 =>
  callJ Tryz.prog fn_tree_may #[.int .i64 x5, .int .i64 x7] w1 [.one .bool] fun (r8 : Bool) (w2 : World) =>
  J (!r8) w2
def ann_tree_odd_1 : Ann := .s (.o) (.s (.o) (.o))
theorem eq_tree_odd_1 (k0_0 : Int) (k0_1 : ByteArray) (k0_2 : ByteArray) (k0_3p : Option Addr) (k0_3l : Nat) (k0_3c : Nat) (k0_4p : Option Addr) (k0_4l : Nat) (k0_4c : Nat) (k0_5 : ByteArray) (fv0 : Addr) (w : World) (J : Bool → World → Prop) : vcFun Tryz.prog Tryz.f51 ann_tree_odd_1 [.one .bool] [.agg ⟨[.int .i64 k0_0, .string k0_1, .string k0_2, .slice k0_3p k0_3l k0_3c, .slice k0_4p k0_4l k0_4c, .string k0_5]⟩, .pointer (some fv0)] w J = VC_tree_odd_1 k0_0 k0_1 k0_2 k0_3p k0_3l k0_3c k0_4p k0_4l k0_4c k0_5 fv0 w J := by kernel_rfl
theorem c_tree_odd_1 {k0_0 : Int} {k0_1 : ByteArray} {k0_2 : ByteArray} {k0_3p : Option Addr} {k0_3l : Nat} {k0_3c : Nat} {k0_4p : Option Addr} {k0_4l : Nat} {k0_4c : Nat} {k0_5 : ByteArray} {fv0 : Addr} {w : World} {J : Bool → World → Prop} (h : VC_tree_odd_1 k0_0 k0_1 k0_2 k0_3p k0_3l k0_3c k0_4p k0_4l k0_4c k0_5 fv0 w J) : callJ Tryz.prog fn_tree_odd_1 #[.agg ⟨[.int .i64 k0_0, .string k0_1, .string k0_2, .slice k0_3p k0_3l k0_3c, .slice k0_4p k0_4l k0_4c, .string k0_5]⟩, .pointer (some fv0)] w [.one .bool] J := vc_calls Tryz.func51 ann_tree_odd_1 (Eq.mpr (eq_tree_odd_1 k0_0 k0_1 k0_2 k0_3p k0_3l k0_3c k0_4p k0_4l k0_4c k0_5 fv0 w J) h)

/-- lectern/tree.may -/
def VC_tree_may (parent0 : Int) (kid1 : Int) (w : World) (J : Bool → World → Prop) : Prop :=
  condB (parent0 == (1 : Int)) (
  withJ (fun (x4 : Bool) (w1 : World) =>
  J x4 w1) fun J_4 =>
  condB (kid1 == (2 : Int)) (
  J_4 true w) (
  condB (kid1 == (4 : Int)) (
  J_4 true w) (
  J_4 (kid1 == (5 : Int)) w))) (
  condB (parent0 == (2 : Int)) (
  withJ (fun (x4_1 : Bool) (w2 : World) =>
  J x4_1 w2) fun J_4_1 =>
  condB (decide (kid1 ≥ (2 : Int))) (
  J_4_1 (decide (kid1 ≤ (5 : Int))) w) (
  J_4_1 false w)) (
  J false w))
def ann_tree_may : Ann := .s (.o) (.s (.s (.o) (.b (.s (.o) (.c (.j [(4, .bool)] (.o) (.o)) (.s (.o) (.c (.j [(4, .bool)] (.o) (.o)) (.o))))))) (.s (.o) (.o)))
theorem eq_tree_may (parent0 : Int) (kid1 : Int) (w : World) (J : Bool → World → Prop) : vcFun Tryz.prog Tryz.f52 ann_tree_may [.one .bool] [.int .i64 parent0, .int .i64 kid1] w J = VC_tree_may parent0 kid1 w J := by kernel_rfl
theorem c_tree_may {parent0 : Int} {kid1 : Int} {w : World} {J : Bool → World → Prop} (h : VC_tree_may parent0 kid1 w J) : callJ Tryz.prog fn_tree_may #[.int .i64 parent0, .int .i64 kid1] w [.one .bool] J := vc_calls Tryz.func52 ann_tree_may (Eq.mpr (eq_tree_may parent0 kid1 w J) h)

/-- lectern/tree.deep -/
def VC_tree_deep (n0_0 : Int) (n0_1 : ByteArray) (n0_2 : ByteArray) (n0_3p : Option Addr) (n0_3l : Nat) (n0_3c : Nat) (n0_4p : Option Addr) (n0_4l : Nat) (n0_4c : Nat) (n0_5 : ByteArray) (above1 : Int) (w : World) (J : Bool → World → Prop) : Prop :=
  newB w (.cells ⟨[.int .i64 n0_0, .string n0_1, .string n0_2, .slice n0_3p n0_3l n0_3c, .slice n0_4p n0_4l n0_4c, .string n0_5]⟩ T_api_Node) fun b2 w1 =>
  newB w1 (.cells #[.int .i64 above1] T_int) fun b3 w2 =>
  withJ (fun (w3 : World) =>
  ldS w3 ⟨b2, 4, none⟩ fun x13p x13l x13c =>
  callJ Tryz.prog fn_slices_ContainsFunc_sl_api_Node_api_Node #[.slice x13p x13l x13c, .func (.func 53) #[] #[.pointer (some ⟨b3, 0, none⟩)]] w3 [.one .bool] fun (r15 : Bool) (w4 : World) =>
  J r15 w4) fun J_0 =>
  ldI .i64 w2 ⟨b2, 0, none⟩ fun x6 =>
  condB (x6 == (2 : Int)) (
  ldI .i64 w2 ⟨b3, 0, none⟩ fun x8 =>
  condB (decide (x8 > (32 : Int))) (
  J true w2) (
  ldI .i64 w2 ⟨b3, 0, none⟩ fun x10 =>
  stV w2 ⟨b3, 0, none⟩ (.int .i64 (w64 (x10 + (1 : Int)))) fun w5 =>
  J_0 w5)) (
  J_0 w2)
def ann_tree_deep : Ann := .s (.o) (.j [] (.s (.o) (.c (.s (.s (.o) (.c (.s (.o) (.o)) (.o))) (.o)) (.o))) (.s (.o) (.o)))
theorem eq_tree_deep (n0_0 : Int) (n0_1 : ByteArray) (n0_2 : ByteArray) (n0_3p : Option Addr) (n0_3l : Nat) (n0_3c : Nat) (n0_4p : Option Addr) (n0_4l : Nat) (n0_4c : Nat) (n0_5 : ByteArray) (above1 : Int) (w : World) (J : Bool → World → Prop) : vcFun Tryz.prog Tryz.f30 ann_tree_deep [.one .bool] [.agg ⟨[.int .i64 n0_0, .string n0_1, .string n0_2, .slice n0_3p n0_3l n0_3c, .slice n0_4p n0_4l n0_4c, .string n0_5]⟩, .int .i64 above1] w J = VC_tree_deep n0_0 n0_1 n0_2 n0_3p n0_3l n0_3c n0_4p n0_4l n0_4c n0_5 above1 w J := by kernel_rfl
theorem c_tree_deep {n0_0 : Int} {n0_1 : ByteArray} {n0_2 : ByteArray} {n0_3p : Option Addr} {n0_3l : Nat} {n0_3c : Nat} {n0_4p : Option Addr} {n0_4l : Nat} {n0_4c : Nat} {n0_5 : ByteArray} {above1 : Int} {w : World} {J : Bool → World → Prop} (h : VC_tree_deep n0_0 n0_1 n0_2 n0_3p n0_3l n0_3c n0_4p n0_4l n0_4c n0_5 above1 w J) : callJ Tryz.prog fn_tree_deep #[.agg ⟨[.int .i64 n0_0, .string n0_1, .string n0_2, .slice n0_3p n0_3l n0_3c, .slice n0_4p n0_4l n0_4c, .string n0_5]⟩, .int .i64 above1] w [.one .bool] J := vc_calls Tryz.func30 ann_tree_deep (Eq.mpr (eq_tree_deep n0_0 n0_1 n0_2 n0_3p n0_3l n0_3c n0_4p n0_4l n0_4c n0_5 above1 w J) h)

/-- lectern/tree.deep$1 -/
def VC_tree_deep_1 (k0_0 : Int) (k0_1 : ByteArray) (k0_2 : ByteArray) (k0_3p : Option Addr) (k0_3l : Nat) (k0_3c : Nat) (k0_4p : Option Addr) (k0_4l : Nat) (k0_4c : Nat) (k0_5 : ByteArray) (fv0 : Addr) (w : World) (J : Bool → World → Prop) : Prop :=
  newB w (.cells ⟨[.int .i64 k0_0, .string k0_1, .string k0_2, .slice k0_3p k0_3l k0_3c, .slice k0_4p k0_4l k0_4c, .string k0_5]⟩ T_api_Node) fun b2 w1 =>
  ldI .i64 w1 ⟨b2, 0, none⟩ fun x4_0 =>
  ldStr w1 ⟨b2, 1, none⟩ fun x4_1 =>
  ldStr w1 ⟨b2, 2, none⟩ fun x4_2 =>
  ldS w1 ⟨b2, 3, none⟩ fun x4_3p x4_3l x4_3c =>
  ldS w1 ⟨b2, 4, none⟩ fun x4_4p x4_4l x4_4c =>
  ldStr w1 ⟨b2, 5, none⟩ fun x4_5 =>
  ldI .i64 w1 fv0 fun x5 =>
  callJ Tryz.prog fn_tree_deep #[.agg ⟨[.int .i64 x4_0, .string x4_1, .string x4_2, .slice x4_3p x4_3l x4_3c, .slice x4_4p x4_4l x4_4c, .string x4_5]⟩, .int .i64 x5] w1 [.one .bool] fun (r6 : Bool) (w2 : World) =>
  J r6 w2
def ann_tree_deep_1 : Ann := .s (.o) (.s (.o) (.o))
theorem eq_tree_deep_1 (k0_0 : Int) (k0_1 : ByteArray) (k0_2 : ByteArray) (k0_3p : Option Addr) (k0_3l : Nat) (k0_3c : Nat) (k0_4p : Option Addr) (k0_4l : Nat) (k0_4c : Nat) (k0_5 : ByteArray) (fv0 : Addr) (w : World) (J : Bool → World → Prop) : vcFun Tryz.prog Tryz.f53 ann_tree_deep_1 [.one .bool] [.agg ⟨[.int .i64 k0_0, .string k0_1, .string k0_2, .slice k0_3p k0_3l k0_3c, .slice k0_4p k0_4l k0_4c, .string k0_5]⟩, .pointer (some fv0)] w J = VC_tree_deep_1 k0_0 k0_1 k0_2 k0_3p k0_3l k0_3c k0_4p k0_4l k0_4c k0_5 fv0 w J := by kernel_rfl
theorem c_tree_deep_1 {k0_0 : Int} {k0_1 : ByteArray} {k0_2 : ByteArray} {k0_3p : Option Addr} {k0_3l : Nat} {k0_3c : Nat} {k0_4p : Option Addr} {k0_4l : Nat} {k0_4c : Nat} {k0_5 : ByteArray} {fv0 : Addr} {w : World} {J : Bool → World → Prop} (h : VC_tree_deep_1 k0_0 k0_1 k0_2 k0_3p k0_3l k0_3c k0_4p k0_4l k0_4c k0_5 fv0 w J) : callJ Tryz.prog fn_tree_deep_1 #[.agg ⟨[.int .i64 k0_0, .string k0_1, .string k0_2, .slice k0_3p k0_3l k0_3c, .slice k0_4p k0_4l k0_4c, .string k0_5]⟩, .pointer (some fv0)] w [.one .bool] J := vc_calls Tryz.func53 ann_tree_deep_1 (Eq.mpr (eq_tree_deep_1 k0_0 k0_1 k0_2 k0_3p k0_3l k0_3c k0_4p k0_4l k0_4c k0_5 fv0 w J) h)

/-- lectern/tree.great -/
def VC_tree_great (n0_0 : Int) (n0_1 : ByteArray) (n0_2 : ByteArray) (n0_3p : Option Addr) (n0_3l : Nat) (n0_3c : Nat) (n0_4p : Option Addr) (n0_4l : Nat) (n0_4c : Nat) (n0_5 : ByteArray) (w : World) (J : Bool → World → Prop) : Prop :=
  newB w (.cells ⟨[.int .i64 n0_0, .string n0_1, .string n0_2, .slice n0_3p n0_3l n0_3c, .slice n0_4p n0_4l n0_4c, .string n0_5]⟩ T_api_Node) fun b1 w1 =>
  withJ (fun (x2 : Bool) (w2 : World) =>
  J x2 w2) fun J_2 =>
  ldS w1 ⟨b1, 3, none⟩ fun x5p x5l x5c =>
  condB (decide (((x5l : Nat) : Int) > (64 : Int))) (
  J_2 true w1) (
  ldStr w1 ⟨b1, 5, none⟩ fun x10 =>
  condB (decide ((x10.size : Int) > (8192 : Int))) (
  J_2 true w1) (
  ldS w1 ⟨b1, 3, none⟩ fun x16p x16l x16c =>
  callJ Tryz.prog fn_slices_ContainsFunc_sl_api_Attr_api_Attr #[.slice x16p x16l x16c, .func (.func 54) #[] #[]] w1 [.one .bool] fun (r18 : Bool) (w3 : World) =>
  J_2 r18 w3))
def ann_tree_great : Ann := .s (.o) (.s (.o) (.j [(2, .bool)] (.o) (.o)))
theorem eq_tree_great (n0_0 : Int) (n0_1 : ByteArray) (n0_2 : ByteArray) (n0_3p : Option Addr) (n0_3l : Nat) (n0_3c : Nat) (n0_4p : Option Addr) (n0_4l : Nat) (n0_4c : Nat) (n0_5 : ByteArray) (w : World) (J : Bool → World → Prop) : vcFun Tryz.prog Tryz.f31 ann_tree_great [.one .bool] [.agg ⟨[.int .i64 n0_0, .string n0_1, .string n0_2, .slice n0_3p n0_3l n0_3c, .slice n0_4p n0_4l n0_4c, .string n0_5]⟩] w J = VC_tree_great n0_0 n0_1 n0_2 n0_3p n0_3l n0_3c n0_4p n0_4l n0_4c n0_5 w J := by kernel_rfl
theorem c_tree_great {n0_0 : Int} {n0_1 : ByteArray} {n0_2 : ByteArray} {n0_3p : Option Addr} {n0_3l : Nat} {n0_3c : Nat} {n0_4p : Option Addr} {n0_4l : Nat} {n0_4c : Nat} {n0_5 : ByteArray} {w : World} {J : Bool → World → Prop} (h : VC_tree_great n0_0 n0_1 n0_2 n0_3p n0_3l n0_3c n0_4p n0_4l n0_4c n0_5 w J) : callJ Tryz.prog fn_tree_great #[.agg ⟨[.int .i64 n0_0, .string n0_1, .string n0_2, .slice n0_3p n0_3l n0_3c, .slice n0_4p n0_4l n0_4c, .string n0_5]⟩] w [.one .bool] J := vc_calls Tryz.func31 ann_tree_great (Eq.mpr (eq_tree_great n0_0 n0_1 n0_2 n0_3p n0_3l n0_3c n0_4p n0_4l n0_4c n0_5 w J) h)

/-- lectern/tree.great$1 -/
def VC_tree_great_1 (a0_0 : ByteArray) (a0_1 : ByteArray) (a0_2 : ByteArray) (w : World) (J : Bool → World → Prop) : Prop :=
  newB w (.cells ⟨[.string a0_0, .string a0_1, .string a0_2]⟩ T_api_Attr) fun b1 w1 =>
  ldStr w1 ⟨b1, 2, none⟩ fun x4 =>
  J (decide ((x4.size : Int) > (8192 : Int))) w1
def ann_tree_great_1 : Ann := .s (.o) (.s (.o) (.o))
theorem eq_tree_great_1 (a0_0 : ByteArray) (a0_1 : ByteArray) (a0_2 : ByteArray) (w : World) (J : Bool → World → Prop) : vcFun Tryz.prog Tryz.f54 ann_tree_great_1 [.one .bool] [.agg ⟨[.string a0_0, .string a0_1, .string a0_2]⟩] w J = VC_tree_great_1 a0_0 a0_1 a0_2 w J := by kernel_rfl
theorem c_tree_great_1 {a0_0 : ByteArray} {a0_1 : ByteArray} {a0_2 : ByteArray} {w : World} {J : Bool → World → Prop} (h : VC_tree_great_1 a0_0 a0_1 a0_2 w J) : callJ Tryz.prog fn_tree_great_1 #[.agg ⟨[.string a0_0, .string a0_1, .string a0_2]⟩] w [.one .bool] J := vc_calls Tryz.func54 ann_tree_great_1 (Eq.mpr (eq_tree_great_1 a0_0 a0_1 a0_2 w J) h)

/-- lectern/tree.misnamed -/
def VC_tree_misnamed (n0_0 : Int) (n0_1 : ByteArray) (n0_2 : ByteArray) (n0_3p : Option Addr) (n0_3l : Nat) (n0_3c : Nat) (n0_4p : Option Addr) (n0_4l : Nat) (n0_4c : Nat) (n0_5 : ByteArray) (w : World) (J : Bool → World → Prop) : Prop :=
  newB w (.cells ⟨[.int .i64 n0_0, .string n0_1, .string n0_2, .slice n0_3p n0_3l n0_3c, .slice n0_4p n0_4l n0_4c, .string n0_5]⟩ T_api_Node) fun b1 w1 =>
  ldI .i64 w1 ⟨b1, 0, none⟩ fun x5 =>
  condB (x5 == (2 : Int)) (
  withJ (fun (x2 : Bool) (w2 : World) =>
  J x2 w2) fun J_2 =>
  ldStr w1 ⟨b1, 1, none⟩ fun x9_0 =>
  ldStr w1 ⟨b1, 2, none⟩ fun x9_1 =>
  callJ Tryz.prog fn_tree_wrongName #[.agg ⟨[.string x9_0, .string x9_1]⟩] w1 [.one .bool] fun (r10 : Bool) (w3 : World) =>
  condB r10 (
  J_2 true w3) (
  ldS w3 ⟨b1, 3, none⟩ fun x13p x13l x13c =>
  callJ Tryz.prog fn_slices_ContainsFunc_sl_api_Attr_api_Attr #[.slice x13p x13l x13c, .func (.func 56) #[] #[]] w3 [.one .bool] fun (r15 : Bool) (w4 : World) =>
  J_2 r15 w4)) (
  condB (x5 == (5 : Int)) (
  withJ (fun (x2_1 : Bool) (w5 : World) =>
  J x2_1 w5) fun J_2_1 =>
  ldStr w1 ⟨b1, 2, none⟩ fun x21 =>
  callJ Tryz.prog fn_char_Name #[.string x21] w1 [.one .bool] fun (r22 : Bool) (w6 : World) =>
  condB (!r22) (
  J_2_1 true w6) (
  ldStr w6 ⟨b1, 2, none⟩ fun x27 =>
  callJ Tryz.prog fn_strings_EqualFold #[.string x27, .string ⟨#[120, 109, 108]⟩] w6 [.one .bool] fun (r28 : Bool) (w7 : World) =>
  J_2_1 r28 w7)) (
  J false w1))
def ann_tree_misnamed : Ann := .s (.o) (.s (.o) (.s (.s (.o) (.b (.s (.o) (.c (.j [(2, .bool)] (.o) (.o)) (.s (.o) (.c (.j [(2, .bool)] (.o) (.o)) (.o))))))) (.s (.o) (.o))))
theorem eq_tree_misnamed (n0_0 : Int) (n0_1 : ByteArray) (n0_2 : ByteArray) (n0_3p : Option Addr) (n0_3l : Nat) (n0_3c : Nat) (n0_4p : Option Addr) (n0_4l : Nat) (n0_4c : Nat) (n0_5 : ByteArray) (w : World) (J : Bool → World → Prop) : vcFun Tryz.prog Tryz.f32 ann_tree_misnamed [.one .bool] [.agg ⟨[.int .i64 n0_0, .string n0_1, .string n0_2, .slice n0_3p n0_3l n0_3c, .slice n0_4p n0_4l n0_4c, .string n0_5]⟩] w J = VC_tree_misnamed n0_0 n0_1 n0_2 n0_3p n0_3l n0_3c n0_4p n0_4l n0_4c n0_5 w J := by kernel_rfl
theorem c_tree_misnamed {n0_0 : Int} {n0_1 : ByteArray} {n0_2 : ByteArray} {n0_3p : Option Addr} {n0_3l : Nat} {n0_3c : Nat} {n0_4p : Option Addr} {n0_4l : Nat} {n0_4c : Nat} {n0_5 : ByteArray} {w : World} {J : Bool → World → Prop} (h : VC_tree_misnamed n0_0 n0_1 n0_2 n0_3p n0_3l n0_3c n0_4p n0_4l n0_4c n0_5 w J) : callJ Tryz.prog fn_tree_misnamed #[.agg ⟨[.int .i64 n0_0, .string n0_1, .string n0_2, .slice n0_3p n0_3l n0_3c, .slice n0_4p n0_4l n0_4c, .string n0_5]⟩] w [.one .bool] J := vc_calls Tryz.func32 ann_tree_misnamed (Eq.mpr (eq_tree_misnamed n0_0 n0_1 n0_2 n0_3p n0_3l n0_3c n0_4p n0_4l n0_4c n0_5 w J) h)

/-- lectern/tree.misnamed$1 -/
def VC_tree_misnamed_1 (a0_0 : ByteArray) (a0_1 : ByteArray) (a0_2 : ByteArray) (w : World) (J : Bool → World → Prop) : Prop :=
  newB w (.cells ⟨[.string a0_0, .string a0_1, .string a0_2]⟩ T_api_Attr) fun b1 w1 =>
  withJ (fun (x2 : Bool) (w2 : World) =>
  J x2 w2) fun J_2 =>
  ldStr w1 ⟨b1, 0, none⟩ fun x4_0 =>
  ldStr w1 ⟨b1, 1, none⟩ fun x4_1 =>
  callJ Tryz.prog fn_tree_wrongName #[.agg ⟨[.string x4_0, .string x4_1]⟩] w1 [.one .bool] fun (r5 : Bool) (w3 : World) =>
  condB r5 (
  J_2 true w3) (
  ldStr w3 ⟨b1, 0, none⟩ fun x8_0 =>
  ldStr w3 ⟨b1, 1, none⟩ fun x8_1 =>
  J_2 ((x8_0.toList == ByteArray.empty.toList) && ((x8_1.toList == (⟨#[120, 109, 108, 110, 115]⟩ : ByteArray).toList) && true)) w3)
def ann_tree_misnamed_1 : Ann := .s (.o) (.j [(2, .bool)] (.o) (.o))
theorem eq_tree_misnamed_1 (a0_0 : ByteArray) (a0_1 : ByteArray) (a0_2 : ByteArray) (w : World) (J : Bool → World → Prop) : vcFun Tryz.prog Tryz.f56 ann_tree_misnamed_1 [.one .bool] [.agg ⟨[.string a0_0, .string a0_1, .string a0_2]⟩] w J = VC_tree_misnamed_1 a0_0 a0_1 a0_2 w J := by kernel_rfl
theorem c_tree_misnamed_1 {a0_0 : ByteArray} {a0_1 : ByteArray} {a0_2 : ByteArray} {w : World} {J : Bool → World → Prop} (h : VC_tree_misnamed_1 a0_0 a0_1 a0_2 w J) : callJ Tryz.prog fn_tree_misnamed_1 #[.agg ⟨[.string a0_0, .string a0_1, .string a0_2]⟩] w [.one .bool] J := vc_calls Tryz.func56 ann_tree_misnamed_1 (Eq.mpr (eq_tree_misnamed_1 a0_0 a0_1 a0_2 w J) h)

/-- lectern/tree.wrongName -/
def VC_tree_wrongName (n0_0 : ByteArray) (n0_1 : ByteArray) (w : World) (J : Bool → World → Prop) : Prop :=
  newB w (.cells ⟨[.string n0_0, .string n0_1]⟩ T_api_Name) fun b1 w1 =>
  withJ (fun (x2 : Bool) (w2 : World) =>
  J x2 w2) fun J_2 =>
  ldStr w1 ⟨b1, 1, none⟩ fun x4 =>
  callJ Tryz.prog fn_char_Name #[.string x4] w1 [.one .bool] fun (r5 : Bool) (w3 : World) =>
  condB (!r5) (
  J_2 true w3) (
  ldStr w3 ⟨b1, 0, none⟩ fun x9 =>
  condB (decide ((x9.size : Int) > (100 : Int))) (
  J_2 true w3) (
  ldStr w3 ⟨b1, 0, none⟩ fun x15 =>
  callJ Tryz.prog fn_tree_bad #[.string x15] w3 [.one .bool] fun (r16 : Bool) (w4 : World) =>
  condB r16 (
  J_2 true w4) (
  ldStr w4 ⟨b1, 0, none⟩ fun x20 =>
  J_2 (x20.toList == (⟨#[104, 116, 116, 112, 58, 47, 47, 119, 119, 119, 46, 119, 51, 46, 111, 114, 103, 47, 50, 48, 48, 48, 47, 120, 109, 108, 110, 115, 47]⟩ : ByteArray).toList) w4)))
def ann_tree_wrongName : Ann := .s (.o) (.j [(2, .bool)] (.o) (.o))
theorem eq_tree_wrongName (n0_0 : ByteArray) (n0_1 : ByteArray) (w : World) (J : Bool → World → Prop) : vcFun Tryz.prog Tryz.f57 ann_tree_wrongName [.one .bool] [.agg ⟨[.string n0_0, .string n0_1]⟩] w J = VC_tree_wrongName n0_0 n0_1 w J := by kernel_rfl
theorem c_tree_wrongName {n0_0 : ByteArray} {n0_1 : ByteArray} {w : World} {J : Bool → World → Prop} (h : VC_tree_wrongName n0_0 n0_1 w J) : callJ Tryz.prog fn_tree_wrongName #[.agg ⟨[.string n0_0, .string n0_1]⟩] w [.one .bool] J := vc_calls Tryz.func57 ann_tree_wrongName (Eq.mpr (eq_tree_wrongName n0_0 n0_1 w J) h)

/-- lectern/tree.bad -/
def VC_tree_bad (s0 : ByteArray) (w : World) (J : Bool → World → Prop) : Prop :=
  cvJ Tryz.prog T_string T_sl_uint8 (.string s0) w fun q7p q7l q7c w1 =>
  callJ Tryz.prog fn_char_Fault #[.slice q7p q7l q7c] w1 [.one (.int .i64), .one (.int .i64)] fun (r8_0 : Int) (r8_1 : Int) (w2 : World) =>
  J (r8_1 != (0 : Int)) w2
def ann_tree_bad : Ann := .s (.o) (.s (.o) (.s (.o) (.o)))
theorem eq_tree_bad (s0 : ByteArray) (w : World) (J : Bool → World → Prop) : vcFun Tryz.prog Tryz.f60 ann_tree_bad [.one .bool] [.string s0] w J = VC_tree_bad s0 w J := by kernel_rfl
theorem c_tree_bad {s0 : ByteArray} {w : World} {J : Bool → World → Prop} (h : VC_tree_bad s0 w J) : callJ Tryz.prog fn_tree_bad #[.string s0] w [.one .bool] J := vc_calls Tryz.func60 ann_tree_bad (Eq.mpr (eq_tree_bad s0 w J) h)

/-- lectern/tree.spoilt -/
def VC_tree_spoilt (n0_0 : Int) (n0_1 : ByteArray) (n0_2 : ByteArray) (n0_3p : Option Addr) (n0_3l : Nat) (n0_3c : Nat) (n0_4p : Option Addr) (n0_4l : Nat) (n0_4c : Nat) (n0_5 : ByteArray) (w : World) (J : Bool → World → Prop) : Prop :=
  newB w (.cells ⟨[.int .i64 n0_0, .string n0_1, .string n0_2, .slice n0_3p n0_3l n0_3c, .slice n0_4p n0_4l n0_4c, .string n0_5]⟩ T_api_Node) fun b1 w1 =>
  withJ (fun (x2 : Bool) (w2 : World) =>
  J x2 w2) fun J_2 =>
  ldStr w1 ⟨b1, 5, none⟩ fun x4 =>
  callJ Tryz.prog fn_tree_bad #[.string x4] w1 [.one .bool] fun (r5 : Bool) (w3 : World) =>
  condB r5 (
  J_2 true w3) (
  ldS w3 ⟨b1, 3, none⟩ fun x8p x8l x8c =>
  callJ Tryz.prog fn_slices_ContainsFunc_sl_api_Attr_api_Attr #[.slice x8p x8l x8c, .func (.func 61) #[] #[]] w3 [.one .bool] fun (r9 : Bool) (w4 : World) =>
  J_2 r9 w4)
def ann_tree_spoilt : Ann := .s (.o) (.j [(2, .bool)] (.o) (.o))
theorem eq_tree_spoilt (n0_0 : Int) (n0_1 : ByteArray) (n0_2 : ByteArray) (n0_3p : Option Addr) (n0_3l : Nat) (n0_3c : Nat) (n0_4p : Option Addr) (n0_4l : Nat) (n0_4c : Nat) (n0_5 : ByteArray) (w : World) (J : Bool → World → Prop) : vcFun Tryz.prog Tryz.f33 ann_tree_spoilt [.one .bool] [.agg ⟨[.int .i64 n0_0, .string n0_1, .string n0_2, .slice n0_3p n0_3l n0_3c, .slice n0_4p n0_4l n0_4c, .string n0_5]⟩] w J = VC_tree_spoilt n0_0 n0_1 n0_2 n0_3p n0_3l n0_3c n0_4p n0_4l n0_4c n0_5 w J := by kernel_rfl
theorem c_tree_spoilt {n0_0 : Int} {n0_1 : ByteArray} {n0_2 : ByteArray} {n0_3p : Option Addr} {n0_3l : Nat} {n0_3c : Nat} {n0_4p : Option Addr} {n0_4l : Nat} {n0_4c : Nat} {n0_5 : ByteArray} {w : World} {J : Bool → World → Prop} (h : VC_tree_spoilt n0_0 n0_1 n0_2 n0_3p n0_3l n0_3c n0_4p n0_4l n0_4c n0_5 w J) : callJ Tryz.prog fn_tree_spoilt #[.agg ⟨[.int .i64 n0_0, .string n0_1, .string n0_2, .slice n0_3p n0_3l n0_3c, .slice n0_4p n0_4l n0_4c, .string n0_5]⟩] w [.one .bool] J := vc_calls Tryz.func33 ann_tree_spoilt (Eq.mpr (eq_tree_spoilt n0_0 n0_1 n0_2 n0_3p n0_3l n0_3c n0_4p n0_4l n0_4c n0_5 w J) h)

/-- lectern/tree.spoilt$1 -/
def VC_tree_spoilt_1 (a0_0 : ByteArray) (a0_1 : ByteArray) (a0_2 : ByteArray) (w : World) (J : Bool → World → Prop) : Prop :=
  newB w (.cells ⟨[.string a0_0, .string a0_1, .string a0_2]⟩ T_api_Attr) fun b1 w1 =>
  ldStr w1 ⟨b1, 2, none⟩ fun x4 =>
  callJ Tryz.prog fn_tree_bad #[.string x4] w1 [.one .bool] fun (r5 : Bool) (w2 : World) =>
  J r5 w2
def ann_tree_spoilt_1 : Ann := .s (.o) (.s (.o) (.o))
theorem eq_tree_spoilt_1 (a0_0 : ByteArray) (a0_1 : ByteArray) (a0_2 : ByteArray) (w : World) (J : Bool → World → Prop) : vcFun Tryz.prog Tryz.f61 ann_tree_spoilt_1 [.one .bool] [.agg ⟨[.string a0_0, .string a0_1, .string a0_2]⟩] w J = VC_tree_spoilt_1 a0_0 a0_1 a0_2 w J := by kernel_rfl
theorem c_tree_spoilt_1 {a0_0 : ByteArray} {a0_1 : ByteArray} {a0_2 : ByteArray} {w : World} {J : Bool → World → Prop} (h : VC_tree_spoilt_1 a0_0 a0_1 a0_2 w J) : callJ Tryz.prog fn_tree_spoilt_1 #[.agg ⟨[.string a0_0, .string a0_1, .string a0_2]⟩] w [.one .bool] J := vc_calls Tryz.func61 ann_tree_spoilt_1 (Eq.mpr (eq_tree_spoilt_1 a0_0 a0_1 a0_2 w J) h)

/-- lectern/tree.unordered -/
def VC_tree_unordered (n0_0 : Int) (n0_1 : ByteArray) (n0_2 : ByteArray) (n0_3p : Option Addr) (n0_3l : Nat) (n0_3c : Nat) (n0_4p : Option Addr) (n0_4l : Nat) (n0_4c : Nat) (n0_5 : ByteArray) (w : World) (J : Bool → World → Prop) : Prop :=
  newB w (.cells ⟨[.int .i64 n0_0, .string n0_1, .string n0_2, .slice n0_3p n0_3l n0_3c, .slice n0_4p n0_4l n0_4c, .string n0_5]⟩ T_api_Node) fun b1 w1 =>
  ldS w1 ⟨b1, 3, none⟩ fun x5p x5l x5c =>
  ∃ I_7 : Int → World → Nat → Prop, (∃ m : Nat, I_7 (0 : Int) w1 m) ∧ ∀ (x7 : Int) (w2 : World) (m : Nat), I_7 x7 w2 m → (
  condB (decide (x7 < ((x5l : Nat) : Int))) (
  withJ (fun (x28 : Bool) (w3 : World) =>
  condB x28 (
  J true w3) (
  ∃ m' : Nat, m' < m ∧ I_7 (w64 (x7 + (1 : Int))) w3 m')) fun J_28 =>
  condB (decide (x7 > (0 : Int))) (
  ldS w2.drew ⟨b1, 3, none⟩ fun x14p x14l x14c =>
  idxA x14p x14l (w64 (x7 - (1 : Int))) fun a17 =>
  ldStr w2.drew ((a17.add ((w64 (x7 - (1 : Int))).toNat * 3))) fun x19_0 =>
  ldStr w2.drew (((a17.add ((w64 (x7 - (1 : Int))).toNat * 3)).add 1)) fun x19_1 =>
  ldS w2.drew ⟨b1, 3, none⟩ fun x21p x21l x21c =>
  idxA x21p x21l x7 fun a23 =>
  ldStr w2.drew ((a23.add (x7.toNat * 3))) fun x25_0 =>
  ldStr w2.drew (((a23.add (x7.toNat * 3)).add 1)) fun x25_1 =>
  callJ Tryz.prog fn_tree_Order #[.agg ⟨[.string x19_0, .string x19_1]⟩, .agg ⟨[.string x25_0, .string x25_1]⟩] w2.drew [.one (.int .i64)] fun (r26 : Int) (w4 : World) =>
  J_28 (decide (r26 ≥ (0 : Int))) w4) (
  J_28 false w2.drew)) (
  J false w2))
def ann_tree_unordered : Ann := .s (.o) (.s (.s (.o) (.b (.l [(7, .int .i64)] (.s (.o) (.s (.c (.o) (.o)) (.s (.b (.s (.o) (.j [(28, .bool)] (.d (.take 0 (.take 1 (.take 2 (.take 3 (.take 4 (.take 5 (.take 6 (.take 7 (.take 8 (.take 9 (.take 10 (.take 11 (.take 12 (.take 13 (.take 14 (.take 15 (.eff 16 (.take 17 (.take 18 (.done))) (.none))))))))))))))))))) (.c (.s (.o) (.o)) (.o))))) (.o))))))) (.s (.o) (.o)))
theorem eq_tree_unordered (n0_0 : Int) (n0_1 : ByteArray) (n0_2 : ByteArray) (n0_3p : Option Addr) (n0_3l : Nat) (n0_3c : Nat) (n0_4p : Option Addr) (n0_4l : Nat) (n0_4c : Nat) (n0_5 : ByteArray) (w : World) (J : Bool → World → Prop) : vcFun Tryz.prog Tryz.f34 ann_tree_unordered [.one .bool] [.agg ⟨[.int .i64 n0_0, .string n0_1, .string n0_2, .slice n0_3p n0_3l n0_3c, .slice n0_4p n0_4l n0_4c, .string n0_5]⟩] w J = VC_tree_unordered n0_0 n0_1 n0_2 n0_3p n0_3l n0_3c n0_4p n0_4l n0_4c n0_5 w J := by kernel_rfl
theorem c_tree_unordered {n0_0 : Int} {n0_1 : ByteArray} {n0_2 : ByteArray} {n0_3p : Option Addr} {n0_3l : Nat} {n0_3c : Nat} {n0_4p : Option Addr} {n0_4l : Nat} {n0_4c : Nat} {n0_5 : ByteArray} {w : World} {J : Bool → World → Prop} (h : VC_tree_unordered n0_0 n0_1 n0_2 n0_3p n0_3l n0_3c n0_4p n0_4l n0_4c n0_5 w J) : callJ Tryz.prog fn_tree_unordered #[.agg ⟨[.int .i64 n0_0, .string n0_1, .string n0_2, .slice n0_3p n0_3l n0_3c, .slice n0_4p n0_4l n0_4c, .string n0_5]⟩] w [.one .bool] J := vc_calls Tryz.func34 ann_tree_unordered (Eq.mpr (eq_tree_unordered n0_0 n0_1 n0_2 n0_3p n0_3l n0_3c n0_4p n0_4l n0_4c n0_5 w J) h)

/-- lectern/tree.wrongText -/
def VC_tree_wrongText (n0_0 : Int) (n0_1 : ByteArray) (n0_2 : ByteArray) (n0_3p : Option Addr) (n0_3l : Nat) (n0_3c : Nat) (n0_4p : Option Addr) (n0_4l : Nat) (n0_4c : Nat) (n0_5 : ByteArray) (w : World) (J : Bool → World → Prop) : Prop :=
  newB w (.cells ⟨[.int .i64 n0_0, .string n0_1, .string n0_2, .slice n0_3p n0_3l n0_3c, .slice n0_4p n0_4l n0_4c, .string n0_5]⟩ T_api_Node) fun b1 w1 =>
  ldS w1 ⟨b1, 4, none⟩ fun x6p x6l x6c =>
  ∃ I_8 : Int → World → Nat → Prop, (∃ m : Nat, I_8 (0 : Int) w1 m) ∧ ∀ (x8 : Int) (w2 : World) (m : Nat), I_8 x8 w2 m → (
  condB (decide (x8 < ((x6l : Nat) : Int))) (
  idxA x6p x6l x8 fun a11 =>
  ldI .i64 w2 ((a11.add (x8.toNat * 6))) fun x12_0 =>
  ldStr w2 (((a11.add (x8.toNat * 6)).add 1)) fun x12_1 =>
  ldStr w2 (((a11.add (x8.toNat * 6)).add 2)) fun x12_2 =>
  ldS w2 (((a11.add (x8.toNat * 6)).add 3)) fun x12_3p x12_3l x12_3c =>
  ldS w2 (((a11.add (x8.toNat * 6)).add 4)) fun x12_4p x12_4l x12_4c =>
  ldStr w2 (((a11.add (x8.toNat * 6)).add 5)) fun x12_5 =>
  newB w2 (.cells (zeroC Tryz.prog T_api_Node) T_api_Node) fun b4 w3 =>
  stN w3 ⟨b4, 0, none⟩ ⟨[.int .i64 x12_0, .string x12_1, .string x12_2, .slice x12_3p x12_3l x12_3c, .slice x12_4p x12_4l x12_4c, .string x12_5]⟩ 6 fun w4 =>
  withJ (fun (x29 : Bool) (w5 : World) =>
  condB x29 (
  J true w5) (
  ∃ m' : Nat, m' < m ∧ I_8 (w64 (x8 + (1 : Int))) w5 m')) fun J_29 =>
  condB (decide (x8 > (0 : Int))) (
  ldI .i64 w4 ⟨b4, 0, none⟩ fun x17 =>
  condB (x17 == (3 : Int)) (
  ldS w4 ⟨b1, 4, none⟩ fun x22p x22l x22c =>
  idxA x22p x22l (w64 (x8 - (1 : Int))) fun a25 =>
  ldI .i64 w4 ((a25.add ((w64 (x8 - (1 : Int))).toNat * 6))) fun x27 =>
  J_29 (x27 == (3 : Int)) w4) (
  J_29 false w4)) (
  J_29 false w4)) (
  ldI .i64 w2 ⟨b1, 0, none⟩ fun x32 =>
  condB (x32 == (3 : Int)) (
  ldStr w2 ⟨b1, 5, none⟩ fun x36 =>
  J (x36.toList == (⟨#[]⟩ : ByteArray).toList) w2) (
  condB (x32 == (4 : Int)) (
  withJ (fun (x2 : Bool) (w6 : World) =>
  J x2 w6) fun J_2 =>
  ldStr w2 ⟨b1, 5, none⟩ fun x41 =>
  callJ Tryz.prog fn_strings_Contains #[.string x41, .string ⟨#[45, 45]⟩] w2 [.one .bool] fun (r42 : Bool) (w7 : World) =>
  condB r42 (
  J_2 true w7) (
  ldStr w7 ⟨b1, 5, none⟩ fun x45 =>
  callJ Tryz.prog fn_strings_HasSuffix #[.string x45, .string ⟨#[45]⟩] w7 [.one .bool] fun (r46 : Bool) (w8 : World) =>
  condB r46 (
  J_2 true w8) (
  ldStr w8 ⟨b1, 5, none⟩ fun x50 =>
  callJ Tryz.prog fn_strings_Contains #[.string x50, .string ⟨#[13]⟩] w8 [.one .bool] fun (r51 : Bool) (w9 : World) =>
  J_2 r51 w9))) (
  condB (x32 == (5 : Int)) (
  withJ (fun (x2_1 : Bool) (w10 : World) =>
  J x2_1 w10) fun J_2_1 =>
  ldStr w2.drew ⟨b1, 5, none⟩ fun x56 =>
  callJ Tryz.prog fn_strings_Contains #[.string x56, .string ⟨#[63, 62]⟩] w2.drew [.one .bool] fun (r57 : Bool) (w11 : World) =>
  condB r57 (
  J_2_1 true w11) (
  ldStr w11 ⟨b1, 5, none⟩ fun x60 =>
  callJ Tryz.prog fn_strings_Contains #[.string x60, .string ⟨#[13]⟩] w11 [.one .bool] fun (r61 : Bool) (w12 : World) =>
  condB r61 (
  J_2_1 true w12) (
  ldStr w12 ⟨b1, 5, none⟩ fun x65 =>
  ldStr w12 ⟨b1, 5, none⟩ fun x67 =>
  callJ Tryz.prog fn_strings_TrimLeft #[.string x67, .string ⟨#[32, 9, 10]⟩] w12 [.one .str] fun (r68 : ByteArray) (w13 : World) =>
  w13.cell? ⟨b1, 5, none⟩ = some (.string x65) ∧
  J_2_1 (!(x65.toList == r68.toList)) w13))) (
  J false w2)))))
def ann_tree_wrongText : Ann := .s (.o) (.s (.s (.o) (.b (.l [(8, .int .i64)] (.s (.o) (.s (.c (.o) (.o)) (.s (.b (.s (.o) (.j [(29, .bool)] (.o) (.c (.s (.o) (.o)) (.o))))) (.o))))))) (.s (.s (.o) (.b (.s (.o) (.c (.s (.o) (.o)) (.s (.o) (.c (.j [(2, .bool)] (.o) (.o)) (.s (.o) (.c (.j [(2, .bool)] (.d (.take 0 (.take 1 (.eff 2 (.take 3 (.take 4 (.take 5 (.eff 6 (.take 7 (.take 8 (.take 9 (.take 10 (.take 11 (.take 12 (.eff 13 (.take 14 (.take 15 (.take 16 (.done)))) (.none)))))))) (.none))))) (.none))))) (.o)) (.o))))))))) (.s (.o) (.o))))
theorem eq_tree_wrongText (n0_0 : Int) (n0_1 : ByteArray) (n0_2 : ByteArray) (n0_3p : Option Addr) (n0_3l : Nat) (n0_3c : Nat) (n0_4p : Option Addr) (n0_4l : Nat) (n0_4c : Nat) (n0_5 : ByteArray) (w : World) (J : Bool → World → Prop) : vcFun Tryz.prog Tryz.f35 ann_tree_wrongText [.one .bool] [.agg ⟨[.int .i64 n0_0, .string n0_1, .string n0_2, .slice n0_3p n0_3l n0_3c, .slice n0_4p n0_4l n0_4c, .string n0_5]⟩] w J = VC_tree_wrongText n0_0 n0_1 n0_2 n0_3p n0_3l n0_3c n0_4p n0_4l n0_4c n0_5 w J := by kernel_rfl
theorem c_tree_wrongText {n0_0 : Int} {n0_1 : ByteArray} {n0_2 : ByteArray} {n0_3p : Option Addr} {n0_3l : Nat} {n0_3c : Nat} {n0_4p : Option Addr} {n0_4l : Nat} {n0_4c : Nat} {n0_5 : ByteArray} {w : World} {J : Bool → World → Prop} (h : VC_tree_wrongText n0_0 n0_1 n0_2 n0_3p n0_3l n0_3c n0_4p n0_4l n0_4c n0_5 w J) : callJ Tryz.prog fn_tree_wrongText #[.agg ⟨[.int .i64 n0_0, .string n0_1, .string n0_2, .slice n0_3p n0_3l n0_3c, .slice n0_4p n0_4l n0_4c, .string n0_5]⟩] w [.one .bool] J := vc_calls Tryz.func35 ann_tree_wrongText (Eq.mpr (eq_tree_wrongText n0_0 n0_1 n0_2 n0_3p n0_3l n0_3c n0_4p n0_4l n0_4c n0_5 w J) h)

/-- slices.ContainsFunc[[]lectern/api.Node,lectern/api.Node] -/
def VC_slices_ContainsFunc_sl_api_Node_api_Node_f1_29 (s0p : Option Addr) (s0l : Nat) (s0c : Nat) (w : World) (J : Bool → World → Prop) : Prop :=
  callJ Tryz.prog fn_slices_IndexFunc_sl_api_Node_api_Node #[.slice s0p s0l s0c, .func (.func 29) #[] #[]] w [.one (.int .i64)] fun (r7 : Int) (w1 : World) =>
  J (decide (r7 ≥ (0 : Int))) w1
def ann_slices_ContainsFunc_sl_api_Node_api_Node_f1_29 : Ann := .s (.o) (.s (.o) (.o))
theorem eq_slices_ContainsFunc_sl_api_Node_api_Node_f1_29 (s0p : Option Addr) (s0l : Nat) (s0c : Nat) (w : World) (J : Bool → World → Prop) : vcFun Tryz.prog Tryz.f28 ann_slices_ContainsFunc_sl_api_Node_api_Node_f1_29 [.one .bool] [.slice s0p s0l s0c, .func (.func 29) #[] #[]] w J = VC_slices_ContainsFunc_sl_api_Node_api_Node_f1_29 s0p s0l s0c w J := by kernel_rfl
theorem c_slices_ContainsFunc_sl_api_Node_api_Node_f1_29 {s0p : Option Addr} {s0l : Nat} {s0c : Nat} {w : World} {J : Bool → World → Prop} (h : VC_slices_ContainsFunc_sl_api_Node_api_Node_f1_29 s0p s0l s0c w J) : callJ Tryz.prog fn_slices_ContainsFunc_sl_api_Node_api_Node #[.slice s0p s0l s0c, .func (.func 29) #[] #[]] w [.one .bool] J := vc_calls Tryz.func28 ann_slices_ContainsFunc_sl_api_Node_api_Node_f1_29 (Eq.mpr (eq_slices_ContainsFunc_sl_api_Node_api_Node_f1_29 s0p s0l s0c w J) h)

/-- slices.ContainsFunc[[]lectern/api.Node,lectern/api.Node] -/
def VC_slices_ContainsFunc_sl_api_Node_api_Node_f1_31 (s0p : Option Addr) (s0l : Nat) (s0c : Nat) (w : World) (J : Bool → World → Prop) : Prop :=
  callJ Tryz.prog fn_slices_IndexFunc_sl_api_Node_api_Node #[.slice s0p s0l s0c, .func (.func 31) #[] #[]] w [.one (.int .i64)] fun (r7 : Int) (w1 : World) =>
  J (decide (r7 ≥ (0 : Int))) w1
def ann_slices_ContainsFunc_sl_api_Node_api_Node_f1_31 : Ann := .s (.o) (.s (.o) (.o))
theorem eq_slices_ContainsFunc_sl_api_Node_api_Node_f1_31 (s0p : Option Addr) (s0l : Nat) (s0c : Nat) (w : World) (J : Bool → World → Prop) : vcFun Tryz.prog Tryz.f28 ann_slices_ContainsFunc_sl_api_Node_api_Node_f1_31 [.one .bool] [.slice s0p s0l s0c, .func (.func 31) #[] #[]] w J = VC_slices_ContainsFunc_sl_api_Node_api_Node_f1_31 s0p s0l s0c w J := by kernel_rfl
theorem c_slices_ContainsFunc_sl_api_Node_api_Node_f1_31 {s0p : Option Addr} {s0l : Nat} {s0c : Nat} {w : World} {J : Bool → World → Prop} (h : VC_slices_ContainsFunc_sl_api_Node_api_Node_f1_31 s0p s0l s0c w J) : callJ Tryz.prog fn_slices_ContainsFunc_sl_api_Node_api_Node #[.slice s0p s0l s0c, .func (.func 31) #[] #[]] w [.one .bool] J := vc_calls Tryz.func28 ann_slices_ContainsFunc_sl_api_Node_api_Node_f1_31 (Eq.mpr (eq_slices_ContainsFunc_sl_api_Node_api_Node_f1_31 s0p s0l s0c w J) h)

/-- slices.ContainsFunc[[]lectern/api.Node,lectern/api.Node] -/
def VC_slices_ContainsFunc_sl_api_Node_api_Node_f1_32 (s0p : Option Addr) (s0l : Nat) (s0c : Nat) (w : World) (J : Bool → World → Prop) : Prop :=
  callJ Tryz.prog fn_slices_IndexFunc_sl_api_Node_api_Node #[.slice s0p s0l s0c, .func (.func 32) #[] #[]] w [.one (.int .i64)] fun (r7 : Int) (w1 : World) =>
  J (decide (r7 ≥ (0 : Int))) w1
def ann_slices_ContainsFunc_sl_api_Node_api_Node_f1_32 : Ann := .s (.o) (.s (.o) (.o))
theorem eq_slices_ContainsFunc_sl_api_Node_api_Node_f1_32 (s0p : Option Addr) (s0l : Nat) (s0c : Nat) (w : World) (J : Bool → World → Prop) : vcFun Tryz.prog Tryz.f28 ann_slices_ContainsFunc_sl_api_Node_api_Node_f1_32 [.one .bool] [.slice s0p s0l s0c, .func (.func 32) #[] #[]] w J = VC_slices_ContainsFunc_sl_api_Node_api_Node_f1_32 s0p s0l s0c w J := by kernel_rfl
theorem c_slices_ContainsFunc_sl_api_Node_api_Node_f1_32 {s0p : Option Addr} {s0l : Nat} {s0c : Nat} {w : World} {J : Bool → World → Prop} (h : VC_slices_ContainsFunc_sl_api_Node_api_Node_f1_32 s0p s0l s0c w J) : callJ Tryz.prog fn_slices_ContainsFunc_sl_api_Node_api_Node #[.slice s0p s0l s0c, .func (.func 32) #[] #[]] w [.one .bool] J := vc_calls Tryz.func28 ann_slices_ContainsFunc_sl_api_Node_api_Node_f1_32 (Eq.mpr (eq_slices_ContainsFunc_sl_api_Node_api_Node_f1_32 s0p s0l s0c w J) h)

/-- slices.ContainsFunc[[]lectern/api.Node,lectern/api.Node] -/
def VC_slices_ContainsFunc_sl_api_Node_api_Node_f1_33 (s0p : Option Addr) (s0l : Nat) (s0c : Nat) (w : World) (J : Bool → World → Prop) : Prop :=
  callJ Tryz.prog fn_slices_IndexFunc_sl_api_Node_api_Node #[.slice s0p s0l s0c, .func (.func 33) #[] #[]] w [.one (.int .i64)] fun (r7 : Int) (w1 : World) =>
  J (decide (r7 ≥ (0 : Int))) w1
def ann_slices_ContainsFunc_sl_api_Node_api_Node_f1_33 : Ann := .s (.o) (.s (.o) (.o))
theorem eq_slices_ContainsFunc_sl_api_Node_api_Node_f1_33 (s0p : Option Addr) (s0l : Nat) (s0c : Nat) (w : World) (J : Bool → World → Prop) : vcFun Tryz.prog Tryz.f28 ann_slices_ContainsFunc_sl_api_Node_api_Node_f1_33 [.one .bool] [.slice s0p s0l s0c, .func (.func 33) #[] #[]] w J = VC_slices_ContainsFunc_sl_api_Node_api_Node_f1_33 s0p s0l s0c w J := by kernel_rfl
theorem c_slices_ContainsFunc_sl_api_Node_api_Node_f1_33 {s0p : Option Addr} {s0l : Nat} {s0c : Nat} {w : World} {J : Bool → World → Prop} (h : VC_slices_ContainsFunc_sl_api_Node_api_Node_f1_33 s0p s0l s0c w J) : callJ Tryz.prog fn_slices_ContainsFunc_sl_api_Node_api_Node #[.slice s0p s0l s0c, .func (.func 33) #[] #[]] w [.one .bool] J := vc_calls Tryz.func28 ann_slices_ContainsFunc_sl_api_Node_api_Node_f1_33 (Eq.mpr (eq_slices_ContainsFunc_sl_api_Node_api_Node_f1_33 s0p s0l s0c w J) h)

/-- slices.ContainsFunc[[]lectern/api.Node,lectern/api.Node] -/
def VC_slices_ContainsFunc_sl_api_Node_api_Node_f1_34 (s0p : Option Addr) (s0l : Nat) (s0c : Nat) (w : World) (J : Bool → World → Prop) : Prop :=
  callJ Tryz.prog fn_slices_IndexFunc_sl_api_Node_api_Node #[.slice s0p s0l s0c, .func (.func 34) #[] #[]] w [.one (.int .i64)] fun (r7 : Int) (w1 : World) =>
  J (decide (r7 ≥ (0 : Int))) w1
def ann_slices_ContainsFunc_sl_api_Node_api_Node_f1_34 : Ann := .s (.o) (.s (.o) (.o))
theorem eq_slices_ContainsFunc_sl_api_Node_api_Node_f1_34 (s0p : Option Addr) (s0l : Nat) (s0c : Nat) (w : World) (J : Bool → World → Prop) : vcFun Tryz.prog Tryz.f28 ann_slices_ContainsFunc_sl_api_Node_api_Node_f1_34 [.one .bool] [.slice s0p s0l s0c, .func (.func 34) #[] #[]] w J = VC_slices_ContainsFunc_sl_api_Node_api_Node_f1_34 s0p s0l s0c w J := by kernel_rfl
theorem c_slices_ContainsFunc_sl_api_Node_api_Node_f1_34 {s0p : Option Addr} {s0l : Nat} {s0c : Nat} {w : World} {J : Bool → World → Prop} (h : VC_slices_ContainsFunc_sl_api_Node_api_Node_f1_34 s0p s0l s0c w J) : callJ Tryz.prog fn_slices_ContainsFunc_sl_api_Node_api_Node #[.slice s0p s0l s0c, .func (.func 34) #[] #[]] w [.one .bool] J := vc_calls Tryz.func28 ann_slices_ContainsFunc_sl_api_Node_api_Node_f1_34 (Eq.mpr (eq_slices_ContainsFunc_sl_api_Node_api_Node_f1_34 s0p s0l s0c w J) h)

/-- slices.ContainsFunc[[]lectern/api.Node,lectern/api.Node] -/
def VC_slices_ContainsFunc_sl_api_Node_api_Node_f1_35 (s0p : Option Addr) (s0l : Nat) (s0c : Nat) (w : World) (J : Bool → World → Prop) : Prop :=
  callJ Tryz.prog fn_slices_IndexFunc_sl_api_Node_api_Node #[.slice s0p s0l s0c, .func (.func 35) #[] #[]] w [.one (.int .i64)] fun (r7 : Int) (w1 : World) =>
  J (decide (r7 ≥ (0 : Int))) w1
def ann_slices_ContainsFunc_sl_api_Node_api_Node_f1_35 : Ann := .s (.o) (.s (.o) (.o))
theorem eq_slices_ContainsFunc_sl_api_Node_api_Node_f1_35 (s0p : Option Addr) (s0l : Nat) (s0c : Nat) (w : World) (J : Bool → World → Prop) : vcFun Tryz.prog Tryz.f28 ann_slices_ContainsFunc_sl_api_Node_api_Node_f1_35 [.one .bool] [.slice s0p s0l s0c, .func (.func 35) #[] #[]] w J = VC_slices_ContainsFunc_sl_api_Node_api_Node_f1_35 s0p s0l s0c w J := by kernel_rfl
theorem c_slices_ContainsFunc_sl_api_Node_api_Node_f1_35 {s0p : Option Addr} {s0l : Nat} {s0c : Nat} {w : World} {J : Bool → World → Prop} (h : VC_slices_ContainsFunc_sl_api_Node_api_Node_f1_35 s0p s0l s0c w J) : callJ Tryz.prog fn_slices_ContainsFunc_sl_api_Node_api_Node #[.slice s0p s0l s0c, .func (.func 35) #[] #[]] w [.one .bool] J := vc_calls Tryz.func28 ann_slices_ContainsFunc_sl_api_Node_api_Node_f1_35 (Eq.mpr (eq_slices_ContainsFunc_sl_api_Node_api_Node_f1_35 s0p s0l s0c w J) h)

/-- slices.ContainsFunc[[]lectern/api.Node,lectern/api.Node] -/
def VC_slices_ContainsFunc_sl_api_Node_api_Node_f1_51c1 (s0p : Option Addr) (s0l : Nat) (s0c : Nat) (cp1_0 : Addr) (w : World) (J : Bool → World → Prop) : Prop :=
  callJ Tryz.prog fn_slices_IndexFunc_sl_api_Node_api_Node #[.slice s0p s0l s0c, .func (.func 51) #[] #[.pointer (some cp1_0)]] w [.one (.int .i64)] fun (r7 : Int) (w1 : World) =>
  J (decide (r7 ≥ (0 : Int))) w1
def ann_slices_ContainsFunc_sl_api_Node_api_Node_f1_51c1 : Ann := .s (.o) (.s (.o) (.o))
theorem eq_slices_ContainsFunc_sl_api_Node_api_Node_f1_51c1 (s0p : Option Addr) (s0l : Nat) (s0c : Nat) (cp1_0 : Addr) (w : World) (J : Bool → World → Prop) : vcFun Tryz.prog Tryz.f28 ann_slices_ContainsFunc_sl_api_Node_api_Node_f1_51c1 [.one .bool] [.slice s0p s0l s0c, .func (.func 51) #[] #[.pointer (some cp1_0)]] w J = VC_slices_ContainsFunc_sl_api_Node_api_Node_f1_51c1 s0p s0l s0c cp1_0 w J := by kernel_rfl
theorem c_slices_ContainsFunc_sl_api_Node_api_Node_f1_51c1 {s0p : Option Addr} {s0l : Nat} {s0c : Nat} {cp1_0 : Addr} {w : World} {J : Bool → World → Prop} (h : VC_slices_ContainsFunc_sl_api_Node_api_Node_f1_51c1 s0p s0l s0c cp1_0 w J) : callJ Tryz.prog fn_slices_ContainsFunc_sl_api_Node_api_Node #[.slice s0p s0l s0c, .func (.func 51) #[] #[.pointer (some cp1_0)]] w [.one .bool] J := vc_calls Tryz.func28 ann_slices_ContainsFunc_sl_api_Node_api_Node_f1_51c1 (Eq.mpr (eq_slices_ContainsFunc_sl_api_Node_api_Node_f1_51c1 s0p s0l s0c cp1_0 w J) h)

/-- slices.ContainsFunc[[]lectern/api.Node,lectern/api.Node] -/
def VC_slices_ContainsFunc_sl_api_Node_api_Node_f1_53c1 (s0p : Option Addr) (s0l : Nat) (s0c : Nat) (cp1_0 : Addr) (w : World) (J : Bool → World → Prop) : Prop :=
  callJ Tryz.prog fn_slices_IndexFunc_sl_api_Node_api_Node #[.slice s0p s0l s0c, .func (.func 53) #[] #[.pointer (some cp1_0)]] w [.one (.int .i64)] fun (r7 : Int) (w1 : World) =>
  J (decide (r7 ≥ (0 : Int))) w1
def ann_slices_ContainsFunc_sl_api_Node_api_Node_f1_53c1 : Ann := .s (.o) (.s (.o) (.o))
theorem eq_slices_ContainsFunc_sl_api_Node_api_Node_f1_53c1 (s0p : Option Addr) (s0l : Nat) (s0c : Nat) (cp1_0 : Addr) (w : World) (J : Bool → World → Prop) : vcFun Tryz.prog Tryz.f28 ann_slices_ContainsFunc_sl_api_Node_api_Node_f1_53c1 [.one .bool] [.slice s0p s0l s0c, .func (.func 53) #[] #[.pointer (some cp1_0)]] w J = VC_slices_ContainsFunc_sl_api_Node_api_Node_f1_53c1 s0p s0l s0c cp1_0 w J := by kernel_rfl
theorem c_slices_ContainsFunc_sl_api_Node_api_Node_f1_53c1 {s0p : Option Addr} {s0l : Nat} {s0c : Nat} {cp1_0 : Addr} {w : World} {J : Bool → World → Prop} (h : VC_slices_ContainsFunc_sl_api_Node_api_Node_f1_53c1 s0p s0l s0c cp1_0 w J) : callJ Tryz.prog fn_slices_ContainsFunc_sl_api_Node_api_Node #[.slice s0p s0l s0c, .func (.func 53) #[] #[.pointer (some cp1_0)]] w [.one .bool] J := vc_calls Tryz.func28 ann_slices_ContainsFunc_sl_api_Node_api_Node_f1_53c1 (Eq.mpr (eq_slices_ContainsFunc_sl_api_Node_api_Node_f1_53c1 s0p s0l s0c cp1_0 w J) h)

/-- slices.IndexFunc[[]lectern/api.Node,lectern/api.Node] -/
def VC_slices_IndexFunc_sl_api_Node_api_Node_f1_29 (s0p : Option Addr) (s0l : Nat) (s0c : Nat) (w : World) (J : Int → World → Prop) : Prop :=
  ∃ I_8 : Int → World → Nat → Prop, (∃ m : Nat, I_8 (0 : Int) w m) ∧ ∀ (x8 : Int) (w1 : World) (m : Nat), I_8 x8 w1 m → (
  condB (decide (x8 < ((s0l : Nat) : Int))) (
  idxA s0p s0l x8 fun a14 =>
  ldI .i64 w1 ((a14.add (x8.toNat * 6))) fun x15_0 =>
  ldStr w1 (((a14.add (x8.toNat * 6)).add 1)) fun x15_1 =>
  ldStr w1 (((a14.add (x8.toNat * 6)).add 2)) fun x15_2 =>
  ldS w1 (((a14.add (x8.toNat * 6)).add 3)) fun x15_3p x15_3l x15_3c =>
  ldS w1 (((a14.add (x8.toNat * 6)).add 4)) fun x15_4p x15_4l x15_4c =>
  ldStr w1 (((a14.add (x8.toNat * 6)).add 5)) fun x15_5 =>
  callJ Tryz.prog fn_tree_odd #[.agg ⟨[.int .i64 x15_0, .string x15_1, .string x15_2, .slice x15_3p x15_3l x15_3c, .slice x15_4p x15_4l x15_4c, .string x15_5]⟩] w1 [.one .bool] fun (r16 : Bool) (w2 : World) =>
  condB r16 (
  J x8 w2) (
  ∃ m' : Nat, m' < m ∧ I_8 (w64 (x8 + (1 : Int))) w2 m')) (
  J (-1 : Int) w1))
def ann_slices_IndexFunc_sl_api_Node_api_Node_f1_29 : Ann := .s (.o) (.s (.s (.o) (.b (.l [(8, .int .i64)] (.s (.o) (.s (.c (.o) (.o)) (.s (.b (.s (.o) (.s (.o) (.c (.s (.o) (.o)) (.o))))) (.o))))))) (.s (.o) (.o)))
theorem eq_slices_IndexFunc_sl_api_Node_api_Node_f1_29 (s0p : Option Addr) (s0l : Nat) (s0c : Nat) (w : World) (J : Int → World → Prop) : vcFun Tryz.prog Tryz.f50 ann_slices_IndexFunc_sl_api_Node_api_Node_f1_29 [.one (.int .i64)] [.slice s0p s0l s0c, .func (.func 29) #[] #[]] w J = VC_slices_IndexFunc_sl_api_Node_api_Node_f1_29 s0p s0l s0c w J := by kernel_rfl
theorem c_slices_IndexFunc_sl_api_Node_api_Node_f1_29 {s0p : Option Addr} {s0l : Nat} {s0c : Nat} {w : World} {J : Int → World → Prop} (h : VC_slices_IndexFunc_sl_api_Node_api_Node_f1_29 s0p s0l s0c w J) : callJ Tryz.prog fn_slices_IndexFunc_sl_api_Node_api_Node #[.slice s0p s0l s0c, .func (.func 29) #[] #[]] w [.one (.int .i64)] J := vc_calls Tryz.func50 ann_slices_IndexFunc_sl_api_Node_api_Node_f1_29 (Eq.mpr (eq_slices_IndexFunc_sl_api_Node_api_Node_f1_29 s0p s0l s0c w J) h)

/-- slices.IndexFunc[[]lectern/api.Node,lectern/api.Node] -/
def VC_slices_IndexFunc_sl_api_Node_api_Node_f1_31 (s0p : Option Addr) (s0l : Nat) (s0c : Nat) (w : World) (J : Int → World → Prop) : Prop :=
  ∃ I_8 : Int → World → Nat → Prop, (∃ m : Nat, I_8 (0 : Int) w m) ∧ ∀ (x8 : Int) (w1 : World) (m : Nat), I_8 x8 w1 m → (
  condB (decide (x8 < ((s0l : Nat) : Int))) (
  idxA s0p s0l x8 fun a14 =>
  ldI .i64 w1 ((a14.add (x8.toNat * 6))) fun x15_0 =>
  ldStr w1 (((a14.add (x8.toNat * 6)).add 1)) fun x15_1 =>
  ldStr w1 (((a14.add (x8.toNat * 6)).add 2)) fun x15_2 =>
  ldS w1 (((a14.add (x8.toNat * 6)).add 3)) fun x15_3p x15_3l x15_3c =>
  ldS w1 (((a14.add (x8.toNat * 6)).add 4)) fun x15_4p x15_4l x15_4c =>
  ldStr w1 (((a14.add (x8.toNat * 6)).add 5)) fun x15_5 =>
  callJ Tryz.prog fn_tree_great #[.agg ⟨[.int .i64 x15_0, .string x15_1, .string x15_2, .slice x15_3p x15_3l x15_3c, .slice x15_4p x15_4l x15_4c, .string x15_5]⟩] w1 [.one .bool] fun (r16 : Bool) (w2 : World) =>
  condB r16 (
  J x8 w2) (
  ∃ m' : Nat, m' < m ∧ I_8 (w64 (x8 + (1 : Int))) w2 m')) (
  J (-1 : Int) w1))
def ann_slices_IndexFunc_sl_api_Node_api_Node_f1_31 : Ann := .s (.o) (.s (.s (.o) (.b (.l [(8, .int .i64)] (.s (.o) (.s (.c (.o) (.o)) (.s (.b (.s (.o) (.s (.o) (.c (.s (.o) (.o)) (.o))))) (.o))))))) (.s (.o) (.o)))
theorem eq_slices_IndexFunc_sl_api_Node_api_Node_f1_31 (s0p : Option Addr) (s0l : Nat) (s0c : Nat) (w : World) (J : Int → World → Prop) : vcFun Tryz.prog Tryz.f50 ann_slices_IndexFunc_sl_api_Node_api_Node_f1_31 [.one (.int .i64)] [.slice s0p s0l s0c, .func (.func 31) #[] #[]] w J = VC_slices_IndexFunc_sl_api_Node_api_Node_f1_31 s0p s0l s0c w J := by kernel_rfl
theorem c_slices_IndexFunc_sl_api_Node_api_Node_f1_31 {s0p : Option Addr} {s0l : Nat} {s0c : Nat} {w : World} {J : Int → World → Prop} (h : VC_slices_IndexFunc_sl_api_Node_api_Node_f1_31 s0p s0l s0c w J) : callJ Tryz.prog fn_slices_IndexFunc_sl_api_Node_api_Node #[.slice s0p s0l s0c, .func (.func 31) #[] #[]] w [.one (.int .i64)] J := vc_calls Tryz.func50 ann_slices_IndexFunc_sl_api_Node_api_Node_f1_31 (Eq.mpr (eq_slices_IndexFunc_sl_api_Node_api_Node_f1_31 s0p s0l s0c w J) h)

/-- slices.IndexFunc[[]lectern/api.Node,lectern/api.Node] -/
def VC_slices_IndexFunc_sl_api_Node_api_Node_f1_32 (s0p : Option Addr) (s0l : Nat) (s0c : Nat) (w : World) (J : Int → World → Prop) : Prop :=
  ∃ I_8 : Int → World → Nat → Prop, (∃ m : Nat, I_8 (0 : Int) w m) ∧ ∀ (x8 : Int) (w1 : World) (m : Nat), I_8 x8 w1 m → (
  condB (decide (x8 < ((s0l : Nat) : Int))) (
  idxA s0p s0l x8 fun a14 =>
  ldI .i64 w1 ((a14.add (x8.toNat * 6))) fun x15_0 =>
  ldStr w1 (((a14.add (x8.toNat * 6)).add 1)) fun x15_1 =>
  ldStr w1 (((a14.add (x8.toNat * 6)).add 2)) fun x15_2 =>
  ldS w1 (((a14.add (x8.toNat * 6)).add 3)) fun x15_3p x15_3l x15_3c =>
  ldS w1 (((a14.add (x8.toNat * 6)).add 4)) fun x15_4p x15_4l x15_4c =>
  ldStr w1 (((a14.add (x8.toNat * 6)).add 5)) fun x15_5 =>
  callJ Tryz.prog fn_tree_misnamed #[.agg ⟨[.int .i64 x15_0, .string x15_1, .string x15_2, .slice x15_3p x15_3l x15_3c, .slice x15_4p x15_4l x15_4c, .string x15_5]⟩] w1 [.one .bool] fun (r16 : Bool) (w2 : World) =>
  condB r16 (
  J x8 w2) (
  ∃ m' : Nat, m' < m ∧ I_8 (w64 (x8 + (1 : Int))) w2 m')) (
  J (-1 : Int) w1))
def ann_slices_IndexFunc_sl_api_Node_api_Node_f1_32 : Ann := .s (.o) (.s (.s (.o) (.b (.l [(8, .int .i64)] (.s (.o) (.s (.c (.o) (.o)) (.s (.b (.s (.o) (.s (.o) (.c (.s (.o) (.o)) (.o))))) (.o))))))) (.s (.o) (.o)))
theorem eq_slices_IndexFunc_sl_api_Node_api_Node_f1_32 (s0p : Option Addr) (s0l : Nat) (s0c : Nat) (w : World) (J : Int → World → Prop) : vcFun Tryz.prog Tryz.f50 ann_slices_IndexFunc_sl_api_Node_api_Node_f1_32 [.one (.int .i64)] [.slice s0p s0l s0c, .func (.func 32) #[] #[]] w J = VC_slices_IndexFunc_sl_api_Node_api_Node_f1_32 s0p s0l s0c w J := by kernel_rfl
theorem c_slices_IndexFunc_sl_api_Node_api_Node_f1_32 {s0p : Option Addr} {s0l : Nat} {s0c : Nat} {w : World} {J : Int → World → Prop} (h : VC_slices_IndexFunc_sl_api_Node_api_Node_f1_32 s0p s0l s0c w J) : callJ Tryz.prog fn_slices_IndexFunc_sl_api_Node_api_Node #[.slice s0p s0l s0c, .func (.func 32) #[] #[]] w [.one (.int .i64)] J := vc_calls Tryz.func50 ann_slices_IndexFunc_sl_api_Node_api_Node_f1_32 (Eq.mpr (eq_slices_IndexFunc_sl_api_Node_api_Node_f1_32 s0p s0l s0c w J) h)

/-- slices.IndexFunc[[]lectern/api.Node,lectern/api.Node] -/
def VC_slices_IndexFunc_sl_api_Node_api_Node_f1_33 (s0p : Option Addr) (s0l : Nat) (s0c : Nat) (w : World) (J : Int → World → Prop) : Prop :=
  ∃ I_8 : Int → World → Nat → Prop, (∃ m : Nat, I_8 (0 : Int) w m) ∧ ∀ (x8 : Int) (w1 : World) (m : Nat), I_8 x8 w1 m → (
  condB (decide (x8 < ((s0l : Nat) : Int))) (
  idxA s0p s0l x8 fun a14 =>
  ldI .i64 w1 ((a14.add (x8.toNat * 6))) fun x15_0 =>
  ldStr w1 (((a14.add (x8.toNat * 6)).add 1)) fun x15_1 =>
  ldStr w1 (((a14.add (x8.toNat * 6)).add 2)) fun x15_2 =>
  ldS w1 (((a14.add (x8.toNat * 6)).add 3)) fun x15_3p x15_3l x15_3c =>
  ldS w1 (((a14.add (x8.toNat * 6)).add 4)) fun x15_4p x15_4l x15_4c =>
  ldStr w1 (((a14.add (x8.toNat * 6)).add 5)) fun x15_5 =>
  callJ Tryz.prog fn_tree_spoilt #[.agg ⟨[.int .i64 x15_0, .string x15_1, .string x15_2, .slice x15_3p x15_3l x15_3c, .slice x15_4p x15_4l x15_4c, .string x15_5]⟩] w1 [.one .bool] fun (r16 : Bool) (w2 : World) =>
  condB r16 (
  J x8 w2) (
  ∃ m' : Nat, m' < m ∧ I_8 (w64 (x8 + (1 : Int))) w2 m')) (
  J (-1 : Int) w1))
def ann_slices_IndexFunc_sl_api_Node_api_Node_f1_33 : Ann := .s (.o) (.s (.s (.o) (.b (.l [(8, .int .i64)] (.s (.o) (.s (.c (.o) (.o)) (.s (.b (.s (.o) (.s (.o) (.c (.s (.o) (.o)) (.o))))) (.o))))))) (.s (.o) (.o)))
theorem eq_slices_IndexFunc_sl_api_Node_api_Node_f1_33 (s0p : Option Addr) (s0l : Nat) (s0c : Nat) (w : World) (J : Int → World → Prop) : vcFun Tryz.prog Tryz.f50 ann_slices_IndexFunc_sl_api_Node_api_Node_f1_33 [.one (.int .i64)] [.slice s0p s0l s0c, .func (.func 33) #[] #[]] w J = VC_slices_IndexFunc_sl_api_Node_api_Node_f1_33 s0p s0l s0c w J := by kernel_rfl
theorem c_slices_IndexFunc_sl_api_Node_api_Node_f1_33 {s0p : Option Addr} {s0l : Nat} {s0c : Nat} {w : World} {J : Int → World → Prop} (h : VC_slices_IndexFunc_sl_api_Node_api_Node_f1_33 s0p s0l s0c w J) : callJ Tryz.prog fn_slices_IndexFunc_sl_api_Node_api_Node #[.slice s0p s0l s0c, .func (.func 33) #[] #[]] w [.one (.int .i64)] J := vc_calls Tryz.func50 ann_slices_IndexFunc_sl_api_Node_api_Node_f1_33 (Eq.mpr (eq_slices_IndexFunc_sl_api_Node_api_Node_f1_33 s0p s0l s0c w J) h)

/-- slices.IndexFunc[[]lectern/api.Node,lectern/api.Node] -/
def VC_slices_IndexFunc_sl_api_Node_api_Node_f1_34 (s0p : Option Addr) (s0l : Nat) (s0c : Nat) (w : World) (J : Int → World → Prop) : Prop :=
  ∃ I_8 : Int → World → Nat → Prop, (∃ m : Nat, I_8 (0 : Int) w m) ∧ ∀ (x8 : Int) (w1 : World) (m : Nat), I_8 x8 w1 m → (
  condB (decide (x8 < ((s0l : Nat) : Int))) (
  idxA s0p s0l x8 fun a14 =>
  ldI .i64 w1 ((a14.add (x8.toNat * 6))) fun x15_0 =>
  ldStr w1 (((a14.add (x8.toNat * 6)).add 1)) fun x15_1 =>
  ldStr w1 (((a14.add (x8.toNat * 6)).add 2)) fun x15_2 =>
  ldS w1 (((a14.add (x8.toNat * 6)).add 3)) fun x15_3p x15_3l x15_3c =>
  ldS w1 (((a14.add (x8.toNat * 6)).add 4)) fun x15_4p x15_4l x15_4c =>
  ldStr w1 (((a14.add (x8.toNat * 6)).add 5)) fun x15_5 =>
  callJ Tryz.prog fn_tree_unordered #[.agg ⟨[.int .i64 x15_0, .string x15_1, .string x15_2, .slice x15_3p x15_3l x15_3c, .slice x15_4p x15_4l x15_4c, .string x15_5]⟩] w1 [.one .bool] fun (r16 : Bool) (w2 : World) =>
  condB r16 (
  J x8 w2) (
  ∃ m' : Nat, m' < m ∧ I_8 (w64 (x8 + (1 : Int))) w2 m')) (
  J (-1 : Int) w1))
def ann_slices_IndexFunc_sl_api_Node_api_Node_f1_34 : Ann := .s (.o) (.s (.s (.o) (.b (.l [(8, .int .i64)] (.s (.o) (.s (.c (.o) (.o)) (.s (.b (.s (.o) (.s (.o) (.c (.s (.o) (.o)) (.o))))) (.o))))))) (.s (.o) (.o)))
theorem eq_slices_IndexFunc_sl_api_Node_api_Node_f1_34 (s0p : Option Addr) (s0l : Nat) (s0c : Nat) (w : World) (J : Int → World → Prop) : vcFun Tryz.prog Tryz.f50 ann_slices_IndexFunc_sl_api_Node_api_Node_f1_34 [.one (.int .i64)] [.slice s0p s0l s0c, .func (.func 34) #[] #[]] w J = VC_slices_IndexFunc_sl_api_Node_api_Node_f1_34 s0p s0l s0c w J := by kernel_rfl
theorem c_slices_IndexFunc_sl_api_Node_api_Node_f1_34 {s0p : Option Addr} {s0l : Nat} {s0c : Nat} {w : World} {J : Int → World → Prop} (h : VC_slices_IndexFunc_sl_api_Node_api_Node_f1_34 s0p s0l s0c w J) : callJ Tryz.prog fn_slices_IndexFunc_sl_api_Node_api_Node #[.slice s0p s0l s0c, .func (.func 34) #[] #[]] w [.one (.int .i64)] J := vc_calls Tryz.func50 ann_slices_IndexFunc_sl_api_Node_api_Node_f1_34 (Eq.mpr (eq_slices_IndexFunc_sl_api_Node_api_Node_f1_34 s0p s0l s0c w J) h)

/-- slices.IndexFunc[[]lectern/api.Node,lectern/api.Node] -/
def VC_slices_IndexFunc_sl_api_Node_api_Node_f1_35 (s0p : Option Addr) (s0l : Nat) (s0c : Nat) (w : World) (J : Int → World → Prop) : Prop :=
  ∃ I_8 : Int → World → Nat → Prop, (∃ m : Nat, I_8 (0 : Int) w m) ∧ ∀ (x8 : Int) (w1 : World) (m : Nat), I_8 x8 w1 m → (
  condB (decide (x8 < ((s0l : Nat) : Int))) (
  idxA s0p s0l x8 fun a14 =>
  ldI .i64 w1 ((a14.add (x8.toNat * 6))) fun x15_0 =>
  ldStr w1 (((a14.add (x8.toNat * 6)).add 1)) fun x15_1 =>
  ldStr w1 (((a14.add (x8.toNat * 6)).add 2)) fun x15_2 =>
  ldS w1 (((a14.add (x8.toNat * 6)).add 3)) fun x15_3p x15_3l x15_3c =>
  ldS w1 (((a14.add (x8.toNat * 6)).add 4)) fun x15_4p x15_4l x15_4c =>
  ldStr w1 (((a14.add (x8.toNat * 6)).add 5)) fun x15_5 =>
  callJ Tryz.prog fn_tree_wrongText #[.agg ⟨[.int .i64 x15_0, .string x15_1, .string x15_2, .slice x15_3p x15_3l x15_3c, .slice x15_4p x15_4l x15_4c, .string x15_5]⟩] w1 [.one .bool] fun (r16 : Bool) (w2 : World) =>
  condB r16 (
  J x8 w2) (
  ∃ m' : Nat, m' < m ∧ I_8 (w64 (x8 + (1 : Int))) w2 m')) (
  J (-1 : Int) w1))
def ann_slices_IndexFunc_sl_api_Node_api_Node_f1_35 : Ann := .s (.o) (.s (.s (.o) (.b (.l [(8, .int .i64)] (.s (.o) (.s (.c (.o) (.o)) (.s (.b (.s (.o) (.s (.o) (.c (.s (.o) (.o)) (.o))))) (.o))))))) (.s (.o) (.o)))
theorem eq_slices_IndexFunc_sl_api_Node_api_Node_f1_35 (s0p : Option Addr) (s0l : Nat) (s0c : Nat) (w : World) (J : Int → World → Prop) : vcFun Tryz.prog Tryz.f50 ann_slices_IndexFunc_sl_api_Node_api_Node_f1_35 [.one (.int .i64)] [.slice s0p s0l s0c, .func (.func 35) #[] #[]] w J = VC_slices_IndexFunc_sl_api_Node_api_Node_f1_35 s0p s0l s0c w J := by kernel_rfl
theorem c_slices_IndexFunc_sl_api_Node_api_Node_f1_35 {s0p : Option Addr} {s0l : Nat} {s0c : Nat} {w : World} {J : Int → World → Prop} (h : VC_slices_IndexFunc_sl_api_Node_api_Node_f1_35 s0p s0l s0c w J) : callJ Tryz.prog fn_slices_IndexFunc_sl_api_Node_api_Node #[.slice s0p s0l s0c, .func (.func 35) #[] #[]] w [.one (.int .i64)] J := vc_calls Tryz.func50 ann_slices_IndexFunc_sl_api_Node_api_Node_f1_35 (Eq.mpr (eq_slices_IndexFunc_sl_api_Node_api_Node_f1_35 s0p s0l s0c w J) h)

/-- slices.IndexFunc[[]lectern/api.Node,lectern/api.Node] -/
def VC_slices_IndexFunc_sl_api_Node_api_Node_f1_51c1 (s0p : Option Addr) (s0l : Nat) (s0c : Nat) (cp1_0 : Addr) (w : World) (J : Int → World → Prop) : Prop :=
  ∃ I_8 : Int → World → Nat → Prop, (∃ m : Nat, I_8 (0 : Int) w m) ∧ ∀ (x8 : Int) (w1 : World) (m : Nat), I_8 x8 w1 m → (
  condB (decide (x8 < ((s0l : Nat) : Int))) (
  idxA s0p s0l x8 fun a14 =>
  ldI .i64 w1 ((a14.add (x8.toNat * 6))) fun x15_0 =>
  ldStr w1 (((a14.add (x8.toNat * 6)).add 1)) fun x15_1 =>
  ldStr w1 (((a14.add (x8.toNat * 6)).add 2)) fun x15_2 =>
  ldS w1 (((a14.add (x8.toNat * 6)).add 3)) fun x15_3p x15_3l x15_3c =>
  ldS w1 (((a14.add (x8.toNat * 6)).add 4)) fun x15_4p x15_4l x15_4c =>
  ldStr w1 (((a14.add (x8.toNat * 6)).add 5)) fun x15_5 =>
  callJ Tryz.prog fn_tree_odd_1 #[.agg ⟨[.int .i64 x15_0, .string x15_1, .string x15_2, .slice x15_3p x15_3l x15_3c, .slice x15_4p x15_4l x15_4c, .string x15_5]⟩, .pointer (some cp1_0)] w1 [.one .bool] fun (r16 : Bool) (w2 : World) =>
  condB r16 (
  J x8 w2) (
  ∃ m' : Nat, m' < m ∧ I_8 (w64 (x8 + (1 : Int))) w2 m')) (
  J (-1 : Int) w1))
def ann_slices_IndexFunc_sl_api_Node_api_Node_f1_51c1 : Ann := .s (.o) (.s (.s (.o) (.b (.l [(8, .int .i64)] (.s (.o) (.s (.c (.o) (.o)) (.s (.b (.s (.o) (.s (.o) (.c (.s (.o) (.o)) (.o))))) (.o))))))) (.s (.o) (.o)))
theorem eq_slices_IndexFunc_sl_api_Node_api_Node_f1_51c1 (s0p : Option Addr) (s0l : Nat) (s0c : Nat) (cp1_0 : Addr) (w : World) (J : Int → World → Prop) : vcFun Tryz.prog Tryz.f50 ann_slices_IndexFunc_sl_api_Node_api_Node_f1_51c1 [.one (.int .i64)] [.slice s0p s0l s0c, .func (.func 51) #[] #[.pointer (some cp1_0)]] w J = VC_slices_IndexFunc_sl_api_Node_api_Node_f1_51c1 s0p s0l s0c cp1_0 w J := by kernel_rfl
theorem c_slices_IndexFunc_sl_api_Node_api_Node_f1_51c1 {s0p : Option Addr} {s0l : Nat} {s0c : Nat} {cp1_0 : Addr} {w : World} {J : Int → World → Prop} (h : VC_slices_IndexFunc_sl_api_Node_api_Node_f1_51c1 s0p s0l s0c cp1_0 w J) : callJ Tryz.prog fn_slices_IndexFunc_sl_api_Node_api_Node #[.slice s0p s0l s0c, .func (.func 51) #[] #[.pointer (some cp1_0)]] w [.one (.int .i64)] J := vc_calls Tryz.func50 ann_slices_IndexFunc_sl_api_Node_api_Node_f1_51c1 (Eq.mpr (eq_slices_IndexFunc_sl_api_Node_api_Node_f1_51c1 s0p s0l s0c cp1_0 w J) h)

/-- slices.IndexFunc[[]lectern/api.Node,lectern/api.Node] -/
def VC_slices_IndexFunc_sl_api_Node_api_Node_f1_53c1 (s0p : Option Addr) (s0l : Nat) (s0c : Nat) (cp1_0 : Addr) (w : World) (J : Int → World → Prop) : Prop :=
  ∃ I_8 : Int → World → Nat → Prop, (∃ m : Nat, I_8 (0 : Int) w m) ∧ ∀ (x8 : Int) (w1 : World) (m : Nat), I_8 x8 w1 m → (
  condB (decide (x8 < ((s0l : Nat) : Int))) (
  idxA s0p s0l x8 fun a14 =>
  ldI .i64 w1 ((a14.add (x8.toNat * 6))) fun x15_0 =>
  ldStr w1 (((a14.add (x8.toNat * 6)).add 1)) fun x15_1 =>
  ldStr w1 (((a14.add (x8.toNat * 6)).add 2)) fun x15_2 =>
  ldS w1 (((a14.add (x8.toNat * 6)).add 3)) fun x15_3p x15_3l x15_3c =>
  ldS w1 (((a14.add (x8.toNat * 6)).add 4)) fun x15_4p x15_4l x15_4c =>
  ldStr w1 (((a14.add (x8.toNat * 6)).add 5)) fun x15_5 =>
  callJ Tryz.prog fn_tree_deep_1 #[.agg ⟨[.int .i64 x15_0, .string x15_1, .string x15_2, .slice x15_3p x15_3l x15_3c, .slice x15_4p x15_4l x15_4c, .string x15_5]⟩, .pointer (some cp1_0)] w1 [.one .bool] fun (r16 : Bool) (w2 : World) =>
  condB r16 (
  J x8 w2) (
  ∃ m' : Nat, m' < m ∧ I_8 (w64 (x8 + (1 : Int))) w2 m')) (
  J (-1 : Int) w1))
def ann_slices_IndexFunc_sl_api_Node_api_Node_f1_53c1 : Ann := .s (.o) (.s (.s (.o) (.b (.l [(8, .int .i64)] (.s (.o) (.s (.c (.o) (.o)) (.s (.b (.s (.o) (.s (.o) (.c (.s (.o) (.o)) (.o))))) (.o))))))) (.s (.o) (.o)))
theorem eq_slices_IndexFunc_sl_api_Node_api_Node_f1_53c1 (s0p : Option Addr) (s0l : Nat) (s0c : Nat) (cp1_0 : Addr) (w : World) (J : Int → World → Prop) : vcFun Tryz.prog Tryz.f50 ann_slices_IndexFunc_sl_api_Node_api_Node_f1_53c1 [.one (.int .i64)] [.slice s0p s0l s0c, .func (.func 53) #[] #[.pointer (some cp1_0)]] w J = VC_slices_IndexFunc_sl_api_Node_api_Node_f1_53c1 s0p s0l s0c cp1_0 w J := by kernel_rfl
theorem c_slices_IndexFunc_sl_api_Node_api_Node_f1_53c1 {s0p : Option Addr} {s0l : Nat} {s0c : Nat} {cp1_0 : Addr} {w : World} {J : Int → World → Prop} (h : VC_slices_IndexFunc_sl_api_Node_api_Node_f1_53c1 s0p s0l s0c cp1_0 w J) : callJ Tryz.prog fn_slices_IndexFunc_sl_api_Node_api_Node #[.slice s0p s0l s0c, .func (.func 53) #[] #[.pointer (some cp1_0)]] w [.one (.int .i64)] J := vc_calls Tryz.func50 ann_slices_IndexFunc_sl_api_Node_api_Node_f1_53c1 (Eq.mpr (eq_slices_IndexFunc_sl_api_Node_api_Node_f1_53c1 s0p s0l s0c cp1_0 w J) h)

/-- slices.ContainsFunc[[]lectern/api.Attr,lectern/api.Attr] -/
def VC_slices_ContainsFunc_sl_api_Attr_api_Attr_f1_54 (s0p : Option Addr) (s0l : Nat) (s0c : Nat) (w : World) (J : Bool → World → Prop) : Prop :=
  callJ Tryz.prog fn_slices_IndexFunc_sl_api_Attr_api_Attr #[.slice s0p s0l s0c, .func (.func 54) #[] #[]] w [.one (.int .i64)] fun (r7 : Int) (w1 : World) =>
  J (decide (r7 ≥ (0 : Int))) w1
def ann_slices_ContainsFunc_sl_api_Attr_api_Attr_f1_54 : Ann := .s (.o) (.s (.o) (.o))
theorem eq_slices_ContainsFunc_sl_api_Attr_api_Attr_f1_54 (s0p : Option Addr) (s0l : Nat) (s0c : Nat) (w : World) (J : Bool → World → Prop) : vcFun Tryz.prog Tryz.f55 ann_slices_ContainsFunc_sl_api_Attr_api_Attr_f1_54 [.one .bool] [.slice s0p s0l s0c, .func (.func 54) #[] #[]] w J = VC_slices_ContainsFunc_sl_api_Attr_api_Attr_f1_54 s0p s0l s0c w J := by kernel_rfl
theorem c_slices_ContainsFunc_sl_api_Attr_api_Attr_f1_54 {s0p : Option Addr} {s0l : Nat} {s0c : Nat} {w : World} {J : Bool → World → Prop} (h : VC_slices_ContainsFunc_sl_api_Attr_api_Attr_f1_54 s0p s0l s0c w J) : callJ Tryz.prog fn_slices_ContainsFunc_sl_api_Attr_api_Attr #[.slice s0p s0l s0c, .func (.func 54) #[] #[]] w [.one .bool] J := vc_calls Tryz.func55 ann_slices_ContainsFunc_sl_api_Attr_api_Attr_f1_54 (Eq.mpr (eq_slices_ContainsFunc_sl_api_Attr_api_Attr_f1_54 s0p s0l s0c w J) h)

/-- slices.ContainsFunc[[]lectern/api.Attr,lectern/api.Attr] -/
def VC_slices_ContainsFunc_sl_api_Attr_api_Attr_f1_56 (s0p : Option Addr) (s0l : Nat) (s0c : Nat) (w : World) (J : Bool → World → Prop) : Prop :=
  callJ Tryz.prog fn_slices_IndexFunc_sl_api_Attr_api_Attr #[.slice s0p s0l s0c, .func (.func 56) #[] #[]] w [.one (.int .i64)] fun (r7 : Int) (w1 : World) =>
  J (decide (r7 ≥ (0 : Int))) w1
def ann_slices_ContainsFunc_sl_api_Attr_api_Attr_f1_56 : Ann := .s (.o) (.s (.o) (.o))
theorem eq_slices_ContainsFunc_sl_api_Attr_api_Attr_f1_56 (s0p : Option Addr) (s0l : Nat) (s0c : Nat) (w : World) (J : Bool → World → Prop) : vcFun Tryz.prog Tryz.f55 ann_slices_ContainsFunc_sl_api_Attr_api_Attr_f1_56 [.one .bool] [.slice s0p s0l s0c, .func (.func 56) #[] #[]] w J = VC_slices_ContainsFunc_sl_api_Attr_api_Attr_f1_56 s0p s0l s0c w J := by kernel_rfl
theorem c_slices_ContainsFunc_sl_api_Attr_api_Attr_f1_56 {s0p : Option Addr} {s0l : Nat} {s0c : Nat} {w : World} {J : Bool → World → Prop} (h : VC_slices_ContainsFunc_sl_api_Attr_api_Attr_f1_56 s0p s0l s0c w J) : callJ Tryz.prog fn_slices_ContainsFunc_sl_api_Attr_api_Attr #[.slice s0p s0l s0c, .func (.func 56) #[] #[]] w [.one .bool] J := vc_calls Tryz.func55 ann_slices_ContainsFunc_sl_api_Attr_api_Attr_f1_56 (Eq.mpr (eq_slices_ContainsFunc_sl_api_Attr_api_Attr_f1_56 s0p s0l s0c w J) h)

/-- slices.ContainsFunc[[]lectern/api.Attr,lectern/api.Attr] -/
def VC_slices_ContainsFunc_sl_api_Attr_api_Attr_f1_61 (s0p : Option Addr) (s0l : Nat) (s0c : Nat) (w : World) (J : Bool → World → Prop) : Prop :=
  callJ Tryz.prog fn_slices_IndexFunc_sl_api_Attr_api_Attr #[.slice s0p s0l s0c, .func (.func 61) #[] #[]] w [.one (.int .i64)] fun (r7 : Int) (w1 : World) =>
  J (decide (r7 ≥ (0 : Int))) w1
def ann_slices_ContainsFunc_sl_api_Attr_api_Attr_f1_61 : Ann := .s (.o) (.s (.o) (.o))
theorem eq_slices_ContainsFunc_sl_api_Attr_api_Attr_f1_61 (s0p : Option Addr) (s0l : Nat) (s0c : Nat) (w : World) (J : Bool → World → Prop) : vcFun Tryz.prog Tryz.f55 ann_slices_ContainsFunc_sl_api_Attr_api_Attr_f1_61 [.one .bool] [.slice s0p s0l s0c, .func (.func 61) #[] #[]] w J = VC_slices_ContainsFunc_sl_api_Attr_api_Attr_f1_61 s0p s0l s0c w J := by kernel_rfl
theorem c_slices_ContainsFunc_sl_api_Attr_api_Attr_f1_61 {s0p : Option Addr} {s0l : Nat} {s0c : Nat} {w : World} {J : Bool → World → Prop} (h : VC_slices_ContainsFunc_sl_api_Attr_api_Attr_f1_61 s0p s0l s0c w J) : callJ Tryz.prog fn_slices_ContainsFunc_sl_api_Attr_api_Attr #[.slice s0p s0l s0c, .func (.func 61) #[] #[]] w [.one .bool] J := vc_calls Tryz.func55 ann_slices_ContainsFunc_sl_api_Attr_api_Attr_f1_61 (Eq.mpr (eq_slices_ContainsFunc_sl_api_Attr_api_Attr_f1_61 s0p s0l s0c w J) h)

/-- slices.IndexFunc[[]lectern/api.Attr,lectern/api.Attr] -/
def VC_slices_IndexFunc_sl_api_Attr_api_Attr_f1_54 (s0p : Option Addr) (s0l : Nat) (s0c : Nat) (w : World) (J : Int → World → Prop) : Prop :=
  ∃ I_8 : Int → World → Nat → Prop, (∃ m : Nat, I_8 (0 : Int) w m) ∧ ∀ (x8 : Int) (w1 : World) (m : Nat), I_8 x8 w1 m → (
  condB (decide (x8 < ((s0l : Nat) : Int))) (
  idxA s0p s0l x8 fun a14 =>
  ldStr w1 ((a14.add (x8.toNat * 3))) fun x15_0 =>
  ldStr w1 (((a14.add (x8.toNat * 3)).add 1)) fun x15_1 =>
  ldStr w1 (((a14.add (x8.toNat * 3)).add 2)) fun x15_2 =>
  callJ Tryz.prog fn_tree_great_1 #[.agg ⟨[.string x15_0, .string x15_1, .string x15_2]⟩] w1 [.one .bool] fun (r16 : Bool) (w2 : World) =>
  condB r16 (
  J x8 w2) (
  ∃ m' : Nat, m' < m ∧ I_8 (w64 (x8 + (1 : Int))) w2 m')) (
  J (-1 : Int) w1))
def ann_slices_IndexFunc_sl_api_Attr_api_Attr_f1_54 : Ann := .s (.o) (.s (.s (.o) (.b (.l [(8, .int .i64)] (.s (.o) (.s (.c (.o) (.o)) (.s (.b (.s (.o) (.s (.o) (.c (.s (.o) (.o)) (.o))))) (.o))))))) (.s (.o) (.o)))
theorem eq_slices_IndexFunc_sl_api_Attr_api_Attr_f1_54 (s0p : Option Addr) (s0l : Nat) (s0c : Nat) (w : World) (J : Int → World → Prop) : vcFun Tryz.prog Tryz.f77 ann_slices_IndexFunc_sl_api_Attr_api_Attr_f1_54 [.one (.int .i64)] [.slice s0p s0l s0c, .func (.func 54) #[] #[]] w J = VC_slices_IndexFunc_sl_api_Attr_api_Attr_f1_54 s0p s0l s0c w J := by kernel_rfl
theorem c_slices_IndexFunc_sl_api_Attr_api_Attr_f1_54 {s0p : Option Addr} {s0l : Nat} {s0c : Nat} {w : World} {J : Int → World → Prop} (h : VC_slices_IndexFunc_sl_api_Attr_api_Attr_f1_54 s0p s0l s0c w J) : callJ Tryz.prog fn_slices_IndexFunc_sl_api_Attr_api_Attr #[.slice s0p s0l s0c, .func (.func 54) #[] #[]] w [.one (.int .i64)] J := vc_calls Tryz.func77 ann_slices_IndexFunc_sl_api_Attr_api_Attr_f1_54 (Eq.mpr (eq_slices_IndexFunc_sl_api_Attr_api_Attr_f1_54 s0p s0l s0c w J) h)

/-- slices.IndexFunc[[]lectern/api.Attr,lectern/api.Attr] -/
def VC_slices_IndexFunc_sl_api_Attr_api_Attr_f1_56 (s0p : Option Addr) (s0l : Nat) (s0c : Nat) (w : World) (J : Int → World → Prop) : Prop :=
  ∃ I_8 : Int → World → Nat → Prop, (∃ m : Nat, I_8 (0 : Int) w m) ∧ ∀ (x8 : Int) (w1 : World) (m : Nat), I_8 x8 w1 m → (
  condB (decide (x8 < ((s0l : Nat) : Int))) (
  idxA s0p s0l x8 fun a14 =>
  ldStr w1 ((a14.add (x8.toNat * 3))) fun x15_0 =>
  ldStr w1 (((a14.add (x8.toNat * 3)).add 1)) fun x15_1 =>
  ldStr w1 (((a14.add (x8.toNat * 3)).add 2)) fun x15_2 =>
  callJ Tryz.prog fn_tree_misnamed_1 #[.agg ⟨[.string x15_0, .string x15_1, .string x15_2]⟩] w1 [.one .bool] fun (r16 : Bool) (w2 : World) =>
  condB r16 (
  J x8 w2) (
  ∃ m' : Nat, m' < m ∧ I_8 (w64 (x8 + (1 : Int))) w2 m')) (
  J (-1 : Int) w1))
def ann_slices_IndexFunc_sl_api_Attr_api_Attr_f1_56 : Ann := .s (.o) (.s (.s (.o) (.b (.l [(8, .int .i64)] (.s (.o) (.s (.c (.o) (.o)) (.s (.b (.s (.o) (.s (.o) (.c (.s (.o) (.o)) (.o))))) (.o))))))) (.s (.o) (.o)))
theorem eq_slices_IndexFunc_sl_api_Attr_api_Attr_f1_56 (s0p : Option Addr) (s0l : Nat) (s0c : Nat) (w : World) (J : Int → World → Prop) : vcFun Tryz.prog Tryz.f77 ann_slices_IndexFunc_sl_api_Attr_api_Attr_f1_56 [.one (.int .i64)] [.slice s0p s0l s0c, .func (.func 56) #[] #[]] w J = VC_slices_IndexFunc_sl_api_Attr_api_Attr_f1_56 s0p s0l s0c w J := by kernel_rfl
theorem c_slices_IndexFunc_sl_api_Attr_api_Attr_f1_56 {s0p : Option Addr} {s0l : Nat} {s0c : Nat} {w : World} {J : Int → World → Prop} (h : VC_slices_IndexFunc_sl_api_Attr_api_Attr_f1_56 s0p s0l s0c w J) : callJ Tryz.prog fn_slices_IndexFunc_sl_api_Attr_api_Attr #[.slice s0p s0l s0c, .func (.func 56) #[] #[]] w [.one (.int .i64)] J := vc_calls Tryz.func77 ann_slices_IndexFunc_sl_api_Attr_api_Attr_f1_56 (Eq.mpr (eq_slices_IndexFunc_sl_api_Attr_api_Attr_f1_56 s0p s0l s0c w J) h)

/-- slices.IndexFunc[[]lectern/api.Attr,lectern/api.Attr] -/
def VC_slices_IndexFunc_sl_api_Attr_api_Attr_f1_61 (s0p : Option Addr) (s0l : Nat) (s0c : Nat) (w : World) (J : Int → World → Prop) : Prop :=
  ∃ I_8 : Int → World → Nat → Prop, (∃ m : Nat, I_8 (0 : Int) w m) ∧ ∀ (x8 : Int) (w1 : World) (m : Nat), I_8 x8 w1 m → (
  condB (decide (x8 < ((s0l : Nat) : Int))) (
  idxA s0p s0l x8 fun a14 =>
  ldStr w1 ((a14.add (x8.toNat * 3))) fun x15_0 =>
  ldStr w1 (((a14.add (x8.toNat * 3)).add 1)) fun x15_1 =>
  ldStr w1 (((a14.add (x8.toNat * 3)).add 2)) fun x15_2 =>
  callJ Tryz.prog fn_tree_spoilt_1 #[.agg ⟨[.string x15_0, .string x15_1, .string x15_2]⟩] w1 [.one .bool] fun (r16 : Bool) (w2 : World) =>
  condB r16 (
  J x8 w2) (
  ∃ m' : Nat, m' < m ∧ I_8 (w64 (x8 + (1 : Int))) w2 m')) (
  J (-1 : Int) w1))
def ann_slices_IndexFunc_sl_api_Attr_api_Attr_f1_61 : Ann := .s (.o) (.s (.s (.o) (.b (.l [(8, .int .i64)] (.s (.o) (.s (.c (.o) (.o)) (.s (.b (.s (.o) (.s (.o) (.c (.s (.o) (.o)) (.o))))) (.o))))))) (.s (.o) (.o)))
theorem eq_slices_IndexFunc_sl_api_Attr_api_Attr_f1_61 (s0p : Option Addr) (s0l : Nat) (s0c : Nat) (w : World) (J : Int → World → Prop) : vcFun Tryz.prog Tryz.f77 ann_slices_IndexFunc_sl_api_Attr_api_Attr_f1_61 [.one (.int .i64)] [.slice s0p s0l s0c, .func (.func 61) #[] #[]] w J = VC_slices_IndexFunc_sl_api_Attr_api_Attr_f1_61 s0p s0l s0c w J := by kernel_rfl
theorem c_slices_IndexFunc_sl_api_Attr_api_Attr_f1_61 {s0p : Option Addr} {s0l : Nat} {s0c : Nat} {w : World} {J : Int → World → Prop} (h : VC_slices_IndexFunc_sl_api_Attr_api_Attr_f1_61 s0p s0l s0c w J) : callJ Tryz.prog fn_slices_IndexFunc_sl_api_Attr_api_Attr #[.slice s0p s0l s0c, .func (.func 61) #[] #[]] w [.one (.int .i64)] J := vc_calls Tryz.func77 ann_slices_IndexFunc_sl_api_Attr_api_Attr_f1_61 (Eq.mpr (eq_slices_IndexFunc_sl_api_Attr_api_Attr_f1_61 s0p s0l s0c w J) h)

end Go.Proofs.YtkgfbphdmnapdaaGreatDoor
