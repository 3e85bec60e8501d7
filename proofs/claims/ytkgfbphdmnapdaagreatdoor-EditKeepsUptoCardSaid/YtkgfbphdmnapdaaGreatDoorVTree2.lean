/- What the conditions of these functions are, reckoned by the reading; printed by program. -/
import Derived.Test.YtkgfbphdmnapdaaGreatDoorNm
import Derived.KernelRfl
set_option maxRecDepth 100000
set_option linter.unusedVariables false
namespace Go.Proofs.YtkgfbphdmnapdaaGreatDoor
open Go Go.Vc

/-- lectern/tree.Copy -/
def VC_tree_Copy (n0_0 : Int) (n0_1 : ByteArray) (n0_2 : ByteArray) (n0_3p : Option Addr) (n0_3l : Nat) (n0_3c : Nat) (n0_4p : Option Addr) (n0_4l : Nat) (n0_4c : Nat) (n0_5 : ByteArray) (w : World) (J : Int → ByteArray → ByteArray → Option Addr → Nat → Nat → Option Addr → Nat → Nat → ByteArray → World → Prop) : Prop :=
  newB w (.cells ⟨[.int .i64 n0_0, .string n0_1, .string n0_2, .slice n0_3p n0_3l n0_3c, .slice n0_4p n0_4l n0_4c, .string n0_5]⟩ T_api_Node) fun b1 w1 =>
  newB w1 (.cells (zeroC Tryz.prog T_api_Node) T_api_Node) fun b2 w2 =>
  ldS w2 ⟨b1, 3, none⟩ fun x7p x7l x7c =>
  appJ Tryz.prog T_sl_api_Attr T_sl_api_Attr (.slice none 0 0) (.slice x7p x7l x7c) w2 fun q8p q8l q8c w3 =>
  stV w3 ⟨b1, 3, none⟩ (.slice q8p q8l q8c) fun w4 =>
  ldS w4 ⟨b1, 4, none⟩ fun x11p x11l x11c =>
  stV w4 ⟨b1, 4, none⟩ (.slice none 0 0) fun w5 =>
  ∃ I_15 : Int → World → Nat → Prop, (∃ m : Nat, I_15 (0 : Int) w5 m) ∧ ∀ (x15 : Int) (w6 : World) (m : Nat), I_15 x15 w6 m → (
  condB (decide (x15 < ((x11l : Nat) : Int))) (
  idxA x11p x11l x15 fun a17 =>
  ldI .i64 w6 ((a17.add (x15.toNat * 6))) fun x18_0 =>
  ldStr w6 (((a17.add (x15.toNat * 6)).add 1)) fun x18_1 =>
  ldStr w6 (((a17.add (x15.toNat * 6)).add 2)) fun x18_2 =>
  ldS w6 (((a17.add (x15.toNat * 6)).add 3)) fun x18_3p x18_3l x18_3c =>
  ldS w6 (((a17.add (x15.toNat * 6)).add 4)) fun x18_4p x18_4l x18_4c =>
  ldStr w6 (((a17.add (x15.toNat * 6)).add 5)) fun x18_5 =>
  newB w6 (.cells (zeroC Tryz.prog T_api_Node) T_api_Node) fun b5 w7 =>
  stN w7 ⟨b5, 0, none⟩ ⟨[.int .i64 x18_0, .string x18_1, .string x18_2, .slice x18_3p x18_3l x18_3c, .slice x18_4p x18_4l x18_4c, .string x18_5]⟩ 6 fun w8 =>
  ldS w8.drew ⟨b1, 4, none⟩ fun x20p x20l x20c =>
  ldI .i64 w8.drew ⟨b5, 0, none⟩ fun x21_0 =>
  ldStr w8.drew ⟨b5, 1, none⟩ fun x21_1 =>
  ldStr w8.drew ⟨b5, 2, none⟩ fun x21_2 =>
  ldS w8.drew ⟨b5, 3, none⟩ fun x21_3p x21_3l x21_3c =>
  ldS w8.drew ⟨b5, 4, none⟩ fun x21_4p x21_4l x21_4c =>
  ldStr w8.drew ⟨b5, 5, none⟩ fun x21_5 =>
  callJ Tryz.prog fn_tree_Copy #[.agg ⟨[.int .i64 x21_0, .string x21_1, .string x21_2, .slice x21_3p x21_3l x21_3c, .slice x21_4p x21_4l x21_4c, .string x21_5]⟩] w8.drew [.agg [.int .i64, .str, .str, .slice, .slice, .str]] fun (r22_0 : Int) (r22_1 : ByteArray) (r22_2 : ByteArray) (r22_3p : Option Addr) (r22_3l : Nat) (r22_3c : Nat) (r22_4p : Option Addr) (r22_4l : Nat) (r22_4c : Nat) (r22_5 : ByteArray) (w9 : World) =>
  w9.cell? ⟨b1, 4, none⟩ = some (.slice x20p x20l x20c) ∧
  Array.size (⟨[.int .i64 r22_0, .string r22_1, .string r22_2, .slice r22_3p r22_3l r22_3c, .slice r22_4p r22_4l r22_4c, .string r22_5]⟩ : Array Value) = 6 ∧
  newB w9 (.cells ⟨[.int .i64 r22_0, .string r22_1, .string r22_2, .slice r22_3p r22_3l r22_3c, .slice r22_4p r22_4l r22_4c, .string r22_5]⟩ T_api_Node) fun b23 w10 =>
  w10.cell? ⟨b1, 4, none⟩ = some (.slice x20p x20l x20c) ∧
  appJ Tryz.prog T_sl_api_Node T_sl_api_Node (.slice x20p x20l x20c) (.slice (some ⟨b23, 0, none⟩) 1 1) w10 fun q24p q24l q24c w11 =>
  stV w11 ⟨b1, 4, none⟩ (.slice q24p q24l q24c) fun w12 =>
  ∃ m' : Nat, m' < m ∧ I_15 (w64 (x15 + (1 : Int))) w12 m') (
  ldI .i64 w6 ⟨b1, 0, none⟩ fun x27_0 =>
  ldStr w6 ⟨b1, 1, none⟩ fun x27_1 =>
  ldStr w6 ⟨b1, 2, none⟩ fun x27_2 =>
  ldS w6 ⟨b1, 3, none⟩ fun x27_3p x27_3l x27_3c =>
  ldS w6 ⟨b1, 4, none⟩ fun x27_4p x27_4l x27_4c =>
  ldStr w6 ⟨b1, 5, none⟩ fun x27_5 =>
  stN w6 ⟨b2, 0, none⟩ ⟨[.int .i64 x27_0, .string x27_1, .string x27_2, .slice x27_3p x27_3l x27_3c, .slice x27_4p x27_4l x27_4c, .string x27_5]⟩ 6 fun w13 =>
  ldI .i64 w13 ⟨b2, 0, none⟩ fun r_0 =>
  ldStr w13 ⟨b2, 1, none⟩ fun r_1 =>
  ldStr w13 ⟨b2, 2, none⟩ fun r_2 =>
  ldS w13 ⟨b2, 3, none⟩ fun r_3p r_3l r_3c =>
  ldS w13 ⟨b2, 4, none⟩ fun r_4p r_4l r_4c =>
  ldStr w13 ⟨b2, 5, none⟩ fun r_5 =>
  J r_0 r_1 r_2 r_3p r_3l r_3c r_4p r_4l r_4c r_5 w13))
def ann_tree_Copy : Ann := .s (.o) (.s (.o) (.s (.o) (.s (.o) (.s (.s (.o) (.b (.l [(15, .int .i64)] (.s (.o) (.s (.c (.o) (.o)) (.s (.b (.s (.o) (.d (.take 0 (.take 1 (.take 2 (.eff 3 (.eff 4 (.eff 5 (.take 6 (.eff 7 (.done) (.none))) (.none)) (.none)) (.none)))))))) (.o))))))) (.s (.o) (.o))))))
theorem eq_tree_Copy (n0_0 : Int) (n0_1 : ByteArray) (n0_2 : ByteArray) (n0_3p : Option Addr) (n0_3l : Nat) (n0_3c : Nat) (n0_4p : Option Addr) (n0_4l : Nat) (n0_4c : Nat) (n0_5 : ByteArray) (w : World) (J : Int → ByteArray → ByteArray → Option Addr → Nat → Nat → Option Addr → Nat → Nat → ByteArray → World → Prop) : vcFun Tryz.prog Tryz.f19 ann_tree_Copy [.agg [.int .i64, .str, .str, .slice, .slice, .str]] [.agg ⟨[.int .i64 n0_0, .string n0_1, .string n0_2, .slice n0_3p n0_3l n0_3c, .slice n0_4p n0_4l n0_4c, .string n0_5]⟩] w J = VC_tree_Copy n0_0 n0_1 n0_2 n0_3p n0_3l n0_3c n0_4p n0_4l n0_4c n0_5 w J := by kernel_rfl
theorem c_tree_Copy {n0_0 : Int} {n0_1 : ByteArray} {n0_2 : ByteArray} {n0_3p : Option Addr} {n0_3l : Nat} {n0_3c : Nat} {n0_4p : Option Addr} {n0_4l : Nat} {n0_4c : Nat} {n0_5 : ByteArray} {w : World} {J : Int → ByteArray → ByteArray → Option Addr → Nat → Nat → Option Addr → Nat → Nat → ByteArray → World → Prop} (h : VC_tree_Copy n0_0 n0_1 n0_2 n0_3p n0_3l n0_3c n0_4p n0_4l n0_4c n0_5 w J) : callJ Tryz.prog fn_tree_Copy #[.agg ⟨[.int .i64 n0_0, .string n0_1, .string n0_2, .slice n0_3p n0_3l n0_3c, .slice n0_4p n0_4l n0_4c, .string n0_5]⟩] w [.agg [.int .i64, .str, .str, .slice, .slice, .str]] J := vc_calls Tryz.func19 ann_tree_Copy (Eq.mpr (eq_tree_Copy n0_0 n0_1 n0_2 n0_3p n0_3l n0_3c n0_4p n0_4l n0_4c n0_5 w J) h)

/-- lectern/tree.At -/
def VC_tree_At (n0_0 : Int) (n0_1 : ByteArray) (n0_2 : ByteArray) (n0_3p : Option Addr) (n0_3l : Nat) (n0_3c : Nat) (n0_4p : Option Addr) (n0_4l : Nat) (n0_4c : Nat) (n0_5 : ByteArray) (path1p : Option Addr) (path1l : Nat) (path1c : Nat) (w : World) (J : Int → ByteArray → ByteArray → Option Addr → Nat → Nat → Option Addr → Nat → Nat → ByteArray → Int → World → Prop) : Prop :=
  newB w (.cells ⟨[.int .i64 n0_0, .string n0_1, .string n0_2, .slice n0_3p n0_3l n0_3c, .slice n0_4p n0_4l n0_4c, .string n0_5]⟩ T_api_Node) fun b2 w1 =>
  newB w1 (.cells (zeroC Tryz.prog T_api_Node) T_api_Node) fun b4 w2 =>
  ∃ I_10 : Int → World → Nat → Prop, (∃ m : Nat, I_10 (0 : Int) w2 m) ∧ ∀ (x10 : Int) (w3 : World) (m : Nat), I_10 x10 w3 m → (
  condB (decide (x10 < ((path1l : Nat) : Int))) (
  idxA path1p path1l x10 fun a12 =>
  ldI .i64 w3 ((a12.add (x10.toNat * 1))) fun x13 =>
  withJ (fun (x22 : Bool) (w4 : World) =>
  condB x22 (
  stN w4 ⟨b4, 0, none⟩ ⟨[.int .i64 (0 : Int), .string ByteArray.empty, .string ByteArray.empty, .slice none 0 0, .slice none 0 0, .string ByteArray.empty]⟩ 6 fun w5 =>
  ldI .i64 w5 ⟨b4, 0, none⟩ fun r_0 =>
  ldStr w5 ⟨b4, 1, none⟩ fun r_1 =>
  ldStr w5 ⟨b4, 2, none⟩ fun r_2 =>
  ldS w5 ⟨b4, 3, none⟩ fun r_3p r_3l r_3c =>
  ldS w5 ⟨b4, 4, none⟩ fun r_4p r_4l r_4c =>
  ldStr w5 ⟨b4, 5, none⟩ fun r_5 =>
  J r_0 r_1 r_2 r_3p r_3l r_3c r_4p r_4l r_4c r_5 (35 : Int) w5) (
  ldS w4 ⟨b2, 4, none⟩ fun x25p x25l x25c =>
  idxA x25p x25l x13 fun a27 =>
  ldI .i64 w4 ((a27.add (x13.toNat * 6))) fun x28_0 =>
  ldStr w4 (((a27.add (x13.toNat * 6)).add 1)) fun x28_1 =>
  ldStr w4 (((a27.add (x13.toNat * 6)).add 2)) fun x28_2 =>
  ldS w4 (((a27.add (x13.toNat * 6)).add 3)) fun x28_3p x28_3l x28_3c =>
  ldS w4 (((a27.add (x13.toNat * 6)).add 4)) fun x28_4p x28_4l x28_4c =>
  ldStr w4 (((a27.add (x13.toNat * 6)).add 5)) fun x28_5 =>
  stN w4 ⟨b2, 0, none⟩ ⟨[.int .i64 x28_0, .string x28_1, .string x28_2, .slice x28_3p x28_3l x28_3c, .slice x28_4p x28_4l x28_4c, .string x28_5]⟩ 6 fun w6 =>
  ∃ m' : Nat, m' < m ∧ I_10 (w64 (x10 + (1 : Int))) w6 m')) fun J_22 =>
  condB (decide (x13 < (0 : Int))) (
  J_22 true w3) (
  ldS w3 ⟨b2, 4, none⟩ fun x19p x19l x19c =>
  J_22 (decide (x13 ≥ ((x19l : Nat) : Int))) w3)) (
  ldI .i64 w3 ⟨b2, 0, none⟩ fun x30_0 =>
  ldStr w3 ⟨b2, 1, none⟩ fun x30_1 =>
  ldStr w3 ⟨b2, 2, none⟩ fun x30_2 =>
  ldS w3 ⟨b2, 3, none⟩ fun x30_3p x30_3l x30_3c =>
  ldS w3 ⟨b2, 4, none⟩ fun x30_4p x30_4l x30_4c =>
  ldStr w3 ⟨b2, 5, none⟩ fun x30_5 =>
  callJ Tryz.prog fn_tree_Copy #[.agg ⟨[.int .i64 x30_0, .string x30_1, .string x30_2, .slice x30_3p x30_3l x30_3c, .slice x30_4p x30_4l x30_4c, .string x30_5]⟩] w3 [.agg [.int .i64, .str, .str, .slice, .slice, .str]] fun (r31_0 : Int) (r31_1 : ByteArray) (r31_2 : ByteArray) (r31_3p : Option Addr) (r31_3l : Nat) (r31_3c : Nat) (r31_4p : Option Addr) (r31_4l : Nat) (r31_4c : Nat) (r31_5 : ByteArray) (w7 : World) =>
  stN w7 ⟨b4, 0, none⟩ ⟨[.int .i64 r31_0, .string r31_1, .string r31_2, .slice r31_3p r31_3l r31_3c, .slice r31_4p r31_4l r31_4c, .string r31_5]⟩ 6 fun w8 =>
  ldI .i64 w8 ⟨b4, 0, none⟩ fun r_0_1 =>
  ldStr w8 ⟨b4, 1, none⟩ fun r_1_1 =>
  ldStr w8 ⟨b4, 2, none⟩ fun r_2_1 =>
  ldS w8 ⟨b4, 3, none⟩ fun r_3_1p r_3_1l r_3_1c =>
  ldS w8 ⟨b4, 4, none⟩ fun r_4_1p r_4_1l r_4_1c =>
  ldStr w8 ⟨b4, 5, none⟩ fun r_5_1 =>
  J r_0_1 r_1_1 r_2_1 r_3_1p r_3_1l r_3_1c r_4_1p r_4_1l r_4_1c r_5_1 (0 : Int) w8))
def ann_tree_At : Ann := .s (.o) (.s (.s (.o) (.b (.l [(10, .int .i64)] (.s (.o) (.s (.c (.o) (.o)) (.s (.b (.s (.o) (.s (.j [(22, .bool)] (.o) (.c (.s (.o) (.o)) (.o))) (.o)))) (.o))))))) (.s (.o) (.o)))
theorem eq_tree_At (n0_0 : Int) (n0_1 : ByteArray) (n0_2 : ByteArray) (n0_3p : Option Addr) (n0_3l : Nat) (n0_3c : Nat) (n0_4p : Option Addr) (n0_4l : Nat) (n0_4c : Nat) (n0_5 : ByteArray) (path1p : Option Addr) (path1l : Nat) (path1c : Nat) (w : World) (J : Int → ByteArray → ByteArray → Option Addr → Nat → Nat → Option Addr → Nat → Nat → ByteArray → Int → World → Prop) : vcFun Tryz.prog Tryz.f25 ann_tree_At [.agg [.int .i64, .str, .str, .slice, .slice, .str], .one (.int .i64)] [.agg ⟨[.int .i64 n0_0, .string n0_1, .string n0_2, .slice n0_3p n0_3l n0_3c, .slice n0_4p n0_4l n0_4c, .string n0_5]⟩, .slice path1p path1l path1c] w J = VC_tree_At n0_0 n0_1 n0_2 n0_3p n0_3l n0_3c n0_4p n0_4l n0_4c n0_5 path1p path1l path1c w J := by kernel_rfl
theorem c_tree_At {n0_0 : Int} {n0_1 : ByteArray} {n0_2 : ByteArray} {n0_3p : Option Addr} {n0_3l : Nat} {n0_3c : Nat} {n0_4p : Option Addr} {n0_4l : Nat} {n0_4c : Nat} {n0_5 : ByteArray} {path1p : Option Addr} {path1l : Nat} {path1c : Nat} {w : World} {J : Int → ByteArray → ByteArray → Option Addr → Nat → Nat → Option Addr → Nat → Nat → ByteArray → Int → World → Prop} (h : VC_tree_At n0_0 n0_1 n0_2 n0_3p n0_3l n0_3c n0_4p n0_4l n0_4c n0_5 path1p path1l path1c w J) : callJ Tryz.prog fn_tree_At #[.agg ⟨[.int .i64 n0_0, .string n0_1, .string n0_2, .slice n0_3p n0_3l n0_3c, .slice n0_4p n0_4l n0_4c, .string n0_5]⟩, .slice path1p path1l path1c] w [.agg [.int .i64, .str, .str, .slice, .slice, .str], .one (.int .i64)] J := vc_calls Tryz.func25 ann_tree_At (Eq.mpr (eq_tree_At n0_0 n0_1 n0_2 n0_3p n0_3l n0_3c n0_4p n0_4l n0_4c n0_5 path1p path1l path1c w J) h)

end Go.Proofs.YtkgfbphdmnapdaaGreatDoor
