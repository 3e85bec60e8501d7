/- What the conditions of these functions are, reckoned by the reading; printed by program. -/
import Derived.Test.YtmmfookfpdcohaaGreatDoorNm
import Derived.KernelRfl
set_option maxRecDepth 100000
set_option linter.unusedVariables false
namespace Go.Proofs.YtmmfookfpdcohaaGreatDoor
open Go Go.Vc

/-- lectern/tree.Size -/
def VC_tree_Size (n0_0 : Int) (n0_1 : ByteArray) (n0_2 : ByteArray) (n0_3p : Option Addr) (n0_3l : Nat) (n0_3c : Nat) (n0_4p : Option Addr) (n0_4l : Nat) (n0_4c : Nat) (n0_5 : ByteArray) (w : World) (J : Int → World → Prop) : Prop :=
  newB w (.cells ⟨[.int .i64 n0_0, .string n0_1, .string n0_2, .slice n0_3p n0_3l n0_3c, .slice n0_4p n0_4l n0_4c, .string n0_5]⟩ T_api_Node) fun b1 w1 =>
  ldS w1 ⟨b1, 4, none⟩ fun x7p x7l x7c =>
  ∃ I_3 : Int → Int → World → Nat → Prop, (∃ m : Nat, I_3 (1 : Int) (0 : Int) w1 m) ∧ ∀ (s3 : Int) (x9 : Int) (w2 : World) (m : Nat), I_3 s3 x9 w2 m → (
  condB (decide (x9 < ((x7l : Nat) : Int))) (
  idxA x7p x7l x9 fun a11 =>
  ldI .i64 w2 ((a11.add (x9.toNat * 6))) fun x12_0 =>
  ldStr w2 (((a11.add (x9.toNat * 6)).add 1)) fun x12_1 =>
  ldStr w2 (((a11.add (x9.toNat * 6)).add 2)) fun x12_2 =>
  ldS w2 (((a11.add (x9.toNat * 6)).add 3)) fun x12_3p x12_3l x12_3c =>
  ldS w2 (((a11.add (x9.toNat * 6)).add 4)) fun x12_4p x12_4l x12_4c =>
  ldStr w2 (((a11.add (x9.toNat * 6)).add 5)) fun x12_5 =>
  newB w2 (.cells (zeroC Tryz.prog T_api_Node) T_api_Node) fun b5 w3 =>
  stN w3 ⟨b5, 0, none⟩ ⟨[.int .i64 x12_0, .string x12_1, .string x12_2, .slice x12_3p x12_3l x12_3c, .slice x12_4p x12_4l x12_4c, .string x12_5]⟩ 6 fun w4 =>
  ldI .i64 w4 ⟨b5, 0, none⟩ fun x14_0 =>
  ldStr w4 ⟨b5, 1, none⟩ fun x14_1 =>
  ldStr w4 ⟨b5, 2, none⟩ fun x14_2 =>
  ldS w4 ⟨b5, 3, none⟩ fun x14_3p x14_3l x14_3c =>
  ldS w4 ⟨b5, 4, none⟩ fun x14_4p x14_4l x14_4c =>
  ldStr w4 ⟨b5, 5, none⟩ fun x14_5 =>
  callJ Tryz.prog fn_tree_Size #[.agg ⟨[.int .i64 x14_0, .string x14_1, .string x14_2, .slice x14_3p x14_3l x14_3c, .slice x14_4p x14_4l x14_4c, .string x14_5]⟩] w4 [.one (.int .i64)] fun (r15 : Int) (w5 : World) =>
  ∃ m' : Nat, m' < m ∧ I_3 (w64 (s3 + r15)) (w64 (x9 + (1 : Int))) w5 m') (
  J s3 w2))
def ann_tree_Size : Ann := .s (.o) (.s (.o) (.s (.s (.o) (.b (.l [(3, .int .i64), (9, .int .i64)] (.s (.o) (.s (.c (.o) (.o)) (.s (.b (.s (.o) (.o))) (.o))))))) (.s (.o) (.o))))
theorem eq_tree_Size (n0_0 : Int) (n0_1 : ByteArray) (n0_2 : ByteArray) (n0_3p : Option Addr) (n0_3l : Nat) (n0_3c : Nat) (n0_4p : Option Addr) (n0_4l : Nat) (n0_4c : Nat) (n0_5 : ByteArray) (w : World) (J : Int → World → Prop) : vcFun Tryz.prog Tryz.f21 ann_tree_Size [.one (.int .i64)] [.agg ⟨[.int .i64 n0_0, .string n0_1, .string n0_2, .slice n0_3p n0_3l n0_3c, .slice n0_4p n0_4l n0_4c, .string n0_5]⟩] w J = VC_tree_Size n0_0 n0_1 n0_2 n0_3p n0_3l n0_3c n0_4p n0_4l n0_4c n0_5 w J := by kernel_rfl
theorem c_tree_Size {n0_0 : Int} {n0_1 : ByteArray} {n0_2 : ByteArray} {n0_3p : Option Addr} {n0_3l : Nat} {n0_3c : Nat} {n0_4p : Option Addr} {n0_4l : Nat} {n0_4c : Nat} {n0_5 : ByteArray} {w : World} {J : Int → World → Prop} (h : VC_tree_Size n0_0 n0_1 n0_2 n0_3p n0_3l n0_3c n0_4p n0_4l n0_4c n0_5 w J) : callJ Tryz.prog fn_tree_Size #[.agg ⟨[.int .i64 n0_0, .string n0_1, .string n0_2, .slice n0_3p n0_3l n0_3c, .slice n0_4p n0_4l n0_4c, .string n0_5]⟩] w [.one (.int .i64)] J := vc_calls Tryz.func21 ann_tree_Size (Eq.mpr (eq_tree_Size n0_0 n0_1 n0_2 n0_3p n0_3l n0_3c n0_4p n0_4l n0_4c n0_5 w J) h)

/-- lectern/tree.Depth -/
def VC_tree_Depth (n0_0 : Int) (n0_1 : ByteArray) (n0_2 : ByteArray) (n0_3p : Option Addr) (n0_3l : Nat) (n0_3c : Nat) (n0_4p : Option Addr) (n0_4l : Nat) (n0_4c : Nat) (n0_5 : ByteArray) (w : World) (J : Int → World → Prop) : Prop :=
  newB w (.cells ⟨[.int .i64 n0_0, .string n0_1, .string n0_2, .slice n0_3p n0_3l n0_3c, .slice n0_4p n0_4l n0_4c, .string n0_5]⟩ T_api_Node) fun b1 w1 =>
  ldS w1 ⟨b1, 4, none⟩ fun x7p x7l x7c =>
  ∃ I_3 : Int → Int → World → Nat → Prop, (∃ m : Nat, I_3 (0 : Int) (0 : Int) w1 m) ∧ ∀ (d3 : Int) (x9 : Int) (w2 : World) (m : Nat), I_3 d3 x9 w2 m → (
  condB (decide (x9 < ((x7l : Nat) : Int))) (
  idxA x7p x7l x9 fun a11 =>
  ldI .i64 w2 ((a11.add (x9.toNat * 6))) fun x12_0 =>
  ldStr w2 (((a11.add (x9.toNat * 6)).add 1)) fun x12_1 =>
  ldStr w2 (((a11.add (x9.toNat * 6)).add 2)) fun x12_2 =>
  ldS w2 (((a11.add (x9.toNat * 6)).add 3)) fun x12_3p x12_3l x12_3c =>
  ldS w2 (((a11.add (x9.toNat * 6)).add 4)) fun x12_4p x12_4l x12_4c =>
  ldStr w2 (((a11.add (x9.toNat * 6)).add 5)) fun x12_5 =>
  newB w2 (.cells (zeroC Tryz.prog T_api_Node) T_api_Node) fun b5 w3 =>
  stN w3 ⟨b5, 0, none⟩ ⟨[.int .i64 x12_0, .string x12_1, .string x12_2, .slice x12_3p x12_3l x12_3c, .slice x12_4p x12_4l x12_4c, .string x12_5]⟩ 6 fun w4 =>
  ldI .i64 w4 ⟨b5, 0, none⟩ fun x14_0 =>
  ldStr w4 ⟨b5, 1, none⟩ fun x14_1 =>
  ldStr w4 ⟨b5, 2, none⟩ fun x14_2 =>
  ldS w4 ⟨b5, 3, none⟩ fun x14_3p x14_3l x14_3c =>
  ldS w4 ⟨b5, 4, none⟩ fun x14_4p x14_4l x14_4c =>
  ldStr w4 ⟨b5, 5, none⟩ fun x14_5 =>
  callJ Tryz.prog fn_tree_Depth #[.agg ⟨[.int .i64 x14_0, .string x14_1, .string x14_2, .slice x14_3p x14_3l x14_3c, .slice x14_4p x14_4l x14_4c, .string x14_5]⟩] w4 [.one (.int .i64)] fun (r15 : Int) (w5 : World) =>
  ∃ m' : Nat, m' < m ∧ I_3 (if r15 > d3 then r15 else d3) (w64 (x9 + (1 : Int))) w5 m') (
  J (w64 (d3 + (1 : Int))) w2))
def ann_tree_Depth : Ann := .s (.o) (.s (.o) (.s (.s (.o) (.b (.l [(3, .int .i64), (9, .int .i64)] (.s (.o) (.s (.c (.o) (.o)) (.s (.b (.s (.o) (.o))) (.o))))))) (.s (.o) (.o))))
theorem eq_tree_Depth (n0_0 : Int) (n0_1 : ByteArray) (n0_2 : ByteArray) (n0_3p : Option Addr) (n0_3l : Nat) (n0_3c : Nat) (n0_4p : Option Addr) (n0_4l : Nat) (n0_4c : Nat) (n0_5 : ByteArray) (w : World) (J : Int → World → Prop) : vcFun Tryz.prog Tryz.f22 ann_tree_Depth [.one (.int .i64)] [.agg ⟨[.int .i64 n0_0, .string n0_1, .string n0_2, .slice n0_3p n0_3l n0_3c, .slice n0_4p n0_4l n0_4c, .string n0_5]⟩] w J = VC_tree_Depth n0_0 n0_1 n0_2 n0_3p n0_3l n0_3c n0_4p n0_4l n0_4c n0_5 w J := by kernel_rfl
theorem c_tree_Depth {n0_0 : Int} {n0_1 : ByteArray} {n0_2 : ByteArray} {n0_3p : Option Addr} {n0_3l : Nat} {n0_3c : Nat} {n0_4p : Option Addr} {n0_4l : Nat} {n0_4c : Nat} {n0_5 : ByteArray} {w : World} {J : Int → World → Prop} (h : VC_tree_Depth n0_0 n0_1 n0_2 n0_3p n0_3l n0_3c n0_4p n0_4l n0_4c n0_5 w J) : callJ Tryz.prog fn_tree_Depth #[.agg ⟨[.int .i64 n0_0, .string n0_1, .string n0_2, .slice n0_3p n0_3l n0_3c, .slice n0_4p n0_4l n0_4c, .string n0_5]⟩] w [.one (.int .i64)] J := vc_calls Tryz.func22 ann_tree_Depth (Eq.mpr (eq_tree_Depth n0_0 n0_1 n0_2 n0_3p n0_3l n0_3c n0_4p n0_4l n0_4c n0_5 w J) h)

/-- lectern/tree.Copy -/
def VC_tree_Copy (n0_0 : Int) (n0_1 : ByteArray) (n0_2 : ByteArray) (n0_3p : Option Addr) (n0_3l : Nat) (n0_3c : Nat) (n0_4p : Option Addr) (n0_4l : Nat) (n0_4c : Nat) (n0_5 : ByteArray) (w : World) (J : Int → ByteArray → ByteArray → Option Addr → Nat → Nat → Option Addr → Nat → Nat → ByteArray → World → Prop) : Prop :=
  newB w (.cells ⟨[.int .i64 n0_0, .string n0_1, .string n0_2, .slice n0_3p n0_3l n0_3c, .slice n0_4p n0_4l n0_4c, .string n0_5]⟩ T_api_Node) fun b1 w1 =>
  newB w1 (.cells (zeroC Tryz.prog T_api_Node) T_api_Node) fun b2 w2 =>
  ldS w2 ⟨b1, 3, none⟩ fun x7p x7l x7c =>
  appJ Tryz.prog T_sl_api_Attr T_sl_api_Attr (.slice none 0 0) (.slice x7p x7l x7c) w2 fun q8p q8l q8c w3 =>
  stV w3 ⟨b1, 3, none⟩ (.slice q8p q8l q8c) fun w4 =>
  ldS w4 ⟨b1, 4, none⟩ fun x11p x11l x11c =>
  stV w4 ⟨b1, 4, none⟩ (.slice none 0 0) fun w5 =>
  ∃ I_15 : Int → World → Nat → Prop, (∃ m : Nat, I_15 (0 : Int) w5 m) ∧ ∀ (x15 : Int) (w6 : World) (m : Nat), I_15 x15 w6 m → (
  condB (decide (x15 < ((x11l : Nat) : Int))) (
  idxA x11p x11l x15 fun a17 =>
  ldI .i64 w6 ((a17.add (x15.toNat * 6))) fun x18_0 =>
  ldStr w6 (((a17.add (x15.toNat * 6)).add 1)) fun x18_1 =>
  ldStr w6 (((a17.add (x15.toNat * 6)).add 2)) fun x18_2 =>
  ldS w6 (((a17.add (x15.toNat * 6)).add 3)) fun x18_3p x18_3l x18_3c =>
  ldS w6 (((a17.add (x15.toNat * 6)).add 4)) fun x18_4p x18_4l x18_4c =>
  ldStr w6 (((a17.add (x15.toNat * 6)).add 5)) fun x18_5 =>
  newB w6 (.cells (zeroC Tryz.prog T_api_Node) T_api_Node) fun b5 w7 =>
  stN w7 ⟨b5, 0, none⟩ ⟨[.int .i64 x18_0, .string x18_1, .string x18_2, .slice x18_3p x18_3l x18_3c, .slice x18_4p x18_4l x18_4c, .string x18_5]⟩ 6 fun w8 =>
  ldS w8.drew ⟨b1, 4, none⟩ fun x20p x20l x20c =>
  ldI .i64 w8.drew ⟨b5, 0, none⟩ fun x21_0 =>
  ldStr w8.drew ⟨b5, 1, none⟩ fun x21_1 =>
  ldStr w8.drew ⟨b5, 2, none⟩ fun x21_2 =>
  ldS w8.drew ⟨b5, 3, none⟩ fun x21_3p x21_3l x21_3c =>
  ldS w8.drew ⟨b5, 4, none⟩ fun x21_4p x21_4l x21_4c =>
  ldStr w8.drew ⟨b5, 5, none⟩ fun x21_5 =>
  callJ Tryz.prog fn_tree_Copy #[.agg ⟨[.int .i64 x21_0, .string x21_1, .string x21_2, .slice x21_3p x21_3l x21_3c, .slice x21_4p x21_4l x21_4c, .string x21_5]⟩] w8.drew [.agg [.int .i64, .str, .str, .slice, .slice, .str]] fun (r22_0 : Int) (r22_1 : ByteArray) (r22_2 : ByteArray) (r22_3p : Option Addr) (r22_3l : Nat) (r22_3c : Nat) (r22_4p : Option Addr) (r22_4l : Nat) (r22_4c : Nat) (r22_5 : ByteArray) (w9 : World) =>
  w9.cell? ⟨b1, 4, none⟩ = some (.slice x20p x20l x20c) ∧
  Array.size (⟨[.int .i64 r22_0, .string r22_1, .string r22_2, .slice r22_3p r22_3l r22_3c, .slice r22_4p r22_4l r22_4c, .string r22_5]⟩ : Array Value) = 6 ∧
  newB w9 (.cells ⟨[.int .i64 r22_0, .string r22_1, .string r22_2, .slice r22_3p r22_3l r22_3c, .slice r22_4p r22_4l r22_4c, .string r22_5]⟩ T_api_Node) fun b23 w10 =>
  w10.cell? ⟨b1, 4, none⟩ = some (.slice x20p x20l x20c) ∧
  appJ Tryz.prog T_sl_api_Node T_sl_api_Node (.slice x20p x20l x20c) (.slice (some ⟨b23, 0, none⟩) 1 1) w10 fun q24p q24l q24c w11 =>
  stV w11 ⟨b1, 4, none⟩ (.slice q24p q24l q24c) fun w12 =>
  ∃ m' : Nat, m' < m ∧ I_15 (w64 (x15 + (1 : Int))) w12 m') (
  ldI .i64 w6 ⟨b1, 0, none⟩ fun x27_0 =>
  ldStr w6 ⟨b1, 1, none⟩ fun x27_1 =>
  ldStr w6 ⟨b1, 2, none⟩ fun x27_2 =>
  ldS w6 ⟨b1, 3, none⟩ fun x27_3p x27_3l x27_3c =>
  ldS w6 ⟨b1, 4, none⟩ fun x27_4p x27_4l x27_4c =>
  ldStr w6 ⟨b1, 5, none⟩ fun x27_5 =>
  stN w6 ⟨b2, 0, none⟩ ⟨[.int .i64 x27_0, .string x27_1, .string x27_2, .slice x27_3p x27_3l x27_3c, .slice x27_4p x27_4l x27_4c, .string x27_5]⟩ 6 fun w13 =>
  ldI .i64 w13 ⟨b2, 0, none⟩ fun r_0 =>
  ldStr w13 ⟨b2, 1, none⟩ fun r_1 =>
  ldStr w13 ⟨b2, 2, none⟩ fun r_2 =>
  ldS w13 ⟨b2, 3, none⟩ fun r_3p r_3l r_3c =>
  ldS w13 ⟨b2, 4, none⟩ fun r_4p r_4l r_4c =>
  ldStr w13 ⟨b2, 5, none⟩ fun r_5 =>
  J r_0 r_1 r_2 r_3p r_3l r_3c r_4p r_4l r_4c r_5 w13))
def ann_tree_Copy : Ann := .s (.o) (.s (.o) (.s (.o) (.s (.o) (.s (.s (.o) (.b (.l [(15, .int .i64)] (.s (.o) (.s (.c (.o) (.o)) (.s (.b (.s (.o) (.d (.take 0 (.take 1 (.take 2 (.eff 3 (.eff 4 (.eff 5 (.take 6 (.eff 7 (.done) (.none))) (.none)) (.none)) (.none)))))))) (.o))))))) (.s (.o) (.o))))))
theorem eq_tree_Copy (n0_0 : Int) (n0_1 : ByteArray) (n0_2 : ByteArray) (n0_3p : Option Addr) (n0_3l : Nat) (n0_3c : Nat) (n0_4p : Option Addr) (n0_4l : Nat) (n0_4c : Nat) (n0_5 : ByteArray) (w : World) (J : Int → ByteArray → ByteArray → Option Addr → Nat → Nat → Option Addr → Nat → Nat → ByteArray → World → Prop) : vcFun Tryz.prog Tryz.f24 ann_tree_Copy [.agg [.int .i64, .str, .str, .slice, .slice, .str]] [.agg ⟨[.int .i64 n0_0, .string n0_1, .string n0_2, .slice n0_3p n0_3l n0_3c, .slice n0_4p n0_4l n0_4c, .string n0_5]⟩] w J = VC_tree_Copy n0_0 n0_1 n0_2 n0_3p n0_3l n0_3c n0_4p n0_4l n0_4c n0_5 w J := by kernel_rfl
theorem c_tree_Copy {n0_0 : Int} {n0_1 : ByteArray} {n0_2 : ByteArray} {n0_3p : Option Addr} {n0_3l : Nat} {n0_3c : Nat} {n0_4p : Option Addr} {n0_4l : Nat} {n0_4c : Nat} {n0_5 : ByteArray} {w : World} {J : Int → ByteArray → ByteArray → Option Addr → Nat → Nat → Option Addr → Nat → Nat → ByteArray → World → Prop} (h : VC_tree_Copy n0_0 n0_1 n0_2 n0_3p n0_3l n0_3c n0_4p n0_4l n0_4c n0_5 w J) : callJ Tryz.prog fn_tree_Copy #[.agg ⟨[.int .i64 n0_0, .string n0_1, .string n0_2, .slice n0_3p n0_3l n0_3c, .slice n0_4p n0_4l n0_4c, .string n0_5]⟩] w [.agg [.int .i64, .str, .str, .slice, .slice, .str]] J := vc_calls Tryz.func24 ann_tree_Copy (Eq.mpr (eq_tree_Copy n0_0 n0_1 n0_2 n0_3p n0_3l n0_3c n0_4p n0_4l n0_4c n0_5 w J) h)

/-- lectern/tree.Spaces -/
def VC_tree_Spaces (n0_0 : Int) (n0_1 : ByteArray) (n0_2 : ByteArray) (n0_3p : Option Addr) (n0_3l : Nat) (n0_3c : Nat) (n0_4p : Option Addr) (n0_4l : Nat) (n0_4c : Nat) (n0_5 : ByteArray) (w : World) (J : Option Addr → Nat → Nat → World → Prop) : Prop :=
  newB w (.cells ⟨[.int .i64 n0_0, .string n0_1, .string n0_2, .slice n0_3p n0_3l n0_3c, .slice n0_4p n0_4l n0_4c, .string n0_5]⟩ T_api_Node) fun b1 w1 =>
  ldI .i64 w1 ⟨b1, 0, none⟩ fun x4_0 =>
  ldStr w1 ⟨b1, 1, none⟩ fun x4_1 =>
  ldStr w1 ⟨b1, 2, none⟩ fun x4_2 =>
  ldS w1 ⟨b1, 3, none⟩ fun x4_3p x4_3l x4_3c =>
  ldS w1 ⟨b1, 4, none⟩ fun x4_4p x4_4l x4_4c =>
  ldStr w1 ⟨b1, 5, none⟩ fun x4_5 =>
  callJ Tryz.prog fn_tree_spaces #[.agg ⟨[.int .i64 x4_0, .string x4_1, .string x4_2, .slice x4_3p x4_3l x4_3c, .slice x4_4p x4_4l x4_4c, .string x4_5]⟩, .slice none 0 0] w1 [.one .slice] fun (r5p : Option Addr) (r5l : Nat) (r5c : Nat) (w2 : World) =>
  callJ Tryz.prog fn_slices_Sort_sl_string_string #[.slice r5p r5l r5c] w2 [] fun (w3 : World) =>
  callJ Tryz.prog fn_slices_Compact_sl_string_string #[.slice r5p r5l r5c] w3 [.one .slice] fun (r9p : Option Addr) (r9l : Nat) (r9c : Nat) (w4 : World) =>
  J r9p r9l r9c w4
def ann_tree_Spaces : Ann := .s (.o) (.s (.o) (.s (.o) (.s (.o) (.o))))
theorem eq_tree_Spaces (n0_0 : Int) (n0_1 : ByteArray) (n0_2 : ByteArray) (n0_3p : Option Addr) (n0_3l : Nat) (n0_3c : Nat) (n0_4p : Option Addr) (n0_4l : Nat) (n0_4c : Nat) (n0_5 : ByteArray) (w : World) (J : Option Addr → Nat → Nat → World → Prop) : vcFun Tryz.prog Tryz.f18 ann_tree_Spaces [.one .slice] [.agg ⟨[.int .i64 n0_0, .string n0_1, .string n0_2, .slice n0_3p n0_3l n0_3c, .slice n0_4p n0_4l n0_4c, .string n0_5]⟩] w J = VC_tree_Spaces n0_0 n0_1 n0_2 n0_3p n0_3l n0_3c n0_4p n0_4l n0_4c n0_5 w J := by kernel_rfl
theorem c_tree_Spaces {n0_0 : Int} {n0_1 : ByteArray} {n0_2 : ByteArray} {n0_3p : Option Addr} {n0_3l : Nat} {n0_3c : Nat} {n0_4p : Option Addr} {n0_4l : Nat} {n0_4c : Nat} {n0_5 : ByteArray} {w : World} {J : Option Addr → Nat → Nat → World → Prop} (h : VC_tree_Spaces n0_0 n0_1 n0_2 n0_3p n0_3l n0_3c n0_4p n0_4l n0_4c n0_5 w J) : callJ Tryz.prog fn_tree_Spaces #[.agg ⟨[.int .i64 n0_0, .string n0_1, .string n0_2, .slice n0_3p n0_3l n0_3c, .slice n0_4p n0_4l n0_4c, .string n0_5]⟩] w [.one .slice] J := vc_calls Tryz.func18 ann_tree_Spaces (Eq.mpr (eq_tree_Spaces n0_0 n0_1 n0_2 n0_3p n0_3l n0_3c n0_4p n0_4l n0_4c n0_5 w J) h)

/-- lectern/tree.spaces -/
def VC_tree_spaces (n0_0 : Int) (n0_1 : ByteArray) (n0_2 : ByteArray) (n0_3p : Option Addr) (n0_3l : Nat) (n0_3c : Nat) (n0_4p : Option Addr) (n0_4l : Nat) (n0_4c : Nat) (n0_5 : ByteArray) (l1p : Option Addr) (l1l : Nat) (l1c : Nat) (w : World) (J : Option Addr → Nat → Nat → World → Prop) : Prop :=
  newB w (.cells ⟨[.int .i64 n0_0, .string n0_1, .string n0_2, .slice n0_3p n0_3l n0_3c, .slice n0_4p n0_4l n0_4c, .string n0_5]⟩ T_api_Node) fun b2 w1 =>
  withJ (fun (l1p : Option Addr) (l1l : Nat) (l1c : Nat) (w2 : World) =>
  ldS w2 ⟨b2, 3, none⟩ fun x20p x20l x20c =>
  ∃ I_1 : Option Addr → Nat → Nat → Int → World → Nat → Prop, (∃ m : Nat, I_1 l1p l1l l1c (0 : Int) w2 m) ∧ ∀ (l1_1p : Option Addr) (l1_1l : Nat) (l1_1c : Nat) (x22 : Int) (w3 : World) (m : Nat), I_1 l1_1p l1_1l l1_1c x22 w3 m → (
  condB (decide (x22 < ((x20l : Nat) : Int))) (
  withJ (fun (l1_2p : Option Addr) (l1_2l : Nat) (l1_2c : Nat) (w4 : World) =>
  ∃ m' : Nat, m' < m ∧ I_1 l1_2p l1_2l l1_2c (w64 (x22 + (1 : Int))) w4 m') fun J_1_1 =>
  idxA x20p x20l x22 fun a24 =>
  ldStr w3 ((a24.add (x22.toNat * 3))) fun x25_0 =>
  ldStr w3 (((a24.add (x22.toNat * 3)).add 1)) fun x25_1 =>
  ldStr w3 (((a24.add (x22.toNat * 3)).add 2)) fun x25_2 =>
  newB w3 (.cells (zeroC Tryz.prog T_api_Attr) T_api_Attr) fun b6 w5 =>
  stN w5 ⟨b6, 0, none⟩ ⟨[.string x25_0, .string x25_1, .string x25_2]⟩ 3 fun w6 =>
  ldStr w6 ⟨b6, 0, none⟩ fun x28 =>
  condB (!(x28.toList == (⟨#[]⟩ : ByteArray).toList)) (
  ldStr w6 ⟨b6, 0, none⟩ fun x33 =>
  newB w6 (.cells ⟨[.string x33]⟩ T_string) fun b34 w7 =>
  appJ Tryz.prog T_sl_string T_sl_string (.slice l1_1p l1_1l l1_1c) (.slice (some ⟨b34, 0, none⟩) 1 1) w7 fun q35p q35l q35c w8 =>
  J_1_1 q35p q35l q35c w8) (
  J_1_1 l1_1p l1_1l l1_1c w6)) (
  ldS w3 ⟨b2, 4, none⟩ fun x38p x38l x38c =>
  ∃ I_1_1 : Option Addr → Nat → Nat → Int → World → Nat → Prop, (∃ m : Nat, I_1_1 l1_1p l1_1l l1_1c (0 : Int) w3 m) ∧ ∀ (l1_3p : Option Addr) (l1_3l : Nat) (l1_3c : Nat) (x40 : Int) (w9 : World) (m_1 : Nat), I_1_1 l1_3p l1_3l l1_3c x40 w9 m_1 → (
  condB (decide (x40 < ((x38l : Nat) : Int))) (
  idxA x38p x38l x40 fun a42 =>
  ldI .i64 w9 ((a42.add (x40.toNat * 6))) fun x43_0 =>
  ldStr w9 (((a42.add (x40.toNat * 6)).add 1)) fun x43_1 =>
  ldStr w9 (((a42.add (x40.toNat * 6)).add 2)) fun x43_2 =>
  ldS w9 (((a42.add (x40.toNat * 6)).add 3)) fun x43_3p x43_3l x43_3c =>
  ldS w9 (((a42.add (x40.toNat * 6)).add 4)) fun x43_4p x43_4l x43_4c =>
  ldStr w9 (((a42.add (x40.toNat * 6)).add 5)) fun x43_5 =>
  newB w9 (.cells (zeroC Tryz.prog T_api_Node) T_api_Node) fun b8 w10 =>
  stN w10 ⟨b8, 0, none⟩ ⟨[.int .i64 x43_0, .string x43_1, .string x43_2, .slice x43_3p x43_3l x43_3c, .slice x43_4p x43_4l x43_4c, .string x43_5]⟩ 6 fun w11 =>
  ldI .i64 w11 ⟨b8, 0, none⟩ fun x44_0 =>
  ldStr w11 ⟨b8, 1, none⟩ fun x44_1 =>
  ldStr w11 ⟨b8, 2, none⟩ fun x44_2 =>
  ldS w11 ⟨b8, 3, none⟩ fun x44_3p x44_3l x44_3c =>
  ldS w11 ⟨b8, 4, none⟩ fun x44_4p x44_4l x44_4c =>
  ldStr w11 ⟨b8, 5, none⟩ fun x44_5 =>
  callJ Tryz.prog fn_tree_spaces #[.agg ⟨[.int .i64 x44_0, .string x44_1, .string x44_2, .slice x44_3p x44_3l x44_3c, .slice x44_4p x44_4l x44_4c, .string x44_5]⟩, .slice l1_3p l1_3l l1_3c] w11 [.one .slice] fun (r46p : Option Addr) (r46l : Nat) (r46c : Nat) (w12 : World) =>
  ∃ m' : Nat, m' < m_1 ∧ I_1_1 r46p r46l r46c (w64 (x40 + (1 : Int))) w12 m') (
  J l1_3p l1_3l l1_3c w9))))) fun J_1 =>
  ldStr w1 ⟨b2, 1, none⟩ fun x11 =>
  condB (!(x11.toList == (⟨#[]⟩ : ByteArray).toList)) (
  ldStr w1 ⟨b2, 1, none⟩ fun x16 =>
  newB w1 (.cells ⟨[.string x16]⟩ T_string) fun b17 w13 =>
  appJ Tryz.prog T_sl_string T_sl_string (.slice l1p l1l l1c) (.slice (some ⟨b17, 0, none⟩) 1 1) w13 fun q18p q18l q18c w14 =>
  J_1 q18p q18l q18c w14) (
  J_1 l1p l1l l1c w1)
def ann_tree_spaces : Ann := .s (.o) (.j [(1, .slice)] (.s (.o) (.c (.o) (.o))) (.s (.s (.o) (.b (.l [(1, .slice), (22, .int .i64)] (.s (.o) (.s (.c (.o) (.o)) (.j [(1, .slice)] (.b (.s (.o) (.s (.o) (.c (.o) (.o))))) (.o))))))) (.s (.s (.o) (.b (.l [(1, .slice), (40, .int .i64)] (.s (.o) (.s (.c (.o) (.o)) (.s (.b (.s (.o) (.o))) (.o))))))) (.s (.o) (.o)))))
theorem eq_tree_spaces (n0_0 : Int) (n0_1 : ByteArray) (n0_2 : ByteArray) (n0_3p : Option Addr) (n0_3l : Nat) (n0_3c : Nat) (n0_4p : Option Addr) (n0_4l : Nat) (n0_4c : Nat) (n0_5 : ByteArray) (l1p : Option Addr) (l1l : Nat) (l1c : Nat) (w : World) (J : Option Addr → Nat → Nat → World → Prop) : vcFun Tryz.prog Tryz.f45 ann_tree_spaces [.one .slice] [.agg ⟨[.int .i64 n0_0, .string n0_1, .string n0_2, .slice n0_3p n0_3l n0_3c, .slice n0_4p n0_4l n0_4c, .string n0_5]⟩, .slice l1p l1l l1c] w J = VC_tree_spaces n0_0 n0_1 n0_2 n0_3p n0_3l n0_3c n0_4p n0_4l n0_4c n0_5 l1p l1l l1c w J := by kernel_rfl
theorem c_tree_spaces {n0_0 : Int} {n0_1 : ByteArray} {n0_2 : ByteArray} {n0_3p : Option Addr} {n0_3l : Nat} {n0_3c : Nat} {n0_4p : Option Addr} {n0_4l : Nat} {n0_4c : Nat} {n0_5 : ByteArray} {l1p : Option Addr} {l1l : Nat} {l1c : Nat} {w : World} {J : Option Addr → Nat → Nat → World → Prop} (h : VC_tree_spaces n0_0 n0_1 n0_2 n0_3p n0_3l n0_3c n0_4p n0_4l n0_4c n0_5 l1p l1l l1c w J) : callJ Tryz.prog fn_tree_spaces #[.agg ⟨[.int .i64 n0_0, .string n0_1, .string n0_2, .slice n0_3p n0_3l n0_3c, .slice n0_4p n0_4l n0_4c, .string n0_5]⟩, .slice l1p l1l l1c] w [.one .slice] J := vc_calls Tryz.func45 ann_tree_spaces (Eq.mpr (eq_tree_spaces n0_0 n0_1 n0_2 n0_3p n0_3l n0_3c n0_4p n0_4l n0_4c n0_5 l1p l1l l1c w J) h)

/-- slices.Compact[[]string,string] -/
def VC_slices_Compact_sl_string_string (s0p : Option Addr) (s0l : Nat) (s0c : Nat) (w : World) (J : Option Addr → Nat → Nat → World → Prop) : Prop :=
  condB (decide (((s0l : Nat) : Int) < (2 : Int))) (
  J s0p s0l s0c w) (
  ∃ I_3 : Int → World → Nat → Prop, (∃ m : Nat, I_3 (1 : Int) w m) ∧ ∀ (k3 : Int) (w1 : World) (m : Nat), I_3 k3 w1 m → (
  condB (decide (k3 < ((s0l : Nat) : Int))) (
  idxA s0p s0l k3 fun a18 =>
  ldStr w1.drew ((a18.add (k3.toNat * 1))) fun x19 =>
  idxA s0p s0l (w64 (k3 - (1 : Int))) fun a23 =>
  ldStr w1.drew ((a23.add ((w64 (k3 - (1 : Int))).toNat * 1))) fun x24 =>
  condB (x19.toList == x24.toList) (
  slS s0p s0l s0c 1 (some k3) none none fun q28p q28l q28c =>
  ∃ I_3_1 : Int → Int → World → Nat → Prop, (∃ m : Nat, I_3_1 k3 (1 : Int) w1.drew m) ∧ ∀ (k3_1 : Int) (k25 : Int) (w2 : World) (m_1 : Nat), I_3_1 k3_1 k25 w2 m_1 → (
  condB (decide (k25 < ((q28l : Nat) : Int))) (
  withJ (fun (k3_2 : Int) (w3 : World) =>
  ∃ m' : Nat, m' < m_1 ∧ I_3_1 k3_2 (w64 (k25 + (1 : Int))) w3 m') fun J_3 =>
  idxA q28p q28l k25 fun a37 =>
  ldStr w2.drew ((a37.add (k25.toNat * 1))) fun x38 =>
  idxA q28p q28l (w64 (k25 - (1 : Int))) fun a42 =>
  ldStr w2.drew ((a42.add ((w64 (k25 - (1 : Int))).toNat * 1))) fun x43 =>
  condB (!(x38.toList == x43.toList)) (
  idxA q28p q28l k25 fun a49 =>
  ldStr w2.drew ((a49.add (k25.toNat * 1))) fun x50 =>
  idxA s0p s0l k3_1 fun a51 =>
  stV w2.drew ((a51.add (k3_1.toNat * 1))) (.string x50) fun w4 =>
  J_3 (w64 (k3_1 + (1 : Int))) w4) (
  J_3 k3_1 w2.drew)) (
  slS s0p s0l s0c 1 (some k3_1) none none fun q56p q56l q56c =>
  clrJ Tryz.prog T_sl_string (.slice q56p q56l q56c) w2 fun w5 =>
  slS s0p s0l s0c 1 none (some k3_1) none fun q59p q59l q59c =>
  J q59p q59l q59c w5))) (
  ∃ m' : Nat, m' < m ∧ I_3 (w64 (k3 + (1 : Int))) w1.drew m')) (
  J s0p s0l s0c w1)))
def ann_slices_Compact_sl_string_string : Ann := .s (.o) (.s (.s (.o) (.c (.s (.o) (.o)) (.o))) (.s (.s (.o) (.b (.l [(3, .int .i64)] (.s (.s (.o) (.c (.o) (.o))) (.s (.b (.s (.d (.take 0 (.take 1 (.take 2 (.take 3 (.take 4 (.take 5 (.take 6 (.take 7 (.take 8 (.take 9 (.done)))))))))))) (.c (.s (.o) (.s (.s (.o) (.b (.l [(3, .int .i64), (5, .int .i64)] (.s (.s (.o) (.c (.o) (.o))) (.j [(3, .int .i64)] (.b (.s (.d (.take 0 (.take 1 (.take 2 (.take 3 (.take 4 (.take 5 (.take 6 (.take 7 (.take 8 (.take 9 (.done)))))))))))) (.c (.s (.o) (.o)) (.o)))) (.o)))))) (.s (.o) (.s (.o) (.o))))) (.o)))) (.o)))))) (.s (.o) (.o))))
theorem eq_slices_Compact_sl_string_string (s0p : Option Addr) (s0l : Nat) (s0c : Nat) (w : World) (J : Option Addr → Nat → Nat → World → Prop) : vcFun Tryz.prog Tryz.f47 ann_slices_Compact_sl_string_string [.one .slice] [.slice s0p s0l s0c] w J = VC_slices_Compact_sl_string_string s0p s0l s0c w J := by kernel_rfl
theorem c_slices_Compact_sl_string_string {s0p : Option Addr} {s0l : Nat} {s0c : Nat} {w : World} {J : Option Addr → Nat → Nat → World → Prop} (h : VC_slices_Compact_sl_string_string s0p s0l s0c w J) : callJ Tryz.prog fn_slices_Compact_sl_string_string #[.slice s0p s0l s0c] w [.one .slice] J := vc_calls Tryz.func47 ann_slices_Compact_sl_string_string (Eq.mpr (eq_slices_Compact_sl_string_string s0p s0l s0c w J) h)

end Go.Proofs.YtmmfookfpdcohaaGreatDoor
