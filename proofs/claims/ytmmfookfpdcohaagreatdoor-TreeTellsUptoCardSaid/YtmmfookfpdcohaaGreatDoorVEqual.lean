/- What the conditions of these functions are, reckoned by the reading; printed by program. -/
import Derived.Test.YtmmfookfpdcohaaGreatDoorNm
import Derived.KernelRfl
set_option maxRecDepth 100000
set_option linter.unusedVariables false
namespace Go.Proofs.YtmmfookfpdcohaaGreatDoor
open Go Go.Vc

/-- lectern/tree.Equal -/
def VC_tree_Equal (a0_0 : Int) (a0_1 : ByteArray) (a0_2 : ByteArray) (a0_3p : Option Addr) (a0_3l : Nat) (a0_3c : Nat) (a0_4p : Option Addr) (a0_4l : Nat) (a0_4c : Nat) (a0_5 : ByteArray) (b1_0 : Int) (b1_1 : ByteArray) (b1_2 : ByteArray) (b1_3p : Option Addr) (b1_3l : Nat) (b1_3c : Nat) (b1_4p : Option Addr) (b1_4l : Nat) (b1_4c : Nat) (b1_5 : ByteArray) (w : World) (J : Bool → World → Prop) : Prop :=
  newB w (.cells ⟨[.int .i64 a0_0, .string a0_1, .string a0_2, .slice a0_3p a0_3l a0_3c, .slice a0_4p a0_4l a0_4c, .string a0_5]⟩ T_api_Node) fun b2 w1 =>
  newB w1 (.cells ⟨[.int .i64 b1_0, .string b1_1, .string b1_2, .slice b1_3p b1_3l b1_3c, .slice b1_4p b1_4l b1_4c, .string b1_5]⟩ T_api_Node) fun b3 w2 =>
  withJ (fun (x4 : Bool) (w3 : World) =>
  J x4 w3) fun J_4 =>
  ldI .i64 w2 ⟨b2, 0, none⟩ fun x6 =>
  ldI .i64 w2 ⟨b3, 0, none⟩ fun x8 =>
  condB (x6 == x8) (
  ldStr w2 ⟨b2, 1, none⟩ fun x12_0 =>
  ldStr w2 ⟨b2, 2, none⟩ fun x12_1 =>
  ldStr w2 ⟨b3, 1, none⟩ fun x14_0 =>
  ldStr w2 ⟨b3, 2, none⟩ fun x14_1 =>
  condB ((x12_0.toList == x14_0.toList) && ((x12_1.toList == x14_1.toList) && true)) (
  ldStr w2 ⟨b2, 5, none⟩ fun x19 =>
  ldStr w2 ⟨b3, 5, none⟩ fun x21 =>
  condB (x19.toList == x21.toList) (
  ldS w2 ⟨b2, 3, none⟩ fun x26p x26l x26c =>
  ldS w2 ⟨b3, 3, none⟩ fun x28p x28l x28c =>
  callJ Tryz.prog fn_slices_Equal_sl_api_Attr_api_Attr #[.slice x26p x26l x26c, .slice x28p x28l x28c] w2 [.one .bool] fun (r29 : Bool) (w4 : World) =>
  condB r29 (
  ldS w4 ⟨b2, 4, none⟩ fun x33p x33l x33c =>
  ldS w4 ⟨b3, 4, none⟩ fun x35p x35l x35c =>
  callJ Tryz.prog fn_slices_EqualFunc_sl_api_Node_sl_api_Node_api_Node_api_Node #[.slice x33p x33l x33c, .slice x35p x35l x35c, .func (.func 20) #[] #[]] w4 [.one .bool] fun (r36 : Bool) (w5 : World) =>
  J_4 r36 w5) (
  J_4 false w4)) (
  J_4 false w2)) (
  J_4 false w2)) (
  J_4 false w2)
def ann_tree_Equal : Ann := .s (.o) (.j [(4, .bool)] (.o) (.o))
theorem eq_tree_Equal (a0_0 : Int) (a0_1 : ByteArray) (a0_2 : ByteArray) (a0_3p : Option Addr) (a0_3l : Nat) (a0_3c : Nat) (a0_4p : Option Addr) (a0_4l : Nat) (a0_4c : Nat) (a0_5 : ByteArray) (b1_0 : Int) (b1_1 : ByteArray) (b1_2 : ByteArray) (b1_3p : Option Addr) (b1_3l : Nat) (b1_3c : Nat) (b1_4p : Option Addr) (b1_4l : Nat) (b1_4c : Nat) (b1_5 : ByteArray) (w : World) (J : Bool → World → Prop) : vcFun Tryz.prog Tryz.f20 ann_tree_Equal [.one .bool] [.agg ⟨[.int .i64 a0_0, .string a0_1, .string a0_2, .slice a0_3p a0_3l a0_3c, .slice a0_4p a0_4l a0_4c, .string a0_5]⟩, .agg ⟨[.int .i64 b1_0, .string b1_1, .string b1_2, .slice b1_3p b1_3l b1_3c, .slice b1_4p b1_4l b1_4c, .string b1_5]⟩] w J = VC_tree_Equal a0_0 a0_1 a0_2 a0_3p a0_3l a0_3c a0_4p a0_4l a0_4c a0_5 b1_0 b1_1 b1_2 b1_3p b1_3l b1_3c b1_4p b1_4l b1_4c b1_5 w J := by kernel_rfl
theorem c_tree_Equal {a0_0 : Int} {a0_1 : ByteArray} {a0_2 : ByteArray} {a0_3p : Option Addr} {a0_3l : Nat} {a0_3c : Nat} {a0_4p : Option Addr} {a0_4l : Nat} {a0_4c : Nat} {a0_5 : ByteArray} {b1_0 : Int} {b1_1 : ByteArray} {b1_2 : ByteArray} {b1_3p : Option Addr} {b1_3l : Nat} {b1_3c : Nat} {b1_4p : Option Addr} {b1_4l : Nat} {b1_4c : Nat} {b1_5 : ByteArray} {w : World} {J : Bool → World → Prop} (h : VC_tree_Equal a0_0 a0_1 a0_2 a0_3p a0_3l a0_3c a0_4p a0_4l a0_4c a0_5 b1_0 b1_1 b1_2 b1_3p b1_3l b1_3c b1_4p b1_4l b1_4c b1_5 w J) : callJ Tryz.prog fn_tree_Equal #[.agg ⟨[.int .i64 a0_0, .string a0_1, .string a0_2, .slice a0_3p a0_3l a0_3c, .slice a0_4p a0_4l a0_4c, .string a0_5]⟩, .agg ⟨[.int .i64 b1_0, .string b1_1, .string b1_2, .slice b1_3p b1_3l b1_3c, .slice b1_4p b1_4l b1_4c, .string b1_5]⟩] w [.one .bool] J := vc_calls Tryz.func20 ann_tree_Equal (Eq.mpr (eq_tree_Equal a0_0 a0_1 a0_2 a0_3p a0_3l a0_3c a0_4p a0_4l a0_4c a0_5 b1_0 b1_1 b1_2 b1_3p b1_3l b1_3c b1_4p b1_4l b1_4c b1_5 w J) h)

/-- slices.Equal[[]lectern/api.Attr,lectern/api.Attr] -/
def VC_slices_Equal_sl_api_Attr_api_Attr (s10p : Option Addr) (s10l : Nat) (s10c : Nat) (s21p : Option Addr) (s21l : Nat) (s21c : Nat) (w : World) (J : Bool → World → Prop) : Prop :=
  condB (((s10l : Nat) : Int) != ((s21l : Nat) : Int)) (
  J false w) (
  ∃ I_13 : Int → World → Nat → Prop, (∃ m : Nat, I_13 (0 : Int) w m) ∧ ∀ (x13 : Int) (w1 : World) (m : Nat), I_13 x13 w1 m → (
  condB (decide (x13 < ((s10l : Nat) : Int))) (
  idxA s10p s10l x13 fun a18 =>
  ldStr w1.drew ((a18.add (x13.toNat * 3))) fun x19_0 =>
  ldStr w1.drew (((a18.add (x13.toNat * 3)).add 1)) fun x19_1 =>
  ldStr w1.drew (((a18.add (x13.toNat * 3)).add 2)) fun x19_2 =>
  idxA s21p s21l x13 fun a22 =>
  ldStr w1.drew ((a22.add (x13.toNat * 3))) fun x23_0 =>
  ldStr w1.drew (((a22.add (x13.toNat * 3)).add 1)) fun x23_1 =>
  ldStr w1.drew (((a22.add (x13.toNat * 3)).add 2)) fun x23_2 =>
  condB (!(((x19_0.toList == x23_0.toList) && ((x19_1.toList == x23_1.toList) && true)) && ((x19_2.toList == x23_2.toList) && true))) (
  J false w1.drew) (
  ∃ m' : Nat, m' < m ∧ I_13 (w64 (x13 + (1 : Int))) w1.drew m')) (
  J true w1)))
def ann_slices_Equal_sl_api_Attr_api_Attr : Ann := .s (.o) (.s (.s (.o) (.c (.s (.o) (.o)) (.o))) (.s (.s (.o) (.b (.l [(13, .int .i64)] (.s (.o) (.s (.c (.o) (.o)) (.s (.b (.s (.o) (.s (.d (.take 0 (.take 1 (.take 2 (.take 3 (.take 4 (.take 5 (.take 6 (.take 7 (.take 8 (.done))))))))))) (.c (.s (.o) (.o)) (.o))))) (.o))))))) (.s (.o) (.o))))
theorem eq_slices_Equal_sl_api_Attr_api_Attr (s10p : Option Addr) (s10l : Nat) (s10c : Nat) (s21p : Option Addr) (s21l : Nat) (s21c : Nat) (w : World) (J : Bool → World → Prop) : vcFun Tryz.prog Tryz.f48 ann_slices_Equal_sl_api_Attr_api_Attr [.one .bool] [.slice s10p s10l s10c, .slice s21p s21l s21c] w J = VC_slices_Equal_sl_api_Attr_api_Attr s10p s10l s10c s21p s21l s21c w J := by kernel_rfl
theorem c_slices_Equal_sl_api_Attr_api_Attr {s10p : Option Addr} {s10l : Nat} {s10c : Nat} {s21p : Option Addr} {s21l : Nat} {s21c : Nat} {w : World} {J : Bool → World → Prop} (h : VC_slices_Equal_sl_api_Attr_api_Attr s10p s10l s10c s21p s21l s21c w J) : callJ Tryz.prog fn_slices_Equal_sl_api_Attr_api_Attr #[.slice s10p s10l s10c, .slice s21p s21l s21c] w [.one .bool] J := vc_calls Tryz.func48 ann_slices_Equal_sl_api_Attr_api_Attr (Eq.mpr (eq_slices_Equal_sl_api_Attr_api_Attr s10p s10l s10c s21p s21l s21c w J) h)

/-- slices.EqualFunc[[]lectern/api.Node,[]lectern/api.Node,lectern/api.Node,lectern/api.Node] -/
def VC_slices_EqualFunc_sl_api_Node_sl_api_Node_api_Node_api_Node_f2_20 (s10p : Option Addr) (s10l : Nat) (s10c : Nat) (s21p : Option Addr) (s21l : Nat) (s21c : Nat) (w : World) (J : Bool → World → Prop) : Prop :=
  condB (((s10l : Nat) : Int) != ((s21l : Nat) : Int)) (
  J false w) (
  ∃ I_17 : Int → World → Nat → Prop, (∃ m : Nat, I_17 (0 : Int) w m) ∧ ∀ (x17 : Int) (w1 : World) (m : Nat), I_17 x17 w1 m → (
  condB (decide (x17 < ((s10l : Nat) : Int))) (
  idxA s10p s10l x17 fun a20 =>
  ldI .i64 w1 ((a20.add (x17.toNat * 6))) fun x21_0 =>
  ldStr w1 (((a20.add (x17.toNat * 6)).add 1)) fun x21_1 =>
  ldStr w1 (((a20.add (x17.toNat * 6)).add 2)) fun x21_2 =>
  ldS w1 (((a20.add (x17.toNat * 6)).add 3)) fun x21_3p x21_3l x21_3c =>
  ldS w1 (((a20.add (x17.toNat * 6)).add 4)) fun x21_4p x21_4l x21_4c =>
  ldStr w1 (((a20.add (x17.toNat * 6)).add 5)) fun x21_5 =>
  newB w1 (.cells (zeroC Tryz.prog T_api_Node) T_api_Node) fun b8 w2 =>
  stN w2 ⟨b8, 0, none⟩ ⟨[.int .i64 x21_0, .string x21_1, .string x21_2, .slice x21_3p x21_3l x21_3c, .slice x21_4p x21_4l x21_4c, .string x21_5]⟩ 6 fun w3 =>
  idxA s21p s21l x17 fun a24 =>
  ldI .i64 w3 ((a24.add (x17.toNat * 6))) fun x25_0 =>
  ldStr w3 (((a24.add (x17.toNat * 6)).add 1)) fun x25_1 =>
  ldStr w3 (((a24.add (x17.toNat * 6)).add 2)) fun x25_2 =>
  ldS w3 (((a24.add (x17.toNat * 6)).add 3)) fun x25_3p x25_3l x25_3c =>
  ldS w3 (((a24.add (x17.toNat * 6)).add 4)) fun x25_4p x25_4l x25_4c =>
  ldStr w3 (((a24.add (x17.toNat * 6)).add 5)) fun x25_5 =>
  newB w3 (.cells (zeroC Tryz.prog T_api_Node) T_api_Node) fun b9 w4 =>
  stN w4 ⟨b9, 0, none⟩ ⟨[.int .i64 x25_0, .string x25_1, .string x25_2, .slice x25_3p x25_3l x25_3c, .slice x25_4p x25_4l x25_4c, .string x25_5]⟩ 6 fun w5 =>
  ldI .i64 w5 ⟨b8, 0, none⟩ fun x27_0 =>
  ldStr w5 ⟨b8, 1, none⟩ fun x27_1 =>
  ldStr w5 ⟨b8, 2, none⟩ fun x27_2 =>
  ldS w5 ⟨b8, 3, none⟩ fun x27_3p x27_3l x27_3c =>
  ldS w5 ⟨b8, 4, none⟩ fun x27_4p x27_4l x27_4c =>
  ldStr w5 ⟨b8, 5, none⟩ fun x27_5 =>
  ldI .i64 w5 ⟨b9, 0, none⟩ fun x28_0 =>
  ldStr w5 ⟨b9, 1, none⟩ fun x28_1 =>
  ldStr w5 ⟨b9, 2, none⟩ fun x28_2 =>
  ldS w5 ⟨b9, 3, none⟩ fun x28_3p x28_3l x28_3c =>
  ldS w5 ⟨b9, 4, none⟩ fun x28_4p x28_4l x28_4c =>
  ldStr w5 ⟨b9, 5, none⟩ fun x28_5 =>
  callJ Tryz.prog fn_tree_Equal #[.agg ⟨[.int .i64 x27_0, .string x27_1, .string x27_2, .slice x27_3p x27_3l x27_3c, .slice x27_4p x27_4l x27_4c, .string x27_5]⟩, .agg ⟨[.int .i64 x28_0, .string x28_1, .string x28_2, .slice x28_3p x28_3l x28_3c, .slice x28_4p x28_4l x28_4c, .string x28_5]⟩] w5 [.one .bool] fun (r29 : Bool) (w6 : World) =>
  condB (!r29) (
  J false w6) (
  ∃ m' : Nat, m' < m ∧ I_17 (w64 (x17 + (1 : Int))) w6 m')) (
  J true w1)))
def ann_slices_EqualFunc_sl_api_Node_sl_api_Node_api_Node_api_Node_f2_20 : Ann := .s (.o) (.s (.s (.o) (.c (.s (.o) (.o)) (.o))) (.s (.s (.o) (.b (.l [(17, .int .i64)] (.s (.o) (.s (.c (.o) (.o)) (.s (.b (.s (.o) (.s (.o) (.s (.o) (.c (.s (.o) (.o)) (.o)))))) (.o))))))) (.s (.o) (.o))))
theorem eq_slices_EqualFunc_sl_api_Node_sl_api_Node_api_Node_api_Node_f2_20 (s10p : Option Addr) (s10l : Nat) (s10c : Nat) (s21p : Option Addr) (s21l : Nat) (s21c : Nat) (w : World) (J : Bool → World → Prop) : vcFun Tryz.prog Tryz.f49 ann_slices_EqualFunc_sl_api_Node_sl_api_Node_api_Node_api_Node_f2_20 [.one .bool] [.slice s10p s10l s10c, .slice s21p s21l s21c, .func (.func 20) #[] #[]] w J = VC_slices_EqualFunc_sl_api_Node_sl_api_Node_api_Node_api_Node_f2_20 s10p s10l s10c s21p s21l s21c w J := by kernel_rfl
theorem c_slices_EqualFunc_sl_api_Node_sl_api_Node_api_Node_api_Node_f2_20 {s10p : Option Addr} {s10l : Nat} {s10c : Nat} {s21p : Option Addr} {s21l : Nat} {s21c : Nat} {w : World} {J : Bool → World → Prop} (h : VC_slices_EqualFunc_sl_api_Node_sl_api_Node_api_Node_api_Node_f2_20 s10p s10l s10c s21p s21l s21c w J) : callJ Tryz.prog fn_slices_EqualFunc_sl_api_Node_sl_api_Node_api_Node_api_Node #[.slice s10p s10l s10c, .slice s21p s21l s21c, .func (.func 20) #[] #[]] w [.one .bool] J := vc_calls Tryz.func49 ann_slices_EqualFunc_sl_api_Node_sl_api_Node_api_Node_api_Node_f2_20 (Eq.mpr (eq_slices_EqualFunc_sl_api_Node_sl_api_Node_api_Node_api_Node_f2_20 s10p s10l s10c s21p s21l s21c w J) h)

end Go.Proofs.YtmmfookfpdcohaaGreatDoor
