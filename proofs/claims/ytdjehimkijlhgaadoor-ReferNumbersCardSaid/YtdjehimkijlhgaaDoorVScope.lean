/- What the conditions of these functions are, reckoned by the reading; printed by program. -/
import Derived.Test.YtdjehimkijlhgaaDoorNm
import Derived.KernelRfl
set_option maxRecDepth 100000
set_option linter.unusedVariables false
namespace Go.Proofs.YtdjehimkijlhgaaDoor
open Go Go.Vc

/-- lectern/scope.New -/
def VC_scope_New  (w : World) (J : Option Addr → Nat → Nat → World → Prop) : Prop :=
  newB w (.cells (zeroC Tryd.prog T_scope_Scope) T_scope_Scope) fun b0 w1 =>
  stN w1 ⟨b0, 0, none⟩ ⟨[.slice none 0 0]⟩ 1 fun w2 =>
  ldS w2 ⟨b0, 0, none⟩ fun r_0p r_0l r_0c =>
  J r_0p r_0l r_0c w2
def ann_scope_New : Ann := .s (.o) (.s (.o) (.o))
theorem eq_scope_New  (w : World) (J : Option Addr → Nat → Nat → World → Prop) : vcFun Tryd.prog Tryd.f34 ann_scope_New [.agg [.slice]] [] w J = VC_scope_New  w J := by kernel_rfl
theorem c_scope_New {w : World} {J : Option Addr → Nat → Nat → World → Prop} (h : VC_scope_New  w J) : callJ Tryd.prog fn_scope_New #[] w [.agg [.slice]] J := vc_calls Tryd.func34 ann_scope_New (Eq.mpr (eq_scope_New  w J) h)

/-- (lectern/scope.Scope).Open -/
def VC_scope_Scope_Open (s0_0p : Option Addr) (s0_0l : Nat) (s0_0c : Nat) (l1p : Option Addr) (l1l : Nat) (l1c : Nat) (w : World) (J : Option Addr → Nat → Nat → Int → World → Prop) : Prop :=
  newB w (.cells ⟨[.slice s0_0p s0_0l s0_0c]⟩ T_scope_Scope) fun b2 w1 =>
  newB w1 (.cells (zeroC Tryd.prog T_scope_Scope) T_scope_Scope) fun b4 w2 =>
  ldS w2 ⟨b2, 0, none⟩ fun x14p x14l x14c =>
  callJ Tryd.prog fn_slices_Clone_sl_scope_bind_scope_bind #[.slice x14p x14l x14c] w2 [.one .slice] fun (r15p : Option Addr) (r15l : Nat) (r15c : Nat) (w3 : World) =>
  ∃ I_6 : Option Addr → Nat → Nat → Option Addr → Nat → Nat → Int → World → Nat → Prop, (∃ m : Nat, I_6 none 0 0 r15p r15l r15c (0 : Int) w3 m) ∧ ∀ (had6p : Option Addr) (had6l : Nat) (had6c : Nat) (binds7p : Option Addr) (binds7l : Nat) (binds7c : Nat) (x18 : Int) (w4 : World) (m : Nat), I_6 had6p had6l had6c binds7p binds7l binds7c x18 w4 m → (
  condB (decide (x18 < ((l1l : Nat) : Int))) (
  withJ (fun (had6_1p : Option Addr) (had6_1l : Nat) (had6_1c : Nat) (binds7_1p : Option Addr) (binds7_1l : Nat) (binds7_1c : Nat) (w5 : World) =>
  ∃ m' : Nat, m' < m ∧ I_6 had6_1p had6_1l had6_1c binds7_1p binds7_1l binds7_1c (w64 (x18 + (1 : Int))) w5 m') fun J_6 =>
  idxA l1p l1l x18 fun a20 =>
  ldStr w4 ((a20.add (x18.toNat * 2))) fun x21_0 =>
  ldStr w4 (((a20.add (x18.toNat * 2)).add 1)) fun x21_1 =>
  newB w4 (.cells (zeroC Tryd.prog T_scan_Pair) T_scan_Pair) fun b9 w6 =>
  stN w6 ⟨b9, 0, none⟩ ⟨[.string x21_0, .string x21_1]⟩ 2 fun w7 =>
  ldStr w7 ⟨b9, 0, none⟩ fun x23_0 =>
  ldStr w7 ⟨b9, 1, none⟩ fun x23_1 =>
  callJ Tryd.prog fn_scope_declares #[.agg ⟨[.string x23_0, .string x23_1]⟩] w7 [.one .str, .one .bool] fun (r24_0 : ByteArray) (r24_1 : Bool) (w8 : World) =>
  newB w8 (.cells (zeroC Tryd.prog T_string) T_string) fun b10 w9 =>
  stV w9 ⟨b10, 0, none⟩ (.string r24_0) fun w10 =>
  condB (!r24_1) (
  J_6 had6p had6l had6c binds7p binds7l binds7c w10) (
  ldStr w10 ⟨b10, 0, none⟩ fun x29 =>
  ldStr w10 ⟨b9, 1, none⟩ fun x31 =>
  callJ Tryd.prog fn_scope_wrong #[.string x29, .string x31] w10 [.one (.int .i64)] fun (r32 : Int) (w11 : World) =>
  condB (r32 != (0 : Int)) (
  stN w11 ⟨b4, 0, none⟩ ⟨[.slice none 0 0]⟩ 1 fun w12 =>
  ldS w12 ⟨b4, 0, none⟩ fun r_0p r_0l r_0c =>
  J r_0p r_0l r_0c r32 w12) (
  ldStr w11 ⟨b10, 0, none⟩ fun x38 =>
  callJ Tryd.prog fn_slices_Contains_sl_string_string #[.slice had6p had6l had6c, .string x38] w11 [.one .bool] fun (r39 : Bool) (w13 : World) =>
  condB r39 (
  stN w13 ⟨b4, 0, none⟩ ⟨[.slice none 0 0]⟩ 1 fun w14 =>
  ldS w14 ⟨b4, 0, none⟩ fun r_0_1p r_0_1l r_0_1c =>
  J r_0_1p r_0_1l r_0_1c (27 : Int) w14) (
  ldStr w13 ⟨b10, 0, none⟩ fun x42 =>
  newB w13 (.cells ⟨[.string x42]⟩ T_string) fun b43 w15 =>
  appJ Tryd.prog T_sl_string T_sl_string (.slice had6p had6l had6c) (.slice (some ⟨b43, 0, none⟩) 1 1) w15 fun q44p q44l q44c w16 =>
  callJ Tryd.prog fn_slices_DeleteFunc_sl_scope_bind_scope_bind #[.slice binds7p binds7l binds7c, .func (.func 66) #[] #[.pointer (some ⟨b10, 0, none⟩)]] w16 [.one .slice] fun (r47p : Option Addr) (r47l : Nat) (r47c : Nat) (w17 : World) =>
  withJ (fun (x54 : Bool) (w18 : World) =>
  condB x54 (
  ldStr w18 ⟨b10, 0, none⟩ fun x56 =>
  ldStr w18 ⟨b9, 1, none⟩ fun x58 =>
  Array.size (⟨[.string x56, .string x58]⟩ : Array Value) = 2 ∧
  newB w18 (.cells ⟨[.string x56, .string x58]⟩ T_scope_bind) fun b60 w19 =>
  appJ Tryd.prog T_sl_scope_bind T_sl_scope_bind (.slice r47p r47l r47c) (.slice (some ⟨b60, 0, none⟩) 1 1) w19 fun q61p q61l q61c w20 =>
  J_6 q44p q44l q44c q61p q61l q61c w20) (
  J_6 q44p q44l q44c r47p r47l r47c w18)) fun J_54 =>
  ldStr w17 ⟨b10, 0, none⟩ fun x48 =>
  condB (!(x48.toList == (⟨#[120, 109, 108]⟩ : ByteArray).toList)) (
  ldStr w17 ⟨b9, 1, none⟩ fun x52 =>
  J_54 (!(x52.toList == (⟨#[]⟩ : ByteArray).toList)) w17) (
  J_54 false w17))))) (
  stN w4 ⟨b4, 0, none⟩ ⟨[.slice binds7p binds7l binds7c]⟩ 1 fun w21 =>
  ldS w21 ⟨b4, 0, none⟩ fun r_0_2p r_0_2l r_0_2c =>
  J r_0_2p r_0_2l r_0_2c (0 : Int) w21))
def ann_scope_Scope_Open : Ann := .s (.o) (.s (.o) (.s (.o) (.s (.s (.o) (.b (.l [(6, .slice), (7, .slice), (18, .int .i64)] (.s (.o) (.s (.c (.o) (.o)) (.j [(6, .slice), (7, .slice)] (.b (.s (.o) (.s (.o) (.s (.s (.o) (.c (.o) (.o))) (.s (.s (.o) (.s (.o) (.c (.s (.o) (.o)) (.o)))) (.s (.s (.o) (.c (.s (.o) (.o)) (.o))) (.s (.o) (.s (.o) (.j [(54, .bool)] (.o) (.c (.o) (.o))))))))))) (.o))))))) (.s (.o) (.o)))))
theorem eq_scope_Scope_Open (s0_0p : Option Addr) (s0_0l : Nat) (s0_0c : Nat) (l1p : Option Addr) (l1l : Nat) (l1c : Nat) (w : World) (J : Option Addr → Nat → Nat → Int → World → Prop) : vcFun Tryd.prog Tryd.f35 ann_scope_Scope_Open [.agg [.slice], .one (.int .i64)] [.agg ⟨[.slice s0_0p s0_0l s0_0c]⟩, .slice l1p l1l l1c] w J = VC_scope_Scope_Open s0_0p s0_0l s0_0c l1p l1l l1c w J := by kernel_rfl
theorem c_scope_Scope_Open {s0_0p : Option Addr} {s0_0l : Nat} {s0_0c : Nat} {l1p : Option Addr} {l1l : Nat} {l1c : Nat} {w : World} {J : Option Addr → Nat → Nat → Int → World → Prop} (h : VC_scope_Scope_Open s0_0p s0_0l s0_0c l1p l1l l1c w J) : callJ Tryd.prog fn_scope_Scope_Open #[.agg ⟨[.slice s0_0p s0_0l s0_0c]⟩, .slice l1p l1l l1c] w [.agg [.slice], .one (.int .i64)] J := vc_calls Tryd.func35 ann_scope_Scope_Open (Eq.mpr (eq_scope_Scope_Open s0_0p s0_0l s0_0c l1p l1l l1c w J) h)

/-- lectern/scope.declares -/
def VC_scope_declares (p0_0 : ByteArray) (p0_1 : ByteArray) (w : World) (J : ByteArray → Bool → World → Prop) : Prop :=
  newB w (.cells ⟨[.string p0_0, .string p0_1]⟩ T_scan_Pair) fun b1 w1 =>
  ldStr w1 ⟨b1, 0, none⟩ fun x9 =>
  callJ Tryd.prog fn_char_Split #[.string x9] w1 [.one .str, .one .str, .one .bool] fun (r10_0 : ByteArray) (r10_1 : ByteArray) (r10_2 : Bool) (w2 : World) =>
  withJ (fun (x14 : Bool) (w3 : World) =>
  condB x14 (
  J r10_1 true w3) (
  ldStr w3 ⟨b1, 0, none⟩ fun x23 =>
  condB (x23.toList == (⟨#[120, 109, 108, 110, 115]⟩ : ByteArray).toList) (
  J ⟨#[]⟩ true w3) (
  J ⟨#[]⟩ false w3))) fun J_14 =>
  condB r10_2 (
  J_14 (r10_0.toList == (⟨#[120, 109, 108, 110, 115]⟩ : ByteArray).toList) w2) (
  J_14 false w2)
def ann_scope_declares : Ann := .s (.o) (.s (.o) (.s (.b (.j [(14, .bool)] (.o) (.c (.s (.o) (.o)) (.s (.o) (.c (.s (.o) (.o)) (.o)))))) (.s (.o) (.o))))
theorem eq_scope_declares (p0_0 : ByteArray) (p0_1 : ByteArray) (w : World) (J : ByteArray → Bool → World → Prop) : vcFun Tryd.prog Tryd.f56 ann_scope_declares [.one .str, .one .bool] [.agg ⟨[.string p0_0, .string p0_1]⟩] w J = VC_scope_declares p0_0 p0_1 w J := by kernel_rfl
theorem c_scope_declares {p0_0 : ByteArray} {p0_1 : ByteArray} {w : World} {J : ByteArray → Bool → World → Prop} (h : VC_scope_declares p0_0 p0_1 w J) : callJ Tryd.prog fn_scope_declares #[.agg ⟨[.string p0_0, .string p0_1]⟩] w [.one .str, .one .bool] J := vc_calls Tryd.func56 ann_scope_declares (Eq.mpr (eq_scope_declares p0_0 p0_1 w J) h)

/-- lectern/scope.wrong -/
def VC_scope_wrong (prefix0 : ByteArray) (uri1 : ByteArray) (w : World) (J : Int → World → Prop) : Prop :=
  withJ (fun (x5 : Bool) (w1 : World) =>
  condB x5 (
  J (29 : Int) w1) (
  withJ (fun (x15 : Bool) (w2 : World) =>
  condB x15 (
  J (28 : Int) w2) (
  condB (decide ((uri1.size : Int) > (100 : Int))) (
  J (6 : Int) w2) (
  J (0 : Int) w2))) fun J_15 =>
  condB (!(prefix0.toList == (⟨#[]⟩ : ByteArray).toList)) (
  J_15 (uri1.toList == (⟨#[]⟩ : ByteArray).toList) w1) (
  J_15 false w1))) fun J_5 =>
  condB (prefix0.toList == (⟨#[120, 109, 108, 110, 115]⟩ : ByteArray).toList) (
  J_5 (prefix0.toList == (⟨#[120, 109, 108, 110, 115]⟩ : ByteArray).toList) w) (
  condB (uri1.toList == (⟨#[104, 116, 116, 112, 58, 47, 47, 119, 119, 119, 46, 119, 51, 46, 111, 114, 103, 47, 50, 48, 48, 48, 47, 120, 109, 108, 110, 115, 47]⟩ : ByteArray).toList) (
  J_5 (uri1.toList == (⟨#[104, 116, 116, 112, 58, 47, 47, 119, 119, 119, 46, 119, 51, 46, 111, 114, 103, 47, 50, 48, 48, 48, 47, 120, 109, 108, 110, 115, 47]⟩ : ByteArray).toList) w) (
  J_5 (!((prefix0.toList == (⟨#[120, 109, 108]⟩ : ByteArray).toList) == (uri1.toList == (⟨#[104, 116, 116, 112, 58, 47, 47, 119, 119, 119, 46, 119, 51, 46, 111, 114, 103, 47, 88, 77, 76, 47, 49, 57, 57, 56, 47, 110, 97, 109, 101, 115, 112, 97, 99, 101]⟩ : ByteArray).toList))) w))
def ann_scope_wrong : Ann := .s (.o) (.s (.b (.j [(5, .bool)] (.s (.o) (.c (.o) (.s (.o) (.c (.o) (.o))))) (.c (.s (.o) (.o)) (.j [(15, .bool)] (.o) (.c (.s (.o) (.o)) (.s (.o) (.c (.s (.o) (.o)) (.o)))))))) (.s (.o) (.o)))
theorem eq_scope_wrong (prefix0 : ByteArray) (uri1 : ByteArray) (w : World) (J : Int → World → Prop) : vcFun Tryd.prog Tryd.f63 ann_scope_wrong [.one (.int .i64)] [.string prefix0, .string uri1] w J = VC_scope_wrong prefix0 uri1 w J := by kernel_rfl
theorem c_scope_wrong {prefix0 : ByteArray} {uri1 : ByteArray} {w : World} {J : Int → World → Prop} (h : VC_scope_wrong prefix0 uri1 w J) : callJ Tryd.prog fn_scope_wrong #[.string prefix0, .string uri1] w [.one (.int .i64)] J := vc_calls Tryd.func63 ann_scope_wrong (Eq.mpr (eq_scope_wrong prefix0 uri1 w J) h)

/-- slices.Clone[[]lectern/scope.bind,lectern/scope.bind] -/
def VC_slices_Clone_sl_scope_bind_scope_bind (s0p : Option Addr) (s0l : Nat) (s0c : Nat) (w : World) (J : Option Addr → Nat → Nat → World → Prop) : Prop :=
  condB s0p.isNone (
  J none 0 0 w) (
  newB w (.cells ⟨[]⟩ T_scope_bind) fun b5 w1 =>
  appJ Tryd.prog T_sl_scope_bind T_sl_scope_bind (.slice (some ⟨b5, 0, none⟩) 0 0) (.slice s0p s0l s0c) w1 fun q7p q7l q7c w2 =>
  J q7p q7l q7c w2)
def ann_slices_Clone_sl_scope_bind_scope_bind : Ann := .s (.o) (.s (.s (.o) (.c (.s (.o) (.o)) (.o))) (.s (.o) (.o)))
theorem eq_slices_Clone_sl_scope_bind_scope_bind (s0p : Option Addr) (s0l : Nat) (s0c : Nat) (w : World) (J : Option Addr → Nat → Nat → World → Prop) : vcFun Tryd.prog Tryd.f62 ann_slices_Clone_sl_scope_bind_scope_bind [.one .slice] [.slice s0p s0l s0c] w J = VC_slices_Clone_sl_scope_bind_scope_bind s0p s0l s0c w J := by kernel_rfl
theorem c_slices_Clone_sl_scope_bind_scope_bind {s0p : Option Addr} {s0l : Nat} {s0c : Nat} {w : World} {J : Option Addr → Nat → Nat → World → Prop} (h : VC_slices_Clone_sl_scope_bind_scope_bind s0p s0l s0c w J) : callJ Tryd.prog fn_slices_Clone_sl_scope_bind_scope_bind #[.slice s0p s0l s0c] w [.one .slice] J := vc_calls Tryd.func62 ann_slices_Clone_sl_scope_bind_scope_bind (Eq.mpr (eq_slices_Clone_sl_scope_bind_scope_bind s0p s0l s0c w J) h)

/-- slices.Contains[[]string,string] -/
def VC_slices_Contains_sl_string_string (s0p : Option Addr) (s0l : Nat) (s0c : Nat) (v1 : ByteArray) (w : World) (J : Bool → World → Prop) : Prop :=
  callJ Tryd.prog fn_slices_Index_sl_string_string #[.slice s0p s0l s0c, .string v1] w [.one (.int .i64)] fun (r7 : Int) (w1 : World) =>
  J (decide (r7 ≥ (0 : Int))) w1
def ann_slices_Contains_sl_string_string : Ann := .s (.o) (.s (.o) (.o))
theorem eq_slices_Contains_sl_string_string (s0p : Option Addr) (s0l : Nat) (s0c : Nat) (v1 : ByteArray) (w : World) (J : Bool → World → Prop) : vcFun Tryd.prog Tryd.f64 ann_slices_Contains_sl_string_string [.one .bool] [.slice s0p s0l s0c, .string v1] w J = VC_slices_Contains_sl_string_string s0p s0l s0c v1 w J := by kernel_rfl
theorem c_slices_Contains_sl_string_string {s0p : Option Addr} {s0l : Nat} {s0c : Nat} {v1 : ByteArray} {w : World} {J : Bool → World → Prop} (h : VC_slices_Contains_sl_string_string s0p s0l s0c v1 w J) : callJ Tryd.prog fn_slices_Contains_sl_string_string #[.slice s0p s0l s0c, .string v1] w [.one .bool] J := vc_calls Tryd.func64 ann_slices_Contains_sl_string_string (Eq.mpr (eq_slices_Contains_sl_string_string s0p s0l s0c v1 w J) h)

/-- slices.Index[[]string,string] -/
def VC_slices_Index_sl_string_string (s0p : Option Addr) (s0l : Nat) (s0c : Nat) (v1 : ByteArray) (w : World) (J : Int → World → Prop) : Prop :=
  ∃ I_8 : Int → World → Nat → Prop, (∃ m : Nat, I_8 (0 : Int) w m) ∧ ∀ (x8 : Int) (w1 : World) (m : Nat), I_8 x8 w1 m → (
  condB (decide (x8 < ((s0l : Nat) : Int))) (
  idxA s0p s0l x8 fun a14 =>
  ldStr w1 ((a14.add (x8.toNat * 1))) fun x15 =>
  condB (v1.toList == x15.toList) (
  J x8 w1) (
  ∃ m' : Nat, m' < m ∧ I_8 (w64 (x8 + (1 : Int))) w1 m')) (
  J (-1 : Int) w1))
def ann_slices_Index_sl_string_string : Ann := .s (.o) (.s (.s (.o) (.b (.l [(8, .int .i64)] (.s (.o) (.s (.c (.o) (.o)) (.s (.b (.s (.o) (.s (.o) (.c (.s (.o) (.o)) (.o))))) (.o))))))) (.s (.o) (.o)))
theorem eq_slices_Index_sl_string_string (s0p : Option Addr) (s0l : Nat) (s0c : Nat) (v1 : ByteArray) (w : World) (J : Int → World → Prop) : vcFun Tryd.prog Tryd.f82 ann_slices_Index_sl_string_string [.one (.int .i64)] [.slice s0p s0l s0c, .string v1] w J = VC_slices_Index_sl_string_string s0p s0l s0c v1 w J := by kernel_rfl
theorem c_slices_Index_sl_string_string {s0p : Option Addr} {s0l : Nat} {s0c : Nat} {v1 : ByteArray} {w : World} {J : Int → World → Prop} (h : VC_slices_Index_sl_string_string s0p s0l s0c v1 w J) : callJ Tryd.prog fn_slices_Index_sl_string_string #[.slice s0p s0l s0c, .string v1] w [.one (.int .i64)] J := vc_calls Tryd.func82 ann_slices_Index_sl_string_string (Eq.mpr (eq_slices_Index_sl_string_string s0p s0l s0c v1 w J) h)

/-- slices.DeleteFunc[[]lectern/scope.bind,lectern/scope.bind] -/
def VC_slices_DeleteFunc_sl_scope_bind_scope_bind_f1_66c1 (s0p : Option Addr) (s0l : Nat) (s0c : Nat) (cp1_0 : Addr) (w : World) (J : Option Addr → Nat → Nat → World → Prop) : Prop :=
  callJ Tryd.prog fn_slices_IndexFunc_sl_scope_bind_scope_bind #[.slice s0p s0l s0c, .func (.func 66) #[] #[.pointer (some cp1_0)]] w [.one (.int .i64)] fun (r10 : Int) (w1 : World) =>
  condB (r10 == (-1 : Int)) (
  J s0p s0l s0c w1) (
  ∃ I_5 : Int → Int → World → Nat → Prop, (∃ m : Nat, I_5 r10 (w64 (r10 + (1 : Int))) w1 m) ∧ ∀ (i5 : Int) (j6 : Int) (w2 : World) (m : Nat), I_5 i5 j6 w2 m → (
  condB (decide (j6 < ((s0l : Nat) : Int))) (
  withJ (fun (i5_1 : Int) (w3 : World) =>
  ∃ m' : Nat, m' < m ∧ I_5 i5_1 (w64 (j6 + (1 : Int))) w3 m') fun J_5 =>
  idxA s0p s0l j6 fun a24 =>
  ldStr w2 ((a24.add (j6.toNat * 2))) fun x25_0 =>
  ldStr w2 (((a24.add (j6.toNat * 2)).add 1)) fun x25_1 =>
  newB w2 (.cells (zeroC Tryd.prog T_scope_bind) T_scope_bind) fun b7 w4 =>
  stN w4 ⟨b7, 0, none⟩ ⟨[.string x25_0, .string x25_1]⟩ 2 fun w5 =>
  ldStr w5 ⟨b7, 0, none⟩ fun x27_0 =>
  ldStr w5 ⟨b7, 1, none⟩ fun x27_1 =>
  callJ Tryd.prog fn_scope_Scope_Open_1 #[.agg ⟨[.string x27_0, .string x27_1]⟩, .pointer (some cp1_0)] w5 [.one .bool] fun (r28 : Bool) (w6 : World) =>
  condB (!r28) (
  ldStr w6 ⟨b7, 0, none⟩ fun x32_0 =>
  ldStr w6 ⟨b7, 1, none⟩ fun x32_1 =>
  idxA s0p s0l i5 fun a33 =>
  stN w6 ((a33.add (i5.toNat * 2))) ⟨[.string x32_0, .string x32_1]⟩ 2 fun w7 =>
  J_5 (w64 (i5 + (1 : Int))) w7) (
  J_5 i5 w6)) (
  slS s0p s0l s0c 2 (some i5) none none fun q38p q38l q38c =>
  clrJ Tryd.prog T_sl_scope_bind (.slice q38p q38l q38c) w2 fun w8 =>
  slS s0p s0l s0c 2 none (some i5) none fun q41p q41l q41c =>
  J q41p q41l q41c w8)))
def ann_slices_DeleteFunc_sl_scope_bind_scope_bind_f1_66c1 : Ann := .s (.o) (.s (.o) (.s (.s (.o) (.c (.s (.o) (.o)) (.o))) (.s (.s (.o) (.b (.l [(5, .int .i64), (6, .int .i64)] (.s (.s (.o) (.c (.o) (.o))) (.j [(5, .int .i64)] (.b (.s (.o) (.s (.o) (.c (.s (.o) (.o)) (.o))))) (.o)))))) (.s (.o) (.s (.o) (.o))))))
theorem eq_slices_DeleteFunc_sl_scope_bind_scope_bind_f1_66c1 (s0p : Option Addr) (s0l : Nat) (s0c : Nat) (cp1_0 : Addr) (w : World) (J : Option Addr → Nat → Nat → World → Prop) : vcFun Tryd.prog Tryd.f65 ann_slices_DeleteFunc_sl_scope_bind_scope_bind_f1_66c1 [.one .slice] [.slice s0p s0l s0c, .func (.func 66) #[] #[.pointer (some cp1_0)]] w J = VC_slices_DeleteFunc_sl_scope_bind_scope_bind_f1_66c1 s0p s0l s0c cp1_0 w J := by kernel_rfl
theorem c_slices_DeleteFunc_sl_scope_bind_scope_bind_f1_66c1 {s0p : Option Addr} {s0l : Nat} {s0c : Nat} {cp1_0 : Addr} {w : World} {J : Option Addr → Nat → Nat → World → Prop} (h : VC_slices_DeleteFunc_sl_scope_bind_scope_bind_f1_66c1 s0p s0l s0c cp1_0 w J) : callJ Tryd.prog fn_slices_DeleteFunc_sl_scope_bind_scope_bind #[.slice s0p s0l s0c, .func (.func 66) #[] #[.pointer (some cp1_0)]] w [.one .slice] J := vc_calls Tryd.func65 ann_slices_DeleteFunc_sl_scope_bind_scope_bind_f1_66c1 (Eq.mpr (eq_slices_DeleteFunc_sl_scope_bind_scope_bind_f1_66c1 s0p s0l s0c cp1_0 w J) h)

/-- (lectern/scope.Scope).Open$1 -/
def VC_scope_Scope_Open_1 (b0_0 : ByteArray) (b0_1 : ByteArray) (fv0 : Addr) (w : World) (J : Bool → World → Prop) : Prop :=
  newB w (.cells ⟨[.string b0_0, .string b0_1]⟩ T_scope_bind) fun b2 w1 =>
  ldStr w1 ⟨b2, 0, none⟩ fun x5 =>
  ldStr w1 fv0 fun x6 =>
  J (x5.toList == x6.toList) w1
def ann_scope_Scope_Open_1 : Ann := .s (.o) (.s (.o) (.o))
theorem eq_scope_Scope_Open_1 (b0_0 : ByteArray) (b0_1 : ByteArray) (fv0 : Addr) (w : World) (J : Bool → World → Prop) : vcFun Tryd.prog Tryd.f66 ann_scope_Scope_Open_1 [.one .bool] [.agg ⟨[.string b0_0, .string b0_1]⟩, .pointer (some fv0)] w J = VC_scope_Scope_Open_1 b0_0 b0_1 fv0 w J := by kernel_rfl
theorem c_scope_Scope_Open_1 {b0_0 : ByteArray} {b0_1 : ByteArray} {fv0 : Addr} {w : World} {J : Bool → World → Prop} (h : VC_scope_Scope_Open_1 b0_0 b0_1 fv0 w J) : callJ Tryd.prog fn_scope_Scope_Open_1 #[.agg ⟨[.string b0_0, .string b0_1]⟩, .pointer (some fv0)] w [.one .bool] J := vc_calls Tryd.func66 ann_scope_Scope_Open_1 (Eq.mpr (eq_scope_Scope_Open_1 b0_0 b0_1 fv0 w J) h)

/-- slices.IndexFunc[[]lectern/scope.bind,lectern/scope.bind] -/
def VC_slices_IndexFunc_sl_scope_bind_scope_bind_f1_66c1 (s0p : Option Addr) (s0l : Nat) (s0c : Nat) (cp1_0 : Addr) (w : World) (J : Int → World → Prop) : Prop :=
  ∃ I_8 : Int → World → Nat → Prop, (∃ m : Nat, I_8 (0 : Int) w m) ∧ ∀ (x8 : Int) (w1 : World) (m : Nat), I_8 x8 w1 m → (
  condB (decide (x8 < ((s0l : Nat) : Int))) (
  idxA s0p s0l x8 fun a14 =>
  ldStr w1 ((a14.add (x8.toNat * 2))) fun x15_0 =>
  ldStr w1 (((a14.add (x8.toNat * 2)).add 1)) fun x15_1 =>
  callJ Tryd.prog fn_scope_Scope_Open_1 #[.agg ⟨[.string x15_0, .string x15_1]⟩, .pointer (some cp1_0)] w1 [.one .bool] fun (r16 : Bool) (w2 : World) =>
  condB r16 (
  J x8 w2) (
  ∃ m' : Nat, m' < m ∧ I_8 (w64 (x8 + (1 : Int))) w2 m')) (
  J (-1 : Int) w1))
def ann_slices_IndexFunc_sl_scope_bind_scope_bind_f1_66c1 : Ann := .s (.o) (.s (.s (.o) (.b (.l [(8, .int .i64)] (.s (.o) (.s (.c (.o) (.o)) (.s (.b (.s (.o) (.s (.o) (.c (.s (.o) (.o)) (.o))))) (.o))))))) (.s (.o) (.o)))
theorem eq_slices_IndexFunc_sl_scope_bind_scope_bind_f1_66c1 (s0p : Option Addr) (s0l : Nat) (s0c : Nat) (cp1_0 : Addr) (w : World) (J : Int → World → Prop) : vcFun Tryd.prog Tryd.f83 ann_slices_IndexFunc_sl_scope_bind_scope_bind_f1_66c1 [.one (.int .i64)] [.slice s0p s0l s0c, .func (.func 66) #[] #[.pointer (some cp1_0)]] w J = VC_slices_IndexFunc_sl_scope_bind_scope_bind_f1_66c1 s0p s0l s0c cp1_0 w J := by kernel_rfl
theorem c_slices_IndexFunc_sl_scope_bind_scope_bind_f1_66c1 {s0p : Option Addr} {s0l : Nat} {s0c : Nat} {cp1_0 : Addr} {w : World} {J : Int → World → Prop} (h : VC_slices_IndexFunc_sl_scope_bind_scope_bind_f1_66c1 s0p s0l s0c cp1_0 w J) : callJ Tryd.prog fn_slices_IndexFunc_sl_scope_bind_scope_bind #[.slice s0p s0l s0c, .func (.func 66) #[] #[.pointer (some cp1_0)]] w [.one (.int .i64)] J := vc_calls Tryd.func83 ann_slices_IndexFunc_sl_scope_bind_scope_bind_f1_66c1 (Eq.mpr (eq_slices_IndexFunc_sl_scope_bind_scope_bind_f1_66c1 s0p s0l s0c cp1_0 w J) h)

/-- (lectern/scope.Scope).Bound -/
def VC_scope_Scope_Bound (s0_0p : Option Addr) (s0_0l : Nat) (s0_0c : Nat) (prefix1 : ByteArray) (w : World) (J : ByteArray → Bool → World → Prop) : Prop :=
  newB w (.cells ⟨[.slice s0_0p s0_0l s0_0c]⟩ T_scope_Scope) fun b2 w1 =>
  condB (prefix1.toList == (⟨#[120, 109, 108]⟩ : ByteArray).toList) (
  J ⟨#[104, 116, 116, 112, 58, 47, 47, 119, 119, 119, 46, 119, 51, 46, 111, 114, 103, 47, 88, 77, 76, 47, 49, 57, 57, 56, 47, 110, 97, 109, 101, 115, 112, 97, 99, 101]⟩ true w1) (
  ldS w1 ⟨b2, 0, none⟩ fun x11p x11l x11c =>
  ∃ I_13 : Int → World → Nat → Prop, (∃ m : Nat, I_13 (0 : Int) w1 m) ∧ ∀ (x13 : Int) (w2 : World) (m : Nat), I_13 x13 w2 m → (
  condB (decide (x13 < ((x11l : Nat) : Int))) (
  idxA x11p x11l x13 fun a15 =>
  ldStr w2 ((a15.add (x13.toNat * 2))) fun x16_0 =>
  ldStr w2 (((a15.add (x13.toNat * 2)).add 1)) fun x16_1 =>
  newB w2 (.cells (zeroC Tryd.prog T_scope_bind) T_scope_bind) fun b7 w3 =>
  stN w3 ⟨b7, 0, none⟩ ⟨[.string x16_0, .string x16_1]⟩ 2 fun w4 =>
  ldStr w4 ⟨b7, 0, none⟩ fun x18 =>
  condB (x18.toList == prefix1.toList) (
  ldStr w4 ⟨b7, 1, none⟩ fun x22 =>
  J x22 true w4) (
  ∃ m' : Nat, m' < m ∧ I_13 (w64 (x13 + (1 : Int))) w4 m')) (
  J ⟨#[]⟩ (prefix1.toList == (⟨#[]⟩ : ByteArray).toList) w2)))
def ann_scope_Scope_Bound : Ann := .s (.o) (.s (.s (.o) (.c (.s (.o) (.o)) (.o))) (.s (.s (.o) (.b (.l [(13, .int .i64)] (.s (.o) (.s (.c (.o) (.o)) (.s (.b (.s (.o) (.s (.o) (.c (.s (.o) (.o)) (.o))))) (.o))))))) (.s (.o) (.o))))
theorem eq_scope_Scope_Bound (s0_0p : Option Addr) (s0_0l : Nat) (s0_0c : Nat) (prefix1 : ByteArray) (w : World) (J : ByteArray → Bool → World → Prop) : vcFun Tryd.prog Tryd.f39 ann_scope_Scope_Bound [.one .str, .one .bool] [.agg ⟨[.slice s0_0p s0_0l s0_0c]⟩, .string prefix1] w J = VC_scope_Scope_Bound s0_0p s0_0l s0_0c prefix1 w J := by kernel_rfl
theorem c_scope_Scope_Bound {s0_0p : Option Addr} {s0_0l : Nat} {s0_0c : Nat} {prefix1 : ByteArray} {w : World} {J : ByteArray → Bool → World → Prop} (h : VC_scope_Scope_Bound s0_0p s0_0l s0_0c prefix1 w J) : callJ Tryd.prog fn_scope_Scope_Bound #[.agg ⟨[.slice s0_0p s0_0l s0_0c]⟩, .string prefix1] w [.one .str, .one .bool] J := vc_calls Tryd.func39 ann_scope_Scope_Bound (Eq.mpr (eq_scope_Scope_Bound s0_0p s0_0l s0_0c prefix1 w J) h)

/-- (lectern/scope.Scope).Element -/
def VC_scope_Scope_Element (s0_0p : Option Addr) (s0_0l : Nat) (s0_0c : Nat) (q1 : ByteArray) (w : World) (J : ByteArray → ByteArray → Int → World → Prop) : Prop :=
  newB w (.cells ⟨[.slice s0_0p s0_0l s0_0c]⟩ T_scope_Scope) fun b2 w1 =>
  newB w1 (.cells (zeroC Tryd.prog T_api_Name) T_api_Name) fun b4 w2 =>
  callJ Tryd.prog fn_char_Split #[.string q1] w2 [.one .str, .one .str, .one .bool] fun (r12_0 : ByteArray) (r12_1 : ByteArray) (r12_2 : Bool) (w3 : World) =>
  condB (!r12_2) (
  stN w3 ⟨b4, 0, none⟩ ⟨[.string ByteArray.empty, .string ByteArray.empty]⟩ 2 fun w4 =>
  ldStr w4 ⟨b4, 0, none⟩ fun r_0 =>
  ldStr w4 ⟨b4, 1, none⟩ fun r_1 =>
  J r_0 r_1 (24 : Int) w4) (
  condB (r12_0.toList == (⟨#[120, 109, 108, 110, 115]⟩ : ByteArray).toList) (
  stN w3 ⟨b4, 0, none⟩ ⟨[.string ByteArray.empty, .string ByteArray.empty]⟩ 2 fun w5 =>
  ldStr w5 ⟨b4, 0, none⟩ fun r_0_1 =>
  ldStr w5 ⟨b4, 1, none⟩ fun r_1_1 =>
  J r_0_1 r_1_1 (29 : Int) w5) (
  ldS w3 ⟨b2, 0, none⟩ fun x25_0p x25_0l x25_0c =>
  callJ Tryd.prog fn_scope_Scope_Bound #[.agg ⟨[.slice x25_0p x25_0l x25_0c]⟩, .string r12_0] w3 [.one .str, .one .bool] fun (r27_0 : ByteArray) (r27_1 : Bool) (w6 : World) =>
  condB (!r27_1) (
  stN w6 ⟨b4, 0, none⟩ ⟨[.string ByteArray.empty, .string ByteArray.empty]⟩ 2 fun w7 =>
  ldStr w7 ⟨b4, 0, none⟩ fun r_0_2 =>
  ldStr w7 ⟨b4, 1, none⟩ fun r_1_2 =>
  J r_0_2 r_1_2 (28 : Int) w7) (
  stN w6 ⟨b4, 0, none⟩ ⟨[.string r27_0, .string r12_1]⟩ 2 fun w8 =>
  ldStr w8 ⟨b4, 0, none⟩ fun r_0_3 =>
  ldStr w8 ⟨b4, 1, none⟩ fun r_1_3 =>
  J r_0_3 r_1_3 (0 : Int) w8)))
def ann_scope_Scope_Element : Ann := .s (.o) (.s (.o) (.s (.b (.s (.o) (.c (.s (.o) (.o)) (.s (.o) (.c (.s (.o) (.o)) (.o)))))) (.s (.o) (.s (.s (.o) (.c (.s (.o) (.o)) (.o))) (.s (.o) (.o))))))
theorem eq_scope_Scope_Element (s0_0p : Option Addr) (s0_0l : Nat) (s0_0c : Nat) (q1 : ByteArray) (w : World) (J : ByteArray → ByteArray → Int → World → Prop) : vcFun Tryd.prog Tryd.f16 ann_scope_Scope_Element [.agg [.str, .str], .one (.int .i64)] [.agg ⟨[.slice s0_0p s0_0l s0_0c]⟩, .string q1] w J = VC_scope_Scope_Element s0_0p s0_0l s0_0c q1 w J := by kernel_rfl
theorem c_scope_Scope_Element {s0_0p : Option Addr} {s0_0l : Nat} {s0_0c : Nat} {q1 : ByteArray} {w : World} {J : ByteArray → ByteArray → Int → World → Prop} (h : VC_scope_Scope_Element s0_0p s0_0l s0_0c q1 w J) : callJ Tryd.prog fn_scope_Scope_Element #[.agg ⟨[.slice s0_0p s0_0l s0_0c]⟩, .string q1] w [.agg [.str, .str], .one (.int .i64)] J := vc_calls Tryd.func16 ann_scope_Scope_Element (Eq.mpr (eq_scope_Scope_Element s0_0p s0_0l s0_0c q1 w J) h)

/-- (lectern/scope.Scope).Attrs -/
def VC_scope_Scope_Attrs (s0_0p : Option Addr) (s0_0l : Nat) (s0_0c : Nat) (l1p : Option Addr) (l1l : Nat) (l1c : Nat) (w : World) (J : Option Addr → Nat → Nat → Int → World → Prop) : Prop :=
  newB w (.cells ⟨[.slice s0_0p s0_0l s0_0c]⟩ T_scope_Scope) fun b2 w1 =>
  ∃ I_6 : Option Addr → Nat → Nat → Int → World → Nat → Prop, (∃ m : Nat, I_6 none 0 0 (0 : Int) w1 m) ∧ ∀ (out6p : Option Addr) (out6l : Nat) (out6c : Nat) (x19 : Int) (w2 : World) (m : Nat), I_6 out6p out6l out6c x19 w2 m → (
  condB (decide (x19 < ((l1l : Nat) : Int))) (
  withJ (fun (out6_1p : Option Addr) (out6_1l : Nat) (out6_1c : Nat) (w3 : World) =>
  ∃ m' : Nat, m' < m ∧ I_6 out6_1p out6_1l out6_1c (w64 (x19 + (1 : Int))) w3 m') fun J_6 =>
  idxA l1p l1l x19 fun a21 =>
  ldStr w2 ((a21.add (x19.toNat * 2))) fun x22_0 =>
  ldStr w2 (((a21.add (x19.toNat * 2)).add 1)) fun x22_1 =>
  newB w2 (.cells (zeroC Tryd.prog T_scan_Pair) T_scan_Pair) fun b8 w4 =>
  stN w4 ⟨b8, 0, none⟩ ⟨[.string x22_0, .string x22_1]⟩ 2 fun w5 =>
  ldStr w5 ⟨b8, 0, none⟩ fun x24_0 =>
  ldStr w5 ⟨b8, 1, none⟩ fun x24_1 =>
  callJ Tryd.prog fn_scope_declares #[.agg ⟨[.string x24_0, .string x24_1]⟩] w5 [.one .str, .one .bool] fun (r25_0 : ByteArray) (r25_1 : Bool) (w6 : World) =>
  condB r25_1 (
  J_6 out6p out6l out6c w6) (
  ldS w6 ⟨b2, 0, none⟩ fun x30_0p x30_0l x30_0c =>
  ldStr w6 ⟨b8, 0, none⟩ fun x32 =>
  callJ Tryd.prog fn_scope_Scope_Element #[.agg ⟨[.slice x30_0p x30_0l x30_0c]⟩, .string x32] w6 [.agg [.str, .str], .one (.int .i64)] fun (r33_0_0 : ByteArray) (r33_0_1 : ByteArray) (r33_1 : Int) (w7 : World) =>
  newB w7 (.cells (zeroC Tryd.prog T_api_Name) T_api_Name) fun b11 w8 =>
  stN w8 ⟨b11, 0, none⟩ ⟨[.string r33_0_0, .string r33_0_1]⟩ 2 fun w9 =>
  condB (r33_1 != (0 : Int)) (
  J none 0 0 r33_1 w9) (
  withJ (fun (w10 : World) =>
  ldStr w10 ⟨b11, 0, none⟩ fun x50_0 =>
  ldStr w10 ⟨b11, 1, none⟩ fun x50_1 =>
  ldStr w10 ⟨b8, 1, none⟩ fun x52 =>
  Array.size (⟨[.string x50_0, .string x50_1]⟩ : Array Value) = 2 ∧
  Array.size (⟨[.string x50_0, .string x50_1, .string x52]⟩ : Array Value) = 3 ∧
  newB w10 (.cells ⟨[.string x50_0, .string x50_1, .string x52]⟩ T_api_Attr) fun b54 w11 =>
  appJ Tryd.prog T_sl_api_Attr T_sl_api_Attr (.slice out6p out6l out6c) (.slice (some ⟨b54, 0, none⟩) 1 1) w11 fun q55p q55l q55c w12 =>
  J_6 q55p q55l q55c w12) fun J_0 =>
  ldStr w9 ⟨b8, 0, none⟩ fun x41 =>
  callJ Tryd.prog fn_char_Split #[.string x41] w9 [.one .str, .one .str, .one .bool] fun (r42_0 : ByteArray) (r42_1 : ByteArray) (r42_2 : Bool) (w13 : World) =>
  condB (r42_0.toList == (⟨#[]⟩ : ByteArray).toList) (
  stV w13 ⟨b11, 0, none⟩ (.string ⟨#[]⟩) fun w14 =>
  J_0 w14) (
  J_0 w13)))) (
  callJ Tryd.prog fn_slices_SortStableFunc_sl_api_Attr_api_Attr #[.slice out6p out6l out6c, .func (.func 58) #[] #[]] w2 [] fun (w15 : World) =>
  ∃ I_61 : Int → World → Nat → Prop, (∃ m : Nat, I_61 (0 : Int) w15 m) ∧ ∀ (x61 : Int) (w16 : World) (m_1 : Nat), I_61 x61 w16 m_1 → (
  condB (decide (x61 < ((out6l : Nat) : Int))) (
  withJ (fun (x79 : Bool) (w17 : World) =>
  condB x79 (
  J none 0 0 (27 : Int) w17) (
  ∃ m' : Nat, m' < m_1 ∧ I_61 (w64 (x61 + (1 : Int))) w17 m')) fun J_79 =>
  condB (decide (x61 > (0 : Int))) (
  idxA out6p out6l x61 fun a69 =>
  ldStr w16.drew ((a69.add (x61.toNat * 3))) fun x71_0 =>
  ldStr w16.drew (((a69.add (x61.toNat * 3)).add 1)) fun x71_1 =>
  idxA out6p out6l (w64 (x61 - (1 : Int))) fun a75 =>
  ldStr w16.drew ((a75.add ((w64 (x61 - (1 : Int))).toNat * 3))) fun x77_0 =>
  ldStr w16.drew (((a75.add ((w64 (x61 - (1 : Int))).toNat * 3)).add 1)) fun x77_1 =>
  J_79 ((x71_0.toList == x77_0.toList) && ((x71_1.toList == x77_1.toList) && true)) w16.drew) (
  J_79 false w16.drew)) (
  J out6p out6l out6c (0 : Int) w16))))
def ann_scope_Scope_Attrs : Ann := .s (.o) (.s (.o) (.s (.s (.o) (.b (.l [(6, .slice), (19, .int .i64)] (.s (.o) (.s (.c (.o) (.o)) (.j [(6, .slice)] (.b (.s (.o) (.s (.s (.o) (.s (.o) (.c (.o) (.o)))) (.s (.o) (.s (.s (.o) (.c (.s (.o) (.o)) (.o))) (.j [] (.s (.o) (.s (.o) (.c (.o) (.o)))) (.o))))))) (.o))))))) (.s (.o) (.s (.s (.o) (.b (.l [(61, .int .i64)] (.s (.o) (.s (.c (.o) (.o)) (.s (.b (.s (.o) (.j [(79, .bool)] (.d (.take 0 (.take 1 (.take 2 (.take 3 (.take 4 (.take 5 (.take 6 (.take 7 (.take 8 (.take 9 (.take 10 (.take 11 (.take 12 (.take 13 (.take 14 (.take 15 (.done)))))))))))))))))) (.c (.s (.o) (.o)) (.o))))) (.o))))))) (.s (.o) (.o))))))
theorem eq_scope_Scope_Attrs (s0_0p : Option Addr) (s0_0l : Nat) (s0_0c : Nat) (l1p : Option Addr) (l1l : Nat) (l1c : Nat) (w : World) (J : Option Addr → Nat → Nat → Int → World → Prop) : vcFun Tryd.prog Tryd.f30 ann_scope_Scope_Attrs [.one .slice, .one (.int .i64)] [.agg ⟨[.slice s0_0p s0_0l s0_0c]⟩, .slice l1p l1l l1c] w J = VC_scope_Scope_Attrs s0_0p s0_0l s0_0c l1p l1l l1c w J := by kernel_rfl
theorem c_scope_Scope_Attrs {s0_0p : Option Addr} {s0_0l : Nat} {s0_0c : Nat} {l1p : Option Addr} {l1l : Nat} {l1c : Nat} {w : World} {J : Option Addr → Nat → Nat → Int → World → Prop} (h : VC_scope_Scope_Attrs s0_0p s0_0l s0_0c l1p l1l l1c w J) : callJ Tryd.prog fn_scope_Scope_Attrs #[.agg ⟨[.slice s0_0p s0_0l s0_0c]⟩, .slice l1p l1l l1c] w [.one .slice, .one (.int .i64)] J := vc_calls Tryd.func30 ann_scope_Scope_Attrs (Eq.mpr (eq_scope_Scope_Attrs s0_0p s0_0l s0_0c l1p l1l l1c w J) h)

/-- (lectern/scope.Scope).Attrs$1 -/
def VC_scope_Scope_Attrs_1 (a0_0 : ByteArray) (a0_1 : ByteArray) (a0_2 : ByteArray) (b1_0 : ByteArray) (b1_1 : ByteArray) (b1_2 : ByteArray) (w : World) (J : Int → World → Prop) : Prop :=
  newB w (.cells ⟨[.string a0_0, .string a0_1, .string a0_2]⟩ T_api_Attr) fun b2 w1 =>
  newB w1 (.cells ⟨[.string b1_0, .string b1_1, .string b1_2]⟩ T_api_Attr) fun b3 w2 =>
  ldStr w2.drew ⟨b2, 0, none⟩ fun x7 =>
  ldStr w2.drew ⟨b3, 0, none⟩ fun x10 =>
  ldStr w2.drew ⟨b2, 1, none⟩ fun x14 =>
  ldStr w2.drew ⟨b3, 1, none⟩ fun x17 =>
  callJ Tryd.prog fn_cmp_Compare_string #[.string x7, .string x10] w2.drew [.one (.int .i64)] fun (r11 : Int) (w3 : World) =>
  w3.cell? ⟨b3, 1, none⟩ = some (.string x17) ∧
  w3.cell? ⟨b2, 1, none⟩ = some (.string x14) ∧
  callJ Tryd.prog fn_cmp_Compare_string #[.string x14, .string x17] w3 [.one (.int .i64)] fun (r18 : Int) (w4 : World) =>
  newB w4 (.cells ⟨[.int .i64 r11, .int .i64 r18]⟩ T_int) fun b19 w5 =>
  callJ Tryd.prog fn_cmp_Or_int #[.slice (some ⟨b19, 0, none⟩) 2 2] w5 [.one (.int .i64)] fun (r20 : Int) (w6 : World) =>
  J r20 w6
def ann_scope_Scope_Attrs_1 : Ann := .s (.o) (.s (.d (.take 0 (.take 1 (.take 2 (.take 3 (.take 4 (.take 5 (.take 7 (.take 8 (.take 9 (.take 10 (.take 11 (.take 12 (.eff 6 (.eff 13 (.eff 14 (.eff 15 (.take 16 (.done)) (.none)) (.none)) (.none)) (.none))))))))))))))) (.o))
theorem eq_scope_Scope_Attrs_1 (a0_0 : ByteArray) (a0_1 : ByteArray) (a0_2 : ByteArray) (b1_0 : ByteArray) (b1_1 : ByteArray) (b1_2 : ByteArray) (w : World) (J : Int → World → Prop) : vcFun Tryd.prog Tryd.f58 ann_scope_Scope_Attrs_1 [.one (.int .i64)] [.agg ⟨[.string a0_0, .string a0_1, .string a0_2]⟩, .agg ⟨[.string b1_0, .string b1_1, .string b1_2]⟩] w J = VC_scope_Scope_Attrs_1 a0_0 a0_1 a0_2 b1_0 b1_1 b1_2 w J := by kernel_rfl
theorem c_scope_Scope_Attrs_1 {a0_0 : ByteArray} {a0_1 : ByteArray} {a0_2 : ByteArray} {b1_0 : ByteArray} {b1_1 : ByteArray} {b1_2 : ByteArray} {w : World} {J : Int → World → Prop} (h : VC_scope_Scope_Attrs_1 a0_0 a0_1 a0_2 b1_0 b1_1 b1_2 w J) : callJ Tryd.prog fn_scope_Scope_Attrs_1 #[.agg ⟨[.string a0_0, .string a0_1, .string a0_2]⟩, .agg ⟨[.string b1_0, .string b1_1, .string b1_2]⟩] w [.one (.int .i64)] J := vc_calls Tryd.func58 ann_scope_Scope_Attrs_1 (Eq.mpr (eq_scope_Scope_Attrs_1 a0_0 a0_1 a0_2 b1_0 b1_1 b1_2 w J) h)

end Go.Proofs.YtdjehimkijlhgaaDoor
