/- What the conditions of these functions are, reckoned by the reading; printed by program. -/
import Derived.Test.YtdjehimkijlhgaaDoorNm
import Derived.KernelRfl
set_option maxRecDepth 100000
set_option linter.unusedVariables false
namespace Go.Proofs.YtdjehimkijlhgaaDoor
open Go Go.Vc

/-- lectern/lecternlaw04.awake -/
def VC_law04_awake  (w : World) (J : Bool → World → Prop) : Prop :=
  callJ Tryd.prog fn_scope_New #[] w [.agg [.slice]] fun (r10_0p : Option Addr) (r10_0l : Nat) (r10_0c : Nat) (w1 : World) =>
  Array.size (⟨[.string ⟨#[120, 109, 108, 110, 115]⟩, .string ⟨#[117]⟩]⟩ : Array Value) = 2 ∧
  Array.size (⟨[.string ⟨#[120, 109, 108, 110, 115, 58, 112]⟩, .string ⟨#[118]⟩]⟩ : Array Value) = 2 ∧
  newB w1 (.cells ⟨[.string ⟨#[120, 109, 108, 110, 115]⟩, .string ⟨#[117]⟩, .string ⟨#[120, 109, 108, 110, 115, 58, 112]⟩, .string ⟨#[118]⟩]⟩ T_scan_Pair) fun b13 w2 =>
  callJ Tryd.prog fn_scope_Scope_Open #[.agg ⟨[.slice r10_0p r10_0l r10_0c]⟩, .slice (some ⟨b13, 0, none⟩) 2 2] w2 [.agg [.slice], .one (.int .i64)] fun (r14_0_0p : Option Addr) (r14_0_0l : Nat) (r14_0_0c : Nat) (r14_1 : Int) (w3 : World) =>
  newB w3 (.cells (zeroC Tryd.prog T_scope_Scope) T_scope_Scope) fun b1 w4 =>
  stN w4 ⟨b1, 0, none⟩ ⟨[.slice r14_0_0p r14_0_0l r14_0_0c]⟩ 1 fun w5 =>
  ldS w5 ⟨b1, 0, none⟩ fun x18_0p x18_0l x18_0c =>
  callJ Tryd.prog fn_scope_Scope_Element #[.agg ⟨[.slice x18_0p x18_0l x18_0c]⟩, .string ⟨#[97]⟩] w5 [.agg [.str, .str], .one (.int .i64)] fun (r19_0_0 : ByteArray) (r19_0_1 : ByteArray) (r19_1 : Int) (w6 : World) =>
  newB w6 (.cells (zeroC Tryd.prog T_api_Name) T_api_Name) fun b3 w7 =>
  stN w7 ⟨b3, 0, none⟩ ⟨[.string r19_0_0, .string r19_0_1]⟩ 2 fun w8 =>
  ldS w8 ⟨b1, 0, none⟩ fun x23_0p x23_0l x23_0c =>
  callJ Tryd.prog fn_scope_Scope_Element #[.agg ⟨[.slice x23_0p x23_0l x23_0c]⟩, .string ⟨#[112, 58, 97]⟩] w8 [.agg [.str, .str], .one (.int .i64)] fun (r24_0_0 : ByteArray) (r24_0_1 : ByteArray) (r24_1 : Int) (w9 : World) =>
  newB w9 (.cells (zeroC Tryd.prog T_api_Name) T_api_Name) fun b5 w10 =>
  stN w10 ⟨b5, 0, none⟩ ⟨[.string r24_0_0, .string r24_0_1]⟩ 2 fun w11 =>
  callJ Tryd.prog fn_scope_New #[] w11 [.agg [.slice]] fun (r28_0p : Option Addr) (r28_0l : Nat) (r28_0c : Nat) (w12 : World) =>
  callJ Tryd.prog fn_scope_Scope_Element #[.agg ⟨[.slice r28_0p r28_0l r28_0c]⟩, .string ⟨#[112, 58, 97]⟩] w12 [.agg [.str, .str], .one (.int .i64)] fun (r29_0_0 : ByteArray) (r29_0_1 : ByteArray) (r29_1 : Int) (w13 : World) =>
  newB w13 (.cells (zeroC Tryd.prog T_api_Name) T_api_Name) fun b7 w14 =>
  stN w14 ⟨b7, 0, none⟩ ⟨[.string r29_0_0, .string r29_0_1]⟩ 2 fun w15 =>
  withJ (fun (x0 : Bool) (w16 : World) =>
  J x0 w16) fun J_0 =>
  condB (r14_1 == (0 : Int)) (
  condB (r19_1 == (0 : Int)) (
  condB (r24_1 == (0 : Int)) (
  condB (r29_1 == (28 : Int)) (
  ldStr w15 ⟨b3, 0, none⟩ fun x47_0 =>
  ldStr w15 ⟨b3, 1, none⟩ fun x47_1 =>
  condB ((x47_0.toList == (⟨#[117]⟩ : ByteArray).toList) && ((x47_1.toList == (⟨#[97]⟩ : ByteArray).toList) && true)) (
  ldStr w15 ⟨b5, 0, none⟩ fun x52_0 =>
  ldStr w15 ⟨b5, 1, none⟩ fun x52_1 =>
  J_0 ((x52_0.toList == (⟨#[118]⟩ : ByteArray).toList) && ((x52_1.toList == (⟨#[97]⟩ : ByteArray).toList) && true)) w15) (
  J_0 false w15)) (
  J_0 false w15)) (
  J_0 false w15)) (
  J_0 false w15)) (
  J_0 false w15)
def ann_law04_awake : Ann := .s (.o) (.s (.o) (.s (.o) (.s (.o) (.s (.o) (.j [(0, .bool)] (.o) (.o))))))
theorem eq_law04_awake  (w : World) (J : Bool → World → Prop) : vcFun Tryd.prog Tryd.f14 ann_law04_awake [.one .bool] [] w J = VC_law04_awake  w J := by kernel_rfl
theorem c_law04_awake {w : World} {J : Bool → World → Prop} (h : VC_law04_awake  w J) : callJ Tryd.prog fn_law04_awake #[] w [.one .bool] J := vc_calls Tryd.func14 ann_law04_awake (Eq.mpr (eq_law04_awake  w J) h)

/-- lectern/lecternlaw04.doc -/
def VC_law04_doc (l0p : Option Addr) (l0l : Nat) (l0c : Nat) (w : World) (J : Option Addr → Nat → Nat → World → Prop) : Prop :=
  ∃ I_3 : Option Addr → Nat → Nat → Int → World → Nat → Prop, (∃ m : Nat, I_3 none 0 0 (0 : Int) w m) ∧ ∀ (out3p : Option Addr) (out3l : Nat) (out3c : Nat) (x8 : Int) (w1 : World) (m : Nat), I_3 out3p out3l out3c x8 w1 m → (
  condB (decide (x8 < ((l0l : Nat) : Int))) (
  idxA l0p l0l x8 fun a10 =>
  ldStr w1 ((a10.add (x8.toNat * 2))) fun x11_0 =>
  ldStr w1 (((a10.add (x8.toNat * 2)).add 1)) fun x11_1 =>
  newB w1 (.cells (zeroC Tryd.prog T_scan_Pair) T_scan_Pair) fun b5 w2 =>
  stN w2 ⟨b5, 0, none⟩ ⟨[.string x11_0, .string x11_1]⟩ 2 fun w3 =>
  ldStr w3 ⟨b5, 0, none⟩ fun x14 =>
  ldStr w3 ⟨b5, 1, none⟩ fun x16 =>
  Array.size (⟨[.string x14, .string x16]⟩ : Array Value) = 2 ∧
  newB w3 (.cells ⟨[.string x14, .string x16]⟩ T_ref03_Pair) fun b18 w4 =>
  appJ Tryd.prog T_sl_ref03_Pair T_sl_ref03_Pair (.slice out3p out3l out3c) (.slice (some ⟨b18, 0, none⟩) 1 1) w4 fun q19p q19l q19c w5 =>
  ∃ m' : Nat, m' < m ∧ I_3 q19p q19l q19c (w64 (x8 + (1 : Int))) w5 m') (
  J out3p out3l out3c w1))
def ann_law04_doc : Ann := .s (.o) (.s (.o) (.s (.s (.o) (.b (.l [(3, .slice), (8, .int .i64)] (.s (.o) (.s (.c (.o) (.o)) (.s (.b (.s (.o) (.o))) (.o))))))) (.s (.o) (.o))))
theorem eq_law04_doc (l0p : Option Addr) (l0l : Nat) (l0c : Nat) (w : World) (J : Option Addr → Nat → Nat → World → Prop) : vcFun Tryd.prog Tryd.f32 ann_law04_doc [.one .slice] [.slice l0p l0l l0c] w J = VC_law04_doc l0p l0l l0c w J := by kernel_rfl
theorem c_law04_doc {l0p : Option Addr} {l0l : Nat} {l0c : Nat} {w : World} {J : Option Addr → Nat → Nat → World → Prop} (h : VC_law04_doc l0p l0l l0c w J) : callJ Tryd.prog fn_law04_doc #[.slice l0p l0l l0c] w [.one .slice] J := vc_calls Tryd.func32 ann_law04_doc (Eq.mpr (eq_law04_doc l0p l0l l0c w J) h)

/-- lectern/lecternlaw04.opened -/
def VC_law04_opened (l0p : Option Addr) (l0l : Nat) (l0c : Nat) (w : World) (J : Option Addr → Nat → Nat → Option Addr → Nat → Nat → Option Addr → Nat → Nat → Bool → World → Prop) : Prop :=
  newB w (.cells (zeroC Tryd.prog T_scope_Scope) T_scope_Scope) fun b2 w1 =>
  newB w1 (.cells (zeroC Tryd.prog T_ref04_Scope) T_ref04_Scope) fun b3 w2 =>
  callJ Tryd.prog fn_scope_New #[] w2 [.agg [.slice]] fun (r13_0p : Option Addr) (r13_0l : Nat) (r13_0c : Nat) (w3 : World) =>
  newB w3 (.cells (zeroC Tryd.prog T_scope_Scope) T_scope_Scope) fun b5 w4 =>
  stN w4 ⟨b5, 0, none⟩ ⟨[.slice r13_0p r13_0l r13_0c]⟩ 1 fun w5 =>
  newB w5 (.cells (zeroC Tryd.prog T_ref04_Scope) T_ref04_Scope) fun b6 w6 =>
  stN w6 ⟨b6, 0, none⟩ ⟨[.slice none 0 0, .slice none 0 0]⟩ 2 fun w7 =>
  ∃ I_17 : Int → World → Nat → Prop, (∃ m : Nat, I_17 (0 : Int) w7 m) ∧ ∀ (x17 : Int) (w8 : World) (m : Nat), I_17 x17 w8 m → (
  condB (decide (x17 < ((l0l : Nat) : Int))) (
  withJ (fun (w9 : World) =>
  ∃ m' : Nat, m' < m ∧ I_17 (w64 (x17 + (1 : Int))) w9 m') fun J_0 =>
  idxA l0p l0l x17 fun a19 =>
  ldS w8 ((a19.add (x17.toNat * 1))) fun x20p x20l x20c =>
  ldS w8 ⟨b5, 0, none⟩ fun x22_0p x22_0l x22_0c =>
  callJ Tryd.prog fn_scope_Scope_Open #[.agg ⟨[.slice x22_0p x22_0l x22_0c]⟩, .slice x20p x20l x20c] w8 [.agg [.slice], .one (.int .i64)] fun (r24_0_0p : Option Addr) (r24_0_0l : Nat) (r24_0_0c : Nat) (r24_1 : Int) (w10 : World) =>
  newB w10 (.cells (zeroC Tryd.prog T_scope_Scope) T_scope_Scope) fun b9 w11 =>
  stN w11 ⟨b9, 0, none⟩ ⟨[.slice r24_0_0p r24_0_0l r24_0_0c]⟩ 1 fun w12 =>
  withJ (fun (y11 : Option Addr) (f12 : Int) (w13 : World) =>
  condB (r24_1 != f12) (
  ldS w13.drew ⟨b5, 0, none⟩ fun x37_0p x37_0l x37_0c =>
  ldS w13.drew ⟨b6, 0, none⟩ fun x38_0p x38_0l x38_0c =>
  ldS w13.drew ⟨b6, 1, none⟩ fun x38_1p x38_1l x38_1c =>
  stN w13.drew ⟨b2, 0, none⟩ ⟨[.slice x37_0p x37_0l x37_0c]⟩ 1 fun w14 =>
  cellsAt w14 ⟨b6, 0, none⟩ [.slice x38_0p x38_0l x38_0c, .slice x38_1p x38_1l x38_1c] ∧
  stN w14 ⟨b3, 0, none⟩ ⟨[.slice x38_0p x38_0l x38_0c, .slice x38_1p x38_1l x38_1c]⟩ 2 fun w15 =>
  ldS w15 ⟨b2, 0, none⟩ fun r_0p r_0l r_0c =>
  ldS w15 ⟨b3, 0, none⟩ fun r_0_1p r_0_1l r_0_1c =>
  ldS w15 ⟨b3, 1, none⟩ fun r_1p r_1l r_1c =>
  J r_0p r_0l r_0c r_0_1p r_0_1l r_0_1c r_1p r_1l r_1c false w15) (
  condB (r24_1 == (0 : Int)) (
  ldS w13.drew ⟨b9, 0, none⟩ fun x41_0p x41_0l x41_0c =>
  nonNil y11 fun a42 =>
  ldS w13.drew a42 fun x42_0p x42_0l x42_0c =>
  ldS w13.drew ((a42.add 1)) fun x42_1p x42_1l x42_1c =>
  stN w13.drew ⟨b5, 0, none⟩ ⟨[.slice x41_0p x41_0l x41_0c]⟩ 1 fun w16 =>
  cellsAt w16 a42 [.slice x42_0p x42_0l x42_0c, .slice x42_1p x42_1l x42_1c] ∧
  stN w16 ⟨b6, 0, none⟩ ⟨[.slice x42_0p x42_0l x42_0c, .slice x42_1p x42_1l x42_1c]⟩ 2 fun w17 =>
  J_0 w17) (
  J_0 w13))) fun J_11 =>
  ldS w12.drew ⟨b6, 0, none⟩ fun x28_0p x28_0l x28_0c =>
  ldS w12.drew ⟨b6, 1, none⟩ fun x28_1p x28_1l x28_1c =>
  (
  callJ Tryd.prog fn_law04_doc #[.slice x20p x20l x20c] w12.drew [.one .slice] fun (r30p : Option Addr) (r30l : Nat) (r30c : Nat) (w18 : World) =>
  cellsAt w18 ⟨b6, 0, none⟩ [.slice x28_0p x28_0l x28_0c, .slice x28_1p x28_1l x28_1c] ∧
  (
  callJ Tryd.prog fn_ref04_Open #[.agg ⟨[.slice x28_0p x28_0l x28_0c, .slice x28_1p x28_1l x28_1c]⟩, .slice r30p r30l r30c] w18 [.agg [.slice, .slice], .one (.int .i64)] fun (r31_0_0p : Option Addr) (r31_0_0l : Nat) (r31_0_0c : Nat) (r31_0_1p : Option Addr) (r31_0_1l : Nat) (r31_0_1c : Nat) (r31_1 : Int) (w19 : World) =>
  newB w19 (.cells (zeroC Tryd.prog T_ref04_Scope) T_ref04_Scope) fun b11 w20 =>
  cellsAt w20 ⟨b6, 0, none⟩ [.slice x28_0p x28_0l x28_0c, .slice x28_1p x28_1l x28_1c] ∧
  stN w20 ⟨b11, 0, none⟩ ⟨[.slice r31_0_0p r31_0_0l r31_0_0c, .slice r31_0_1p r31_0_1l r31_0_1c]⟩ 2 fun w21 =>
  J_11 (some ⟨b11, 0, none⟩) r31_1 w21) ∧ (
  newB w18 (.cells (zeroC Tryd.prog T_ref04_Scope) T_ref04_Scope) fun b11_1 w22 =>
  cellsAt w22 ⟨b6, 0, none⟩ [.slice x28_0p x28_0l x28_0c, .slice x28_1p x28_1l x28_1c] ∧
  callJ Tryd.prog fn_ref04_Open #[.agg ⟨[.slice x28_0p x28_0l x28_0c, .slice x28_1p x28_1l x28_1c]⟩, .slice r30p r30l r30c] w22 [.agg [.slice, .slice], .one (.int .i64)] fun (r31_0_1_0p : Option Addr) (r31_0_1_0l : Nat) (r31_0_1_0c : Nat) (r31_0_1_1p : Option Addr) (r31_0_1_1l : Nat) (r31_0_1_1c : Nat) (r31_1_1 : Int) (w23 : World) =>
  stN w23 ⟨b11_1, 0, none⟩ ⟨[.slice r31_0_1_0p r31_0_1_0l r31_0_1_0c, .slice r31_0_1_1p r31_0_1_1l r31_0_1_1c]⟩ 2 fun w24 =>
  J_11 (some ⟨b11_1, 0, none⟩) r31_1_1 w24)) ∧ (
  newB w12.drew (.cells (zeroC Tryd.prog T_ref04_Scope) T_ref04_Scope) fun b11_2 w25 =>
  cellsAt w25 ⟨b6, 0, none⟩ [.slice x28_0p x28_0l x28_0c, .slice x28_1p x28_1l x28_1c] ∧
  callJ Tryd.prog fn_law04_doc #[.slice x20p x20l x20c] w25 [.one .slice] fun (r30_1p : Option Addr) (r30_1l : Nat) (r30_1c : Nat) (w26 : World) =>
  cellsAt w26 ⟨b6, 0, none⟩ [.slice x28_0p x28_0l x28_0c, .slice x28_1p x28_1l x28_1c] ∧
  callJ Tryd.prog fn_ref04_Open #[.agg ⟨[.slice x28_0p x28_0l x28_0c, .slice x28_1p x28_1l x28_1c]⟩, .slice r30_1p r30_1l r30_1c] w26 [.agg [.slice, .slice], .one (.int .i64)] fun (r31_0_2_0p : Option Addr) (r31_0_2_0l : Nat) (r31_0_2_0c : Nat) (r31_0_2_1p : Option Addr) (r31_0_2_1l : Nat) (r31_0_2_1c : Nat) (r31_1_2 : Int) (w27 : World) =>
  stN w27 ⟨b11_2, 0, none⟩ ⟨[.slice r31_0_2_0p r31_0_2_0l r31_0_2_0c, .slice r31_0_2_1p r31_0_2_1l r31_0_2_1c]⟩ 2 fun w28 =>
  J_11 (some ⟨b11_2, 0, none⟩) r31_1_2 w28)) (
  ldS w8.drew ⟨b5, 0, none⟩ fun x44_0p x44_0l x44_0c =>
  ldS w8.drew ⟨b6, 0, none⟩ fun x45_0p x45_0l x45_0c =>
  ldS w8.drew ⟨b6, 1, none⟩ fun x45_1p x45_1l x45_1c =>
  stN w8.drew ⟨b2, 0, none⟩ ⟨[.slice x44_0p x44_0l x44_0c]⟩ 1 fun w29 =>
  cellsAt w29 ⟨b6, 0, none⟩ [.slice x45_0p x45_0l x45_0c, .slice x45_1p x45_1l x45_1c] ∧
  stN w29 ⟨b3, 0, none⟩ ⟨[.slice x45_0p x45_0l x45_0c, .slice x45_1p x45_1l x45_1c]⟩ 2 fun w30 =>
  ldS w30 ⟨b2, 0, none⟩ fun r_0_2p r_0_2l r_0_2c =>
  ldS w30 ⟨b3, 0, none⟩ fun r_0_3p r_0_3l r_0_3c =>
  ldS w30 ⟨b3, 1, none⟩ fun r_1_1p r_1_1l r_1_1c =>
  J r_0_2p r_0_2l r_0_2c r_0_3p r_0_3l r_0_3c r_1_1p r_1_1l r_1_1c true w30))
def ann_law04_opened : Ann := .s (.o) (.s (.o) (.s (.o) (.s (.s (.o) (.b (.l [(17, .int .i64)] (.s (.o) (.s (.c (.o) (.o)) (.j [] (.b (.s (.o) (.s (.o) (.j [(11, .ptr), (12, .int .i64)] (.d (.take 0 (.take 1 (.eff 2 (.eff 3 (.take 4 (.take 5 (.take 6 (.eff 7 (.eff 8 (.take 9 (.done)) (.none)) (.none))))) (.eff 7 (.eff 3 (.take 4 (.take 5 (.take 6 (.eff 8 (.take 9 (.done)) (.none))))) (.none)) (.none))) (.eff 7 (.eff 2 (.eff 3 (.take 4 (.take 5 (.take 6 (.eff 8 (.take 9 (.done)) (.none))))) (.none)) (.none)) (.none)))))) (.s (.s (.o) (.c (.s (.d (.take 0 (.take 1 (.eff 2 (.eff 3 (.take 4 (.done)) (.none)) (.none))))) (.o)) (.o))) (.s (.o) (.c (.d (.take 0 (.take 1 (.eff 2 (.eff 3 (.done) (.none)) (.none))))) (.o)))))))) (.o))))))) (.s (.d (.take 0 (.take 1 (.eff 2 (.eff 3 (.take 4 (.done)) (.none)) (.none))))) (.o)))))
theorem eq_law04_opened (l0p : Option Addr) (l0l : Nat) (l0c : Nat) (w : World) (J : Option Addr → Nat → Nat → Option Addr → Nat → Nat → Option Addr → Nat → Nat → Bool → World → Prop) : vcFun Tryd.prog Tryd.f15 ann_law04_opened [.agg [.slice], .agg [.slice, .slice], .one .bool] [.slice l0p l0l l0c] w J = VC_law04_opened l0p l0l l0c w J := by kernel_rfl
theorem c_law04_opened {l0p : Option Addr} {l0l : Nat} {l0c : Nat} {w : World} {J : Option Addr → Nat → Nat → Option Addr → Nat → Nat → Option Addr → Nat → Nat → Bool → World → Prop} (h : VC_law04_opened l0p l0l l0c w J) : callJ Tryd.prog fn_law04_opened #[.slice l0p l0l l0c] w [.agg [.slice], .agg [.slice, .slice], .one .bool] J := vc_calls Tryd.func15 ann_law04_opened (Eq.mpr (eq_law04_opened l0p l0l l0c w J) h)

/-- lectern/lecternlaw04.ScopeNames -/
def VC_law04_ScopeNames (l0p : Option Addr) (l0l : Nat) (l0c : Nat) (q1 : ByteArray) (w : World) (J : Bool → World → Prop) : Prop :=
  callJ Tryd.prog fn_law04_awake #[] w [.one .bool] fun (r12 : Bool) (w1 : World) =>
  condB (!r12) (
  J false w1) (
  callJ Tryd.prog fn_law04_opened #[.slice l0p l0l l0c] w1 [.agg [.slice], .agg [.slice, .slice], .one .bool] fun (r16_0_0p : Option Addr) (r16_0_0l : Nat) (r16_0_0c : Nat) (r16_1_0p : Option Addr) (r16_1_0l : Nat) (r16_1_0c : Nat) (r16_1_1p : Option Addr) (r16_1_1l : Nat) (r16_1_1c : Nat) (r16_2 : Bool) (w2 : World) =>
  newB w2 (.cells (zeroC Tryd.prog T_scope_Scope) T_scope_Scope) fun b5 w3 =>
  newB w3 (.cells (zeroC Tryd.prog T_ref04_Scope) T_ref04_Scope) fun b6 w4 =>
  stN w4 ⟨b5, 0, none⟩ ⟨[.slice r16_0_0p r16_0_0l r16_0_0c]⟩ 1 fun w5 =>
  stN w5 ⟨b6, 0, none⟩ ⟨[.slice r16_1_0p r16_1_0l r16_1_0c, .slice r16_1_1p r16_1_1l r16_1_1c]⟩ 2 fun w6 =>
  ldS w6 ⟨b5, 0, none⟩ fun x21_0p x21_0l x21_0c =>
  callJ Tryd.prog fn_scope_Scope_Element #[.agg ⟨[.slice x21_0p x21_0l x21_0c]⟩, .string q1] w6 [.agg [.str, .str], .one (.int .i64)] fun (r23_0_0 : ByteArray) (r23_0_1 : ByteArray) (r23_1 : Int) (w7 : World) =>
  newB w7 (.cells (zeroC Tryd.prog T_api_Name) T_api_Name) fun b8 w8 =>
  stN w8 ⟨b8, 0, none⟩ ⟨[.string r23_0_0, .string r23_0_1]⟩ 2 fun w9 =>
  ldS w9 ⟨b6, 0, none⟩ fun x27_0p x27_0l x27_0c =>
  ldS w9 ⟨b6, 1, none⟩ fun x27_1p x27_1l x27_1c =>
  callJ Tryd.prog fn_ref04_Element #[.agg ⟨[.slice x27_0p x27_0l x27_0c, .slice x27_1p x27_1l x27_1c]⟩, .string q1] w9 [.agg [.str, .str], .one (.int .i64)] fun (r29_0_0 : ByteArray) (r29_0_1 : ByteArray) (r29_1 : Int) (w10 : World) =>
  newB w10 (.cells (zeroC Tryd.prog T_api_Name) T_api_Name) fun b10 w11 =>
  stN w11 ⟨b10, 0, none⟩ ⟨[.string r29_0_0, .string r29_0_1]⟩ 2 fun w12 =>
  withJ (fun (x4 : Bool) (w13 : World) =>
  J x4 w13) fun J_4 =>
  condB r16_2 (
  ldStr w12 ⟨b8, 0, none⟩ fun x34_0 =>
  ldStr w12 ⟨b8, 1, none⟩ fun x34_1 =>
  ldStr w12 ⟨b10, 0, none⟩ fun x35_0 =>
  ldStr w12 ⟨b10, 1, none⟩ fun x35_1 =>
  condB ((x34_0.toList == x35_0.toList) && ((x34_1.toList == x35_1.toList) && true)) (
  J_4 (r23_1 == r29_1) w12) (
  J_4 false w12)) (
  J_4 false w12))
def ann_law04_ScopeNames : Ann := .s (.o) (.s (.s (.o) (.c (.s (.o) (.o)) (.o))) (.s (.o) (.s (.o) (.s (.o) (.j [(4, .bool)] (.o) (.o))))))
theorem eq_law04_ScopeNames (l0p : Option Addr) (l0l : Nat) (l0c : Nat) (q1 : ByteArray) (w : World) (J : Bool → World → Prop) : vcFun Tryd.prog Tryd.f3 ann_law04_ScopeNames [.one .bool] [.slice l0p l0l l0c, .string q1] w J = VC_law04_ScopeNames l0p l0l l0c q1 w J := by kernel_rfl
theorem c_law04_ScopeNames {l0p : Option Addr} {l0l : Nat} {l0c : Nat} {q1 : ByteArray} {w : World} {J : Bool → World → Prop} (h : VC_law04_ScopeNames l0p l0l l0c q1 w J) : callJ Tryd.prog fn_law04_ScopeNames #[.slice l0p l0l l0c, .string q1] w [.one .bool] J := vc_calls Tryd.func3 ann_law04_ScopeNames (Eq.mpr (eq_law04_ScopeNames l0p l0l l0c q1 w J) h)

/-- lectern/lecternlaw04.ScopeAttrs -/
def VC_law04_ScopeAttrs (l0p : Option Addr) (l0l : Nat) (l0c : Nat) (p1p : Option Addr) (p1l : Nat) (p1c : Nat) (w : World) (J : Bool → World → Prop) : Prop :=
  callJ Tryd.prog fn_law04_awake #[] w [.one .bool] fun (r14 : Bool) (w1 : World) =>
  condB (!r14) (
  J false w1) (
  callJ Tryd.prog fn_law04_opened #[.slice l0p l0l l0c] w1 [.agg [.slice], .agg [.slice, .slice], .one .bool] fun (r18_0_0p : Option Addr) (r18_0_0l : Nat) (r18_0_0c : Nat) (r18_1_0p : Option Addr) (r18_1_0l : Nat) (r18_1_0c : Nat) (r18_1_1p : Option Addr) (r18_1_1l : Nat) (r18_1_1c : Nat) (r18_2 : Bool) (w2 : World) =>
  newB w2 (.cells (zeroC Tryd.prog T_scope_Scope) T_scope_Scope) fun b5 w3 =>
  newB w3 (.cells (zeroC Tryd.prog T_ref04_Scope) T_ref04_Scope) fun b6 w4 =>
  stN w4 ⟨b5, 0, none⟩ ⟨[.slice r18_0_0p r18_0_0l r18_0_0c]⟩ 1 fun w5 =>
  stN w5 ⟨b6, 0, none⟩ ⟨[.slice r18_1_0p r18_1_0l r18_1_0c, .slice r18_1_1p r18_1_1l r18_1_1c]⟩ 2 fun w6 =>
  newB w6 (.cells ⟨[]⟩ T_scan_Pair) fun b22 w7 =>
  appJ Tryd.prog T_sl_scan_Pair T_sl_scan_Pair (.slice (some ⟨b22, 0, none⟩) 0 0) (.slice p1p p1l p1c) w7 fun q24p q24l q24c w8 =>
  ldS w8 ⟨b5, 0, none⟩ fun x26_0p x26_0l x26_0c =>
  callJ Tryd.prog fn_scope_Scope_Attrs #[.agg ⟨[.slice x26_0p x26_0l x26_0c]⟩, .slice q24p q24l q24c] w8 [.one .slice, .one (.int .i64)] fun (r28_0p : Option Addr) (r28_0l : Nat) (r28_0c : Nat) (r28_1 : Int) (w9 : World) =>
  ldS w9.drew ⟨b6, 0, none⟩ fun x32_0p x32_0l x32_0c =>
  ldS w9.drew ⟨b6, 1, none⟩ fun x32_1p x32_1l x32_1c =>
  callJ Tryd.prog fn_law04_doc #[.slice p1p p1l p1c] w9.drew [.one .slice] fun (r34p : Option Addr) (r34l : Nat) (r34c : Nat) (w10 : World) =>
  cellsAt w10 ⟨b6, 0, none⟩ [.slice x32_0p x32_0l x32_0c, .slice x32_1p x32_1l x32_1c] ∧
  callJ Tryd.prog fn_ref04_Attrs #[.agg ⟨[.slice x32_0p x32_0l x32_0c, .slice x32_1p x32_1l x32_1c]⟩, .slice r34p r34l r34c] w10 [.one .slice, .one (.int .i64)] fun (r35_0p : Option Addr) (r35_0l : Nat) (r35_0c : Nat) (r35_1 : Int) (w11 : World) =>
  withJ (fun (x50 : Bool) (w12 : World) =>
  condB x50 (
  J false w12) (
  ∃ I_53 : Int → World → Nat → Prop, (∃ m : Nat, I_53 (0 : Int) w12 m) ∧ ∀ (x53 : Int) (w13 : World) (m : Nat), I_53 x53 w13 m → (
  condB (decide (x53 < ((p1l : Nat) : Int))) (
  idxA q24p q24l x53 fun a58 =>
  ldStr w13.drew ((a58.add (x53.toNat * 2))) fun x59_0 =>
  ldStr w13.drew (((a58.add (x53.toNat * 2)).add 1)) fun x59_1 =>
  idxA p1p p1l x53 fun a62 =>
  ldStr w13.drew ((a62.add (x53.toNat * 2))) fun x63_0 =>
  ldStr w13.drew (((a62.add (x53.toNat * 2)).add 1)) fun x63_1 =>
  condB (!((x59_0.toList == x63_0.toList) && ((x59_1.toList == x63_1.toList) && true))) (
  J false w13.drew) (
  ∃ m' : Nat, m' < m ∧ I_53 (w64 (x53 + (1 : Int))) w13.drew m')) (
  J true w13)))) fun J_50 =>
  condB (!r18_2) (
  J_50 true w11) (
  condB (r28_1 != r35_1) (
  J_50 true w11) (
  callJ Tryd.prog fn_ref04_SameAttrs #[.slice r28_0p r28_0l r28_0c, .slice r35_0p r35_0l r35_0c] w11 [.one .bool] fun (r48 : Bool) (w14 : World) =>
  J_50 (!r48) w14)))
def ann_law04_ScopeAttrs : Ann := .s (.o) (.s (.s (.o) (.c (.s (.o) (.o)) (.o))) (.s (.o) (.s (.o) (.s (.o) (.s (.d (.take 0 (.take 1 (.eff 2 (.eff 3 (.take 4 (.take 5 (.take 6 (.take 7 (.take 8 (.done)))))) (.none)) (.none))))) (.s (.j [(50, .bool)] (.o) (.c (.s (.o) (.o)) (.o))) (.s (.s (.o) (.b (.l [(53, .int .i64)] (.s (.o) (.s (.c (.o) (.o)) (.s (.b (.s (.o) (.s (.d (.take 0 (.take 1 (.take 2 (.take 3 (.take 4 (.take 5 (.take 6 (.take 7 (.take 8 (.done))))))))))) (.c (.s (.o) (.o)) (.o))))) (.o))))))) (.s (.o) (.o)))))))))
theorem eq_law04_ScopeAttrs (l0p : Option Addr) (l0l : Nat) (l0c : Nat) (p1p : Option Addr) (p1l : Nat) (p1c : Nat) (w : World) (J : Bool → World → Prop) : vcFun Tryd.prog Tryd.f10 ann_law04_ScopeAttrs [.one .bool] [.slice l0p l0l l0c, .slice p1p p1l p1c] w J = VC_law04_ScopeAttrs l0p l0l l0c p1p p1l p1c w J := by kernel_rfl
theorem c_law04_ScopeAttrs {l0p : Option Addr} {l0l : Nat} {l0c : Nat} {p1p : Option Addr} {p1l : Nat} {p1c : Nat} {w : World} {J : Bool → World → Prop} (h : VC_law04_ScopeAttrs l0p l0l l0c p1p p1l p1c w J) : callJ Tryd.prog fn_law04_ScopeAttrs #[.slice l0p l0l l0c, .slice p1p p1l p1c] w [.one .bool] J := vc_calls Tryd.func10 ann_law04_ScopeAttrs (Eq.mpr (eq_law04_ScopeAttrs l0p l0l l0c p1p p1l p1c w J) h)

/-- lectern/lecternlaw04.ScopeRenames -/
def VC_law04_ScopeRenames (p0 : ByteArray) (q1 : ByteArray) (u2 : ByteArray) (local3 : ByteArray) (w : World) (J : Bool → World → Prop) : Prop :=
  callJ Tryd.prog fn_law04_awake #[] w [.one .bool] fun (r21 : Bool) (w1 : World) =>
  condB (!r21) (
  J false w1) (
  callJ Tryd.prog fn_scope_New #[] w1 [.agg [.slice]] fun (r24_0p : Option Addr) (r24_0l : Nat) (r24_0c : Nat) (w2 : World) =>
  (((⟨#[120, 109, 108, 110, 115, 58]⟩ : ByteArray).size + p0.size : Nat) : Int) ≤ 9223372036854775807 ∧
  Array.size (⟨[.string ((⟨#[120, 109, 108, 110, 115, 58]⟩ : ByteArray) ++ p0), .string u2]⟩ : Array Value) = 2 ∧
  newB w2 (.cells ⟨[.string ((⟨#[120, 109, 108, 110, 115, 58]⟩ : ByteArray) ++ p0), .string u2]⟩ T_scan_Pair) fun b29 w3 =>
  callJ Tryd.prog fn_scope_Scope_Open #[.agg ⟨[.slice r24_0p r24_0l r24_0c]⟩, .slice (some ⟨b29, 0, none⟩) 1 1] w3 [.agg [.slice], .one (.int .i64)] fun (r30_0_0p : Option Addr) (r30_0_0l : Nat) (r30_0_0c : Nat) (r30_1 : Int) (w4 : World) =>
  newB w4 (.cells (zeroC Tryd.prog T_scope_Scope) T_scope_Scope) fun b9 w5 =>
  stN w5 ⟨b9, 0, none⟩ ⟨[.slice r30_0_0p r30_0_0l r30_0_0c]⟩ 1 fun w6 =>
  callJ Tryd.prog fn_scope_New #[] w6 [.agg [.slice]] fun (r34_0p : Option Addr) (r34_0l : Nat) (r34_0c : Nat) (w7 : World) =>
  (((⟨#[120, 109, 108, 110, 115, 58]⟩ : ByteArray).size + q1.size : Nat) : Int) ≤ 9223372036854775807 ∧
  Array.size (⟨[.string ((⟨#[120, 109, 108, 110, 115, 58]⟩ : ByteArray) ++ q1), .string u2]⟩ : Array Value) = 2 ∧
  Array.size (⟨[.string ⟨#[120, 109, 108, 110, 115]⟩, .string ⟨#[111, 116, 104, 101, 114]⟩]⟩ : Array Value) = 2 ∧
  newB w7 (.cells ⟨[.string ((⟨#[120, 109, 108, 110, 115, 58]⟩ : ByteArray) ++ q1), .string u2, .string ⟨#[120, 109, 108, 110, 115]⟩, .string ⟨#[111, 116, 104, 101, 114]⟩]⟩ T_scan_Pair) fun b40 w8 =>
  callJ Tryd.prog fn_scope_Scope_Open #[.agg ⟨[.slice r34_0p r34_0l r34_0c]⟩, .slice (some ⟨b40, 0, none⟩) 2 2] w8 [.agg [.slice], .one (.int .i64)] fun (r41_0_0p : Option Addr) (r41_0_0l : Nat) (r41_0_0c : Nat) (r41_1 : Int) (w9 : World) =>
  newB w9 (.cells (zeroC Tryd.prog T_scope_Scope) T_scope_Scope) fun b11 w10 =>
  stN w10 ⟨b11, 0, none⟩ ⟨[.slice r41_0_0p r41_0_0l r41_0_0c]⟩ 1 fun w11 =>
  withJ (fun (x59 : Bool) (w12 : World) =>
  condB x59 (
  J true w12) (
  ldS w12 ⟨b9, 0, none⟩ fun x61_0p x61_0l x61_0c =>
  ((p0.size + (⟨#[58]⟩ : ByteArray).size : Nat) : Int) ≤ 9223372036854775807 ∧
  (((p0 ++ (⟨#[58]⟩ : ByteArray)).size + local3.size : Nat) : Int) ≤ 9223372036854775807 ∧
  callJ Tryd.prog fn_scope_Scope_Element #[.agg ⟨[.slice x61_0p x61_0l x61_0c]⟩, .string ((p0 ++ (⟨#[58]⟩ : ByteArray)) ++ local3)] w12 [.agg [.str, .str], .one (.int .i64)] fun (r66_0_0 : ByteArray) (r66_0_1 : ByteArray) (r66_1 : Int) (w13 : World) =>
  newB w13 (.cells (zeroC Tryd.prog T_api_Name) T_api_Name) fun b13 w14 =>
  stN w14 ⟨b13, 0, none⟩ ⟨[.string r66_0_0, .string r66_0_1]⟩ 2 fun w15 =>
  ldS w15 ⟨b11, 0, none⟩ fun x70_0p x70_0l x70_0c =>
  ((q1.size + (⟨#[58]⟩ : ByteArray).size : Nat) : Int) ≤ 9223372036854775807 ∧
  (((q1 ++ (⟨#[58]⟩ : ByteArray)).size + local3.size : Nat) : Int) ≤ 9223372036854775807 ∧
  callJ Tryd.prog fn_scope_Scope_Element #[.agg ⟨[.slice x70_0p x70_0l x70_0c]⟩, .string ((q1 ++ (⟨#[58]⟩ : ByteArray)) ++ local3)] w15 [.agg [.str, .str], .one (.int .i64)] fun (r75_0_0 : ByteArray) (r75_0_1 : ByteArray) (r75_1 : Int) (w16 : World) =>
  newB w16 (.cells (zeroC Tryd.prog T_api_Name) T_api_Name) fun b15 w17 =>
  stN w17 ⟨b15, 0, none⟩ ⟨[.string r75_0_0, .string r75_0_1]⟩ 2 fun w18 =>
  ldS w18 ⟨b9, 0, none⟩ fun x79_0p x79_0l x79_0c =>
  ((p0.size + (⟨#[58]⟩ : ByteArray).size : Nat) : Int) ≤ 9223372036854775807 ∧
  (((p0 ++ (⟨#[58]⟩ : ByteArray)).size + local3.size : Nat) : Int) ≤ 9223372036854775807 ∧
  Array.size (⟨[.string ((p0 ++ (⟨#[58]⟩ : ByteArray)) ++ local3), .string ⟨#[49]⟩]⟩ : Array Value) = 2 ∧
  newB w18 (.cells ⟨[.string ((p0 ++ (⟨#[58]⟩ : ByteArray)) ++ local3), .string ⟨#[49]⟩]⟩ T_scan_Pair) fun b85 w19 =>
  callJ Tryd.prog fn_scope_Scope_Attrs #[.agg ⟨[.slice x79_0p x79_0l x79_0c]⟩, .slice (some ⟨b85, 0, none⟩) 1 1] w19 [.one .slice, .one (.int .i64)] fun (r86_0p : Option Addr) (r86_0l : Nat) (r86_0c : Nat) (r86_1 : Int) (w20 : World) =>
  ldS w20 ⟨b11, 0, none⟩ fun x90_0p x90_0l x90_0c =>
  ((q1.size + (⟨#[58]⟩ : ByteArray).size : Nat) : Int) ≤ 9223372036854775807 ∧
  (((q1 ++ (⟨#[58]⟩ : ByteArray)).size + local3.size : Nat) : Int) ≤ 9223372036854775807 ∧
  Array.size (⟨[.string ((q1 ++ (⟨#[58]⟩ : ByteArray)) ++ local3), .string ⟨#[49]⟩]⟩ : Array Value) = 2 ∧
  newB w20 (.cells ⟨[.string ((q1 ++ (⟨#[58]⟩ : ByteArray)) ++ local3), .string ⟨#[49]⟩]⟩ T_scan_Pair) fun b96 w21 =>
  callJ Tryd.prog fn_scope_Scope_Attrs #[.agg ⟨[.slice x90_0p x90_0l x90_0c]⟩, .slice (some ⟨b96, 0, none⟩) 1 1] w21 [.one .slice, .one (.int .i64)] fun (r97_0p : Option Addr) (r97_0l : Nat) (r97_0c : Nat) (r97_1 : Int) (w22 : World) =>
  withJ (fun (x118 : Bool) (w23 : World) =>
  condB x118 (
  J false w23) (
  withJ (fun (x8 : Bool) (w24 : World) =>
  J x8 w24) fun J_8 =>
  condB (r66_1 == (0 : Int)) (
  ldStr w23 ⟨b13, 0, none⟩ fun x122_0 =>
  ldStr w23 ⟨b13, 1, none⟩ fun x122_1 =>
  condB ((x122_0.toList == u2.toList) && ((x122_1.toList == local3.toList) && true)) (
  J_8 true w23) (
  callJ Tryd.prog fn_ref01_Name #[.string local3] w23 [.one .bool] fun (r130 : Bool) (w25 : World) =>
  condB (!r130) (
  J_8 (r66_1 == (24 : Int)) w25) (
  J_8 false w25))) (
  callJ Tryd.prog fn_ref01_Name #[.string local3] w23 [.one .bool] fun (r130_1 : Bool) (w26 : World) =>
  condB (!r130_1) (
  J_8 (r66_1 == (24 : Int)) w26) (
  J_8 false w26)))) fun J_118 =>
  condB (r66_1 != r75_1) (
  J_118 true w22) (
  condB (r86_1 != r97_1) (
  J_118 true w22) (
  ldStr w22 ⟨b13, 0, none⟩ fun x109_0 =>
  ldStr w22 ⟨b13, 1, none⟩ fun x109_1 =>
  ldStr w22 ⟨b15, 0, none⟩ fun x110_0 =>
  ldStr w22 ⟨b15, 1, none⟩ fun x110_1 =>
  condB (!((x109_0.toList == x110_0.toList) && ((x109_1.toList == x110_1.toList) && true))) (
  J_118 true w22) (
  callJ Tryd.prog fn_ref04_SameAttrs #[.slice r86_0p r86_0l r86_0c, .slice r97_0p r97_0l r97_0c] w22 [.one .bool] fun (r116 : Bool) (w27 : World) =>
  J_118 (!r116) w27))))) fun J_59 =>
  condB (r30_1 != (0 : Int)) (
  J_59 true w11) (
  condB (r41_1 != (0 : Int)) (
  J_59 true w11) (
  callJ Tryd.prog fn_ref01_Name #[.string p0] w11 [.one .bool] fun (r52 : Bool) (w28 : World) =>
  condB (!r52) (
  J_59 true w28) (
  callJ Tryd.prog fn_ref01_Name #[.string q1] w28 [.one .bool] fun (r57 : Bool) (w29 : World) =>
  J_59 (!r57) w29))))
def ann_law04_ScopeRenames : Ann := .s (.o) (.s (.s (.o) (.c (.s (.o) (.o)) (.o))) (.s (.o) (.s (.o) (.s (.j [(59, .bool)] (.o) (.c (.s (.o) (.o)) (.o))) (.s (.o) (.s (.o) (.s (.o) (.s (.o) (.s (.j [(118, .bool)] (.o) (.c (.s (.o) (.o)) (.o))) (.j [(8, .bool)] (.o) (.o)))))))))))
theorem eq_law04_ScopeRenames (p0 : ByteArray) (q1 : ByteArray) (u2 : ByteArray) (local3 : ByteArray) (w : World) (J : Bool → World → Prop) : vcFun Tryd.prog Tryd.f11 ann_law04_ScopeRenames [.one .bool] [.string p0, .string q1, .string u2, .string local3] w J = VC_law04_ScopeRenames p0 q1 u2 local3 w J := by kernel_rfl
theorem c_law04_ScopeRenames {p0 : ByteArray} {q1 : ByteArray} {u2 : ByteArray} {local3 : ByteArray} {w : World} {J : Bool → World → Prop} (h : VC_law04_ScopeRenames p0 q1 u2 local3 w J) : callJ Tryd.prog fn_law04_ScopeRenames #[.string p0, .string q1, .string u2, .string local3] w [.one .bool] J := vc_calls Tryd.func11 ann_law04_ScopeRenames (Eq.mpr (eq_law04_ScopeRenames p0 q1 u2 local3 w J) h)

/-- lectern/lecternlaw04.ScopeOrders -/
def VC_law04_ScopeOrders (l0p : Option Addr) (l0l : Nat) (l0c : Nat) (p1p : Option Addr) (p1l : Nat) (p1c : Nat) (w : World) (J : Bool → World → Prop) : Prop :=
  callJ Tryd.prog fn_law04_awake #[] w [.one .bool] fun (r15 : Bool) (w1 : World) =>
  condB (!r15) (
  J false w1) (
  callJ Tryd.prog fn_law04_opened #[.slice l0p l0l l0c] w1 [.agg [.slice], .agg [.slice, .slice], .one .bool] fun (r19_0_0p : Option Addr) (r19_0_0l : Nat) (r19_0_0c : Nat) (r19_1_0p : Option Addr) (r19_1_0l : Nat) (r19_1_0c : Nat) (r19_1_1p : Option Addr) (r19_1_1l : Nat) (r19_1_1c : Nat) (r19_2 : Bool) (w2 : World) =>
  newB w2 (.cells (zeroC Tryd.prog T_scope_Scope) T_scope_Scope) fun b5 w3 =>
  newB w3 (.cells (zeroC Tryd.prog T_ref04_Scope) T_ref04_Scope) fun b6 w4 =>
  stN w4 ⟨b5, 0, none⟩ ⟨[.slice r19_0_0p r19_0_0l r19_0_0c]⟩ 1 fun w5 =>
  stN w5 ⟨b6, 0, none⟩ ⟨[.slice r19_1_0p r19_1_0l r19_1_0c, .slice r19_1_1p r19_1_1l r19_1_1c]⟩ 2 fun w6 =>
  newB w6 (.cells ⟨[]⟩ T_scan_Pair) fun b23 w7 =>
  ∃ I_8 : Option Addr → Nat → Nat → Int → World → Nat → Prop, (∃ m : Nat, I_8 (some ⟨b23, 0, none⟩) 0 0 (w64 (((p1l : Nat) : Int) - (1 : Int))) w7 m) ∧ ∀ (back8p : Option Addr) (back8l : Nat) (back8c : Nat) (i9 : Int) (w8 : World) (m : Nat), I_8 back8p back8l back8c i9 w8 m → (
  condB (decide (i9 ≥ (0 : Int))) (
  idxA p1p p1l i9 fun a34 =>
  ldStr w8 ((a34.add (i9.toNat * 2))) fun x35_0 =>
  ldStr w8 (((a34.add (i9.toNat * 2)).add 1)) fun x35_1 =>
  Array.size (⟨[.string x35_0, .string x35_1]⟩ : Array Value) = 2 ∧
  newB w8 (.cells ⟨[.string x35_0, .string x35_1]⟩ T_scan_Pair) fun b36 w9 =>
  appJ Tryd.prog T_sl_scan_Pair T_sl_scan_Pair (.slice back8p back8l back8c) (.slice (some ⟨b36, 0, none⟩) 1 1) w9 fun q37p q37l q37c w10 =>
  ∃ m' : Nat, m' < m ∧ I_8 q37p q37l q37c (w64 (i9 - (1 : Int))) w10 m') (
  ldS w8 ⟨b5, 0, none⟩ fun x39_0p x39_0l x39_0c =>
  callJ Tryd.prog fn_scope_Scope_Attrs #[.agg ⟨[.slice x39_0p x39_0l x39_0c]⟩, .slice p1p p1l p1c] w8 [.one .slice, .one (.int .i64)] fun (r41_0p : Option Addr) (r41_0l : Nat) (r41_0c : Nat) (r41_1 : Int) (w11 : World) =>
  ldS w11 ⟨b5, 0, none⟩ fun x45_0p x45_0l x45_0c =>
  callJ Tryd.prog fn_scope_Scope_Attrs #[.agg ⟨[.slice x45_0p x45_0l x45_0c]⟩, .slice back8p back8l back8c] w11 [.one .slice, .one (.int .i64)] fun (r47_0p : Option Addr) (r47_0l : Nat) (r47_0c : Nat) (r47_1 : Int) (w12 : World) =>
  withJ (fun (x73 : Bool) (w13 : World) =>
  condB x73 (
  J false w13) (
  ∃ I_76 : Int → World → Nat → Prop, (∃ m : Nat, I_76 (0 : Int) w13 m) ∧ ∀ (x76 : Int) (w14 : World) (m_1 : Nat), I_76 x76 w14 m_1 → (
  condB (decide (x76 < ((r41_0l : Nat) : Int))) (
  withJ (fun (x105 : Bool) (w15 : World) =>
  condB x105 (
  J false w15) (
  ∃ m' : Nat, m' < m_1 ∧ I_76 (w64 (x76 + (1 : Int))) w15 m')) fun J_105 =>
  condB (decide (x76 > (0 : Int))) (
  idxA r41_0p r41_0l (w64 (x76 - (1 : Int))) fun a85 =>
  ldStr w14.drew ((a85.add ((w64 (x76 - (1 : Int))).toNat * 3))) fun x87_0 =>
  ldStr w14.drew (((a85.add ((w64 (x76 - (1 : Int))).toNat * 3)).add 1)) fun x87_1 =>
  idxA r41_0p r41_0l x76 fun a90 =>
  ldStr w14.drew ((a90.add (x76.toNat * 3))) fun x92_0 =>
  ldStr w14.drew (((a90.add (x76.toNat * 3)).add 1)) fun x92_1 =>
  callJ Tryd.prog fn_ref04_Before #[.agg ⟨[.string x87_0, .string x87_1]⟩, .agg ⟨[.string x92_0, .string x92_1]⟩] w14.drew [.one .bool] fun (r93 : Bool) (w16 : World) =>
  condB (!r93) (
  J_105 true w16) (
  idxA r41_0p r41_0l x76 fun a99 =>
  ldStr w16 (((a99.add (x76.toNat * 3)).add 1)) fun x102 =>
  callJ Tryd.prog fn_ref01_Name #[.string x102] w16 [.one .bool] fun (r103 : Bool) (w17 : World) =>
  J_105 (!r103) w17)) (
  idxA r41_0p r41_0l x76 fun a99_1 =>
  ldStr w14.drew (((a99_1.add (x76.toNat * 3)).add 1)) fun x102_1 =>
  callJ Tryd.prog fn_ref01_Name #[.string x102_1] w14.drew [.one .bool] fun (r103_1 : Bool) (w18 : World) =>
  J_105 (!r103_1) w18)) (
  J (decide (((r41_0l : Nat) : Int) ≤ ((p1l : Nat) : Int))) w14)))) fun J_73 =>
  condB (!((r41_1 == (0 : Int)) == (r47_1 == (0 : Int)))) (
  J_73 true w12) (
  condB (r41_1 == (0 : Int)) (
  callJ Tryd.prog fn_ref04_SameAttrs #[.slice r41_0p r41_0l r41_0c, .slice r47_0p r47_0l r47_0c] w12 [.one .bool] fun (r61 : Bool) (w19 : World) =>
  condB (!r61) (
  J_73 true w19) (
  condB (r41_1 != (0 : Int)) (
  J_73 (decide (((r41_0l : Nat) : Int) > (0 : Int))) w19) (
  J_73 false w19))) (
  condB (r41_1 != (0 : Int)) (
  J_73 (decide (((r41_0l : Nat) : Int) > (0 : Int))) w12) (
  J_73 false w12))))))
def ann_law04_ScopeOrders : Ann := .s (.o) (.s (.s (.o) (.c (.s (.o) (.o)) (.o))) (.s (.o) (.s (.o) (.s (.s (.o) (.b (.l [(8, .slice), (9, .int .i64)] (.s (.s (.o) (.c (.o) (.o))) (.s (.b (.o)) (.o)))))) (.s (.o) (.s (.o) (.s (.j [(73, .bool)] (.o) (.c (.s (.o) (.o)) (.o))) (.s (.s (.o) (.b (.l [(76, .int .i64)] (.s (.o) (.s (.c (.o) (.o)) (.s (.b (.s (.o) (.j [(105, .bool)] (.d (.take 0 (.take 1 (.take 2 (.take 3 (.take 4 (.take 5 (.take 6 (.take 7 (.take 8 (.take 9 (.take 10 (.take 11 (.take 12 (.take 13 (.eff 14 (.take 15 (.take 16 (.take 17 (.take 18 (.take 19 (.take 20 (.take 21 (.take 22 (.take 23 (.eff 24 (.take 25 (.take 26 (.done))) (.none))))))))))) (.none))))))))))))))))) (.c (.s (.o) (.o)) (.o))))) (.o))))))) (.s (.o) (.o))))))))))
theorem eq_law04_ScopeOrders (l0p : Option Addr) (l0l : Nat) (l0c : Nat) (p1p : Option Addr) (p1l : Nat) (p1c : Nat) (w : World) (J : Bool → World → Prop) : vcFun Tryd.prog Tryd.f12 ann_law04_ScopeOrders [.one .bool] [.slice l0p l0l l0c, .slice p1p p1l p1c] w J = VC_law04_ScopeOrders l0p l0l l0c p1p p1l p1c w J := by kernel_rfl
theorem c_law04_ScopeOrders {l0p : Option Addr} {l0l : Nat} {l0c : Nat} {p1p : Option Addr} {p1l : Nat} {p1c : Nat} {w : World} {J : Bool → World → Prop} (h : VC_law04_ScopeOrders l0p l0l l0c p1p p1l p1c w J) : callJ Tryd.prog fn_law04_ScopeOrders #[.slice l0p l0l l0c, .slice p1p p1l p1c] w [.one .bool] J := vc_calls Tryd.func12 ann_law04_ScopeOrders (Eq.mpr (eq_law04_ScopeOrders l0p l0l l0c p1p p1l p1c w J) h)

/-- lectern/lecternlaw04.ScopeOpens -/
def VC_law04_ScopeOpens (l0p : Option Addr) (l0l : Nat) (l0c : Nat) (prefix1 : ByteArray) (w : World) (J : Bool → World → Prop) : Prop :=
  callJ Tryd.prog fn_law04_awake #[] w [.one .bool] fun (r17 : Bool) (w1 : World) =>
  condB (!r17) (
  J false w1) (
  callJ Tryd.prog fn_law04_opened #[.slice l0p l0l l0c] w1 [.agg [.slice], .agg [.slice, .slice], .one .bool] fun (r21_0_0p : Option Addr) (r21_0_0l : Nat) (r21_0_0c : Nat) (r21_1_0p : Option Addr) (r21_1_0l : Nat) (r21_1_0c : Nat) (r21_1_1p : Option Addr) (r21_1_1l : Nat) (r21_1_1c : Nat) (r21_2 : Bool) (w2 : World) =>
  newB w2 (.cells (zeroC Tryd.prog T_scope_Scope) T_scope_Scope) fun b5 w3 =>
  newB w3 (.cells (zeroC Tryd.prog T_ref04_Scope) T_ref04_Scope) fun b6 w4 =>
  stN w4 ⟨b5, 0, none⟩ ⟨[.slice r21_0_0p r21_0_0l r21_0_0c]⟩ 1 fun w5 =>
  stN w5 ⟨b6, 0, none⟩ ⟨[.slice r21_1_0p r21_1_0l r21_1_0c, .slice r21_1_1p r21_1_1l r21_1_1c]⟩ 2 fun w6 =>
  condB (!r21_2) (
  J false w6) (
  ldS w6 ⟨b5, 0, none⟩ fun x27_0p x27_0l x27_0c =>
  callJ Tryd.prog fn_scope_Scope_Prefixes #[.agg ⟨[.slice x27_0p x27_0l x27_0c]⟩] w6 [.one .slice] fun (r28p : Option Addr) (r28l : Nat) (r28c : Nat) (w7 : World) =>
  newB w7 (.cells ⟨[.string prefix1, .string ⟨#[]⟩, .string ⟨#[120, 109, 108]⟩, .string ⟨#[120, 109, 108, 110, 115]⟩, .string ⟨#[112]⟩]⟩ T_string) fun b30 w8 =>
  appJ Tryd.prog T_sl_string T_sl_string (.slice r28p r28l r28c) (.slice (some ⟨b30, 0, none⟩) 5 5) w8 fun q31p q31l q31c w9 =>
  ∃ I_33 : Int → World → Nat → Prop, (∃ m : Nat, I_33 (0 : Int) w9 m) ∧ ∀ (x33 : Int) (w10 : World) (m : Nat), I_33 x33 w10 m → (
  condB (decide (x33 < ((q31l : Nat) : Int))) (
  idxA q31p q31l x33 fun a35 =>
  ldStr w10 ((a35.add (x33.toNat * 1))) fun x36 =>
  ldS w10 ⟨b5, 0, none⟩ fun x38_0p x38_0l x38_0c =>
  callJ Tryd.prog fn_scope_Scope_Bound #[.agg ⟨[.slice x38_0p x38_0l x38_0c]⟩, .string x36] w10 [.one .str, .one .bool] fun (r40_0 : ByteArray) (r40_1 : Bool) (w11 : World) =>
  ldS w11 ⟨b6, 0, none⟩ fun x44_0p x44_0l x44_0c =>
  ldS w11 ⟨b6, 1, none⟩ fun x44_1p x44_1l x44_1c =>
  callJ Tryd.prog fn_ref04_Bound #[.agg ⟨[.slice x44_0p x44_0l x44_0c, .slice x44_1p x44_1l x44_1c]⟩, .string x36] w11 [.one .str, .one .bool] fun (r46_0 : ByteArray) (r46_1 : Bool) (w12 : World) =>
  withJ (fun (x56 : Bool) (w13 : World) =>
  condB x56 (
  J false w13) (
  ∃ m' : Nat, m' < m ∧ I_33 (w64 (x33 + (1 : Int))) w13 m')) fun J_56 =>
  condB (!(r40_0.toList == r46_0.toList)) (
  J_56 true w12) (
  J_56 (!(r40_1 == r46_1)) w12)) (
  ldS w10.drew ⟨b5, 0, none⟩ fun x58_0p x58_0l x58_0c =>
  ldS w10.drew ⟨b6, 0, none⟩ fun x60_0p x60_0l x60_0c =>
  ldS w10.drew ⟨b6, 1, none⟩ fun x60_1p x60_1l x60_1c =>
  callJ Tryd.prog fn_scope_Scope_Prefixes #[.agg ⟨[.slice x58_0p x58_0l x58_0c]⟩] w10.drew [.one .slice] fun (r59p : Option Addr) (r59l : Nat) (r59c : Nat) (w14 : World) =>
  cellsAt w14 ⟨b6, 0, none⟩ [.slice x60_0p x60_0l x60_0c, .slice x60_1p x60_1l x60_1c] ∧
  callJ Tryd.prog fn_ref04_Prefixes #[.agg ⟨[.slice x60_0p x60_0l x60_0c, .slice x60_1p x60_1l x60_1c]⟩] w14 [.one .slice] fun (r61p : Option Addr) (r61l : Nat) (r61c : Nat) (w15 : World) =>
  condB (((r59l : Nat) : Int) != ((r61l : Nat) : Int)) (
  J false w15) (
  ∃ I_69 : Int → World → Nat → Prop, (∃ m : Nat, I_69 (0 : Int) w15 m) ∧ ∀ (x69 : Int) (w16 : World) (m_1 : Nat), I_69 x69 w16 m_1 → (
  condB (decide (x69 < ((r59l : Nat) : Int))) (
  idxA r59p r59l x69 fun a74 =>
  ldStr w16.drew ((a74.add (x69.toNat * 1))) fun x75 =>
  idxA r61p r61l x69 fun a78 =>
  ldStr w16.drew ((a78.add (x69.toNat * 1))) fun x79 =>
  condB (!(x75.toList == x79.toList)) (
  J false w16.drew) (
  ∃ m' : Nat, m' < m_1 ∧ I_69 (w64 (x69 + (1 : Int))) w16.drew m')) (
  J true w16)))))))
def ann_law04_ScopeOpens : Ann := .s (.o) (.s (.s (.o) (.c (.s (.o) (.o)) (.o))) (.s (.o) (.s (.s (.o) (.c (.s (.o) (.o)) (.o))) (.s (.s (.o) (.b (.l [(33, .int .i64)] (.s (.o) (.s (.c (.o) (.o)) (.s (.b (.s (.o) (.s (.o) (.s (.o) (.j [(56, .bool)] (.o) (.c (.s (.o) (.o)) (.o))))))) (.o))))))) (.s (.d (.take 0 (.take 2 (.eff 1 (.eff 3 (.take 4 (.take 5 (.done))) (.none)) (.none))))) (.s (.s (.o) (.c (.s (.o) (.o)) (.o))) (.s (.s (.o) (.b (.l [(69, .int .i64)] (.s (.o) (.s (.c (.o) (.o)) (.s (.b (.s (.o) (.s (.d (.take 0 (.take 1 (.take 2 (.take 3 (.take 4 (.take 5 (.take 6 (.take 7 (.take 8 (.done))))))))))) (.c (.s (.o) (.o)) (.o))))) (.o))))))) (.s (.o) (.o)))))))))
theorem eq_law04_ScopeOpens (l0p : Option Addr) (l0l : Nat) (l0c : Nat) (prefix1 : ByteArray) (w : World) (J : Bool → World → Prop) : vcFun Tryd.prog Tryd.f13 ann_law04_ScopeOpens [.one .bool] [.slice l0p l0l l0c, .string prefix1] w J = VC_law04_ScopeOpens l0p l0l l0c prefix1 w J := by kernel_rfl
theorem c_law04_ScopeOpens {l0p : Option Addr} {l0l : Nat} {l0c : Nat} {prefix1 : ByteArray} {w : World} {J : Bool → World → Prop} (h : VC_law04_ScopeOpens l0p l0l l0c prefix1 w J) : callJ Tryd.prog fn_law04_ScopeOpens #[.slice l0p l0l l0c, .string prefix1] w [.one .bool] J := vc_calls Tryd.func13 ann_law04_ScopeOpens (Eq.mpr (eq_law04_ScopeOpens l0p l0l l0c prefix1 w J) h)

end Go.Proofs.YtdjehimkijlhgaaDoor
