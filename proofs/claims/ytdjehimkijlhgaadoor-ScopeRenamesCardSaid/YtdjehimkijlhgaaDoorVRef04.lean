/- What the conditions of these functions are, reckoned by the reading; printed by program. -/
import Derived.Test.YtdjehimkijlhgaaDoorNm
import Derived.KernelRfl
set_option maxRecDepth 100000
set_option linter.unusedVariables false
namespace Go.Proofs.YtdjehimkijlhgaaDoor
open Go Go.Vc

/-- lectern/lecternref04.Element -/
def VC_ref04_Element (s0_0p : Option Addr) (s0_0l : Nat) (s0_0c : Nat) (s0_1p : Option Addr) (s0_1l : Nat) (s0_1c : Nat) (q1 : ByteArray) (w : World) (J : ByteArray → ByteArray → Int → World → Prop) : Prop :=
  newB w (.cells ⟨[.slice s0_0p s0_0l s0_0c, .slice s0_1p s0_1l s0_1c]⟩ T_ref04_Scope) fun b2 w1 =>
  newB w1 (.cells (zeroC Tryd.prog T_api_Name) T_api_Name) fun b4 w2 =>
  callJ Tryd.prog fn_ref01_Split #[.string q1] w2 [.one .str, .one .str, .one .bool] fun (r12_0 : ByteArray) (r12_1 : ByteArray) (r12_2 : Bool) (w3 : World) =>
  condB (!r12_2) (
  stN w3 ⟨b4, 0, none⟩ ⟨[.string ByteArray.empty, .string ByteArray.empty]⟩ 2 fun w4 =>
  ldStr w4 ⟨b4, 0, none⟩ fun r_0 =>
  ldStr w4 ⟨b4, 1, none⟩ fun r_1 =>
  J r_0 r_1 (24 : Int) w4) (
  condB (r12_0.toList == (⟨#[120, 109, 108, 110, 115]⟩ : ByteArray).toList) (
  stN w3 ⟨b4, 0, none⟩ ⟨[.string ByteArray.empty, .string ByteArray.empty]⟩ 2 fun w5 =>
  ldStr w5 ⟨b4, 0, none⟩ fun r_0_1 =>
  ldStr w5 ⟨b4, 1, none⟩ fun r_1_1 =>
  J r_0_1 r_1_1 (29 : Int) w5) (
  ldS w3 ⟨b2, 0, none⟩ fun x23_0p x23_0l x23_0c =>
  ldS w3 ⟨b2, 1, none⟩ fun x23_1p x23_1l x23_1c =>
  callJ Tryd.prog fn_ref04_Bound #[.agg ⟨[.slice x23_0p x23_0l x23_0c, .slice x23_1p x23_1l x23_1c]⟩, .string r12_0] w3 [.one .str, .one .bool] fun (r25_0 : ByteArray) (r25_1 : Bool) (w6 : World) =>
  condB (!r25_1) (
  stN w6 ⟨b4, 0, none⟩ ⟨[.string ByteArray.empty, .string ByteArray.empty]⟩ 2 fun w7 =>
  ldStr w7 ⟨b4, 0, none⟩ fun r_0_2 =>
  ldStr w7 ⟨b4, 1, none⟩ fun r_1_2 =>
  J r_0_2 r_1_2 (28 : Int) w7) (
  stN w6 ⟨b4, 0, none⟩ ⟨[.string r25_0, .string r12_1]⟩ 2 fun w8 =>
  ldStr w8 ⟨b4, 0, none⟩ fun r_0_3 =>
  ldStr w8 ⟨b4, 1, none⟩ fun r_1_3 =>
  J r_0_3 r_1_3 (0 : Int) w8)))
def ann_ref04_Element : Ann := .s (.o) (.s (.o) (.s (.s (.o) (.c (.s (.o) (.o)) (.o))) (.s (.s (.o) (.c (.s (.o) (.o)) (.o))) (.s (.o) (.s (.s (.o) (.c (.s (.o) (.o)) (.o))) (.s (.o) (.o)))))))
theorem eq_ref04_Element (s0_0p : Option Addr) (s0_0l : Nat) (s0_0c : Nat) (s0_1p : Option Addr) (s0_1l : Nat) (s0_1c : Nat) (q1 : ByteArray) (w : World) (J : ByteArray → ByteArray → Int → World → Prop) : vcFun Tryd.prog Tryd.f17 ann_ref04_Element [.agg [.str, .str], .one (.int .i64)] [.agg ⟨[.slice s0_0p s0_0l s0_0c, .slice s0_1p s0_1l s0_1c]⟩, .string q1] w J = VC_ref04_Element s0_0p s0_0l s0_0c s0_1p s0_1l s0_1c q1 w J := by kernel_rfl
theorem c_ref04_Element {s0_0p : Option Addr} {s0_0l : Nat} {s0_0c : Nat} {s0_1p : Option Addr} {s0_1l : Nat} {s0_1c : Nat} {q1 : ByteArray} {w : World} {J : ByteArray → ByteArray → Int → World → Prop} (h : VC_ref04_Element s0_0p s0_0l s0_0c s0_1p s0_1l s0_1c q1 w J) : callJ Tryd.prog fn_ref04_Element #[.agg ⟨[.slice s0_0p s0_0l s0_0c, .slice s0_1p s0_1l s0_1c]⟩, .string q1] w [.agg [.str, .str], .one (.int .i64)] J := vc_calls Tryd.func17 ann_ref04_Element (Eq.mpr (eq_ref04_Element s0_0p s0_0l s0_0c s0_1p s0_1l s0_1c q1 w J) h)

/-- lectern/lecternref04.Bound -/
def VC_ref04_Bound (s0_0p : Option Addr) (s0_0l : Nat) (s0_0c : Nat) (s0_1p : Option Addr) (s0_1l : Nat) (s0_1c : Nat) (prefix1 : ByteArray) (w : World) (J : ByteArray → Bool → World → Prop) : Prop :=
  newB w (.cells ⟨[.slice s0_0p s0_0l s0_0c, .slice s0_1p s0_1l s0_1c]⟩ T_ref04_Scope) fun b2 w1 =>
  condB (prefix1.toList == (⟨#[120, 109, 108]⟩ : ByteArray).toList) (
  J ⟨#[104, 116, 116, 112, 58, 47, 47, 119, 119, 119, 46, 119, 51, 46, 111, 114, 103, 47, 88, 77, 76, 47, 49, 57, 57, 56, 47, 110, 97, 109, 101, 115, 112, 97, 99, 101]⟩ true w1) (
  ldS w1 ⟨b2, 0, none⟩ fun x10p x10l x10c =>
  ∃ I_6 : Int → World → Nat → Prop, (∃ m : Nat, I_6 (w64 (((x10l : Nat) : Int) - (1 : Int))) w1 m) ∧ ∀ (i6 : Int) (w2 : World) (m : Nat), I_6 i6 w2 m → (
  condB (decide (i6 ≥ (0 : Int))) (
  ldS w2 ⟨b2, 0, none⟩ fun x18p x18l x18c =>
  idxA x18p x18l i6 fun a20 =>
  ldStr w2 ((a20.add (i6.toNat * 1))) fun x21 =>
  condB (x21.toList == prefix1.toList) (
  ldS w2 ⟨b2, 1, none⟩ fun x25p x25l x25c =>
  idxA x25p x25l i6 fun a27 =>
  ldStr w2 ((a27.add (i6.toNat * 1))) fun x28 =>
  J x28 true w2) (
  ∃ m' : Nat, m' < m ∧ I_6 (w64 (i6 - (1 : Int))) w2 m')) (
  J ⟨#[]⟩ (prefix1.toList == (⟨#[]⟩ : ByteArray).toList) w2)))
def ann_ref04_Bound : Ann := .s (.o) (.s (.s (.o) (.c (.s (.o) (.o)) (.o))) (.s (.s (.o) (.b (.l [(6, .int .i64)] (.s (.s (.o) (.c (.o) (.o))) (.s (.b (.s (.o) (.c (.s (.o) (.o)) (.o)))) (.o)))))) (.s (.o) (.o))))
theorem eq_ref04_Bound (s0_0p : Option Addr) (s0_0l : Nat) (s0_0c : Nat) (s0_1p : Option Addr) (s0_1l : Nat) (s0_1c : Nat) (prefix1 : ByteArray) (w : World) (J : ByteArray → Bool → World → Prop) : vcFun Tryd.prog Tryd.f40 ann_ref04_Bound [.one .str, .one .bool] [.agg ⟨[.slice s0_0p s0_0l s0_0c, .slice s0_1p s0_1l s0_1c]⟩, .string prefix1] w J = VC_ref04_Bound s0_0p s0_0l s0_0c s0_1p s0_1l s0_1c prefix1 w J := by kernel_rfl
theorem c_ref04_Bound {s0_0p : Option Addr} {s0_0l : Nat} {s0_0c : Nat} {s0_1p : Option Addr} {s0_1l : Nat} {s0_1c : Nat} {prefix1 : ByteArray} {w : World} {J : ByteArray → Bool → World → Prop} (h : VC_ref04_Bound s0_0p s0_0l s0_0c s0_1p s0_1l s0_1c prefix1 w J) : callJ Tryd.prog fn_ref04_Bound #[.agg ⟨[.slice s0_0p s0_0l s0_0c, .slice s0_1p s0_1l s0_1c]⟩, .string prefix1] w [.one .str, .one .bool] J := vc_calls Tryd.func40 ann_ref04_Bound (Eq.mpr (eq_ref04_Bound s0_0p s0_0l s0_0c s0_1p s0_1l s0_1c prefix1 w J) h)

/-- lectern/lecternref04.Open -/
def VC_ref04_Open (s0_0p : Option Addr) (s0_0l : Nat) (s0_0c : Nat) (s0_1p : Option Addr) (s0_1l : Nat) (s0_1c : Nat) (l1p : Option Addr) (l1l : Nat) (l1c : Nat) (w : World) (J : Option Addr → Nat → Nat → Option Addr → Nat → Nat → Int → World → Prop) : Prop :=
  newB w (.cells ⟨[.slice s0_0p s0_0l s0_0c, .slice s0_1p s0_1l s0_1c]⟩ T_ref04_Scope) fun b2 w1 =>
  newB w1 (.cells (zeroC Tryd.prog T_ref04_Scope) T_ref04_Scope) fun b4 w2 =>
  withJ (fun (out6 : Option Addr) (w3 : World) =>
  newB w3 (.cells ⟨[]⟩ T_string) fun b23 w4 =>
  ∃ I_7 : Option Addr → Nat → Nat → Int → World → Nat → Prop, (∃ m : Nat, I_7 (some ⟨b23, 0, none⟩) 0 0 (0 : Int) w4 m) ∧ ∀ (had7p : Option Addr) (had7l : Nat) (had7c : Nat) (x26 : Int) (w5 : World) (m : Nat), I_7 had7p had7l had7c x26 w5 m → (
  condB (decide (x26 < ((l1l : Nat) : Int))) (
  withJ (fun (had7_1p : Option Addr) (had7_1l : Nat) (had7_1c : Nat) (w6 : World) =>
  ∃ m' : Nat, m' < m ∧ I_7 had7_1p had7_1l had7_1c (w64 (x26 + (1 : Int))) w6 m') fun J_7 =>
  idxA l1p l1l x26 fun a28 =>
  ldStr w5 ((a28.add (x26.toNat * 2))) fun x29_0 =>
  ldStr w5 (((a28.add (x26.toNat * 2)).add 1)) fun x29_1 =>
  newB w5 (.cells (zeroC Tryd.prog T_ref03_Pair) T_ref03_Pair) fun b9 w7 =>
  stN w7 ⟨b9, 0, none⟩ ⟨[.string x29_0, .string x29_1]⟩ 2 fun w8 =>
  ldStr w8 ⟨b9, 0, none⟩ fun x31_0 =>
  ldStr w8 ⟨b9, 1, none⟩ fun x31_1 =>
  callJ Tryd.prog fn_ref04_declares #[.agg ⟨[.string x31_0, .string x31_1]⟩] w8 [.one .str, .one .bool] fun (r32_0 : ByteArray) (r32_1 : Bool) (w9 : World) =>
  condB (!r32_1) (
  J_7 had7p had7l had7c w9) (
  withJ (fun (x61 : Bool) (w10 : World) =>
  condB x61 (
  stN w10 ⟨b4, 0, none⟩ ⟨[.slice none 0 0, .slice none 0 0]⟩ 2 fun w11 =>
  ldS w11 ⟨b4, 0, none⟩ fun r_0p r_0l r_0c =>
  ldS w11 ⟨b4, 1, none⟩ fun r_1p r_1l r_1c =>
  J r_0p r_0l r_0c r_1p r_1l r_1c (29 : Int) w11) (
  withJ (fun (x69 : Bool) (w12 : World) =>
  condB x69 (
  stN w12 ⟨b4, 0, none⟩ ⟨[.slice none 0 0, .slice none 0 0]⟩ 2 fun w13 =>
  ldS w13 ⟨b4, 0, none⟩ fun r_0_1p r_0_1l r_0_1c =>
  ldS w13 ⟨b4, 1, none⟩ fun r_1_1p r_1_1l r_1_1c =>
  J r_0_1p r_0_1l r_0_1c r_1_1p r_1_1l r_1_1c (28 : Int) w13) (
  ldStr w12 ⟨b9, 1, none⟩ fun x72 =>
  condB (decide ((x72.size : Int) > (100 : Int))) (
  stN w12 ⟨b4, 0, none⟩ ⟨[.slice none 0 0, .slice none 0 0]⟩ 2 fun w14 =>
  ldS w14 ⟨b4, 0, none⟩ fun r_0_2p r_0_2l r_0_2c =>
  ldS w14 ⟨b4, 1, none⟩ fun r_1_2p r_1_2l r_1_2c =>
  J r_0_2p r_0_2l r_0_2c r_1_2p r_1_2l r_1_2c (6 : Int) w14) (
  ∃ I_78 : Int → World → Nat → Prop, (∃ m : Nat, I_78 (0 : Int) w12 m) ∧ ∀ (x78 : Int) (w15 : World) (m_1 : Nat), I_78 x78 w15 m_1 → (
  condB (decide (x78 < ((had7l : Nat) : Int))) (
  idxA had7p had7l x78 fun a80 =>
  ldStr w15 ((a80.add (x78.toNat * 1))) fun x81 =>
  condB (x81.toList == r32_0.toList) (
  stN w15 ⟨b4, 0, none⟩ ⟨[.slice none 0 0, .slice none 0 0]⟩ 2 fun w16 =>
  ldS w16 ⟨b4, 0, none⟩ fun r_0_3p r_0_3l r_0_3c =>
  ldS w16 ⟨b4, 1, none⟩ fun r_1_3p r_1_3l r_1_3c =>
  J r_0_3p r_0_3l r_0_3c r_1_3p r_1_3l r_1_3c (27 : Int) w16) (
  ∃ m' : Nat, m' < m_1 ∧ I_78 (w64 (x78 + (1 : Int))) w15 m')) (
  newB w15 (.cells ⟨[.string r32_0]⟩ T_string) fun b89 w17 =>
  appJ Tryd.prog T_sl_string T_sl_string (.slice had7p had7l had7c) (.slice (some ⟨b89, 0, none⟩) 1 1) w17 fun q90p q90l q90c w18 =>
  nonNil out6 fun a91 =>
  ldS w18 a91 fun x92p x92l x92c =>
  newB w18 (.cells ⟨[.string r32_0]⟩ T_string) fun b94 w19 =>
  appJ Tryd.prog T_sl_string T_sl_string (.slice x92p x92l x92c) (.slice (some ⟨b94, 0, none⟩) 1 1) w19 fun q95p q95l q95c w20 =>
  nonNil out6 fun a96 =>
  stV w20 a96 (.slice q95p q95l q95c) fun w21 =>
  nonNil out6 fun a97 =>
  ldS w21 ((a97.add 1)) fun x98p x98l x98c =>
  ldStr w21 ⟨b9, 1, none⟩ fun x100 =>
  newB w21 (.cells ⟨[.string x100]⟩ T_string) fun b101 w22 =>
  appJ Tryd.prog T_sl_string T_sl_string (.slice x98p x98l x98c) (.slice (some ⟨b101, 0, none⟩) 1 1) w22 fun q102p q102l q102c w23 =>
  nonNil out6 fun a103 =>
  stV w23 ((a103.add 1)) (.slice q102p q102l q102c) fun w24 =>
  J_7 q90p q90l q90c w24))))) fun J_69 =>
  condB (!(r32_0.toList == (⟨#[]⟩ : ByteArray).toList)) (
  ldStr w10 ⟨b9, 1, none⟩ fun x67 =>
  J_69 (x67.toList == (⟨#[]⟩ : ByteArray).toList) w10) (
  J_69 false w10))) fun J_61 =>
  condB (r32_0.toList == (⟨#[120, 109, 108, 110, 115]⟩ : ByteArray).toList) (
  J_61 true w9) (
  ldStr w9 ⟨b9, 1, none⟩ fun x41 =>
  condB (x41.toList == (⟨#[104, 116, 116, 112, 58, 47, 47, 119, 119, 119, 46, 119, 51, 46, 111, 114, 103, 47, 50, 48, 48, 48, 47, 120, 109, 108, 110, 115, 47]⟩ : ByteArray).toList) (
  J_61 true w9) (
  condB (r32_0.toList == (⟨#[120, 109, 108]⟩ : ByteArray).toList) (
  ldStr w9 ⟨b9, 1, none⟩ fun x49 =>
  condB (!(x49.toList == (⟨#[104, 116, 116, 112, 58, 47, 47, 119, 119, 119, 46, 119, 51, 46, 111, 114, 103, 47, 88, 77, 76, 47, 49, 57, 57, 56, 47, 110, 97, 109, 101, 115, 112, 97, 99, 101]⟩ : ByteArray).toList)) (
  J_61 true w9) (
  condB (!(r32_0.toList == (⟨#[120, 109, 108]⟩ : ByteArray).toList)) (
  ldStr w9 ⟨b9, 1, none⟩ fun x58 =>
  J_61 (x58.toList == (⟨#[104, 116, 116, 112, 58, 47, 47, 119, 119, 119, 46, 119, 51, 46, 111, 114, 103, 47, 88, 77, 76, 47, 49, 57, 57, 56, 47, 110, 97, 109, 101, 115, 112, 97, 99, 101]⟩ : ByteArray).toList) w9) (
  J_61 false w9))) (
  condB (!(r32_0.toList == (⟨#[120, 109, 108]⟩ : ByteArray).toList)) (
  ldStr w9 ⟨b9, 1, none⟩ fun x58_1 =>
  J_61 (x58_1.toList == (⟨#[104, 116, 116, 112, 58, 47, 47, 119, 119, 119, 46, 119, 51, 46, 111, 114, 103, 47, 88, 77, 76, 47, 49, 57, 57, 56, 47, 110, 97, 109, 101, 115, 112, 97, 99, 101]⟩ : ByteArray).toList) w9) (
  J_61 false w9)))))) (
  nonNil out6 fun a105 =>
  ldS w5 a105 fun x105_0p x105_0l x105_0c =>
  ldS w5 ((a105.add 1)) fun x105_1p x105_1l x105_1c =>
  stN w5 ⟨b4, 0, none⟩ ⟨[.slice x105_0p x105_0l x105_0c, .slice x105_1p x105_1l x105_1c]⟩ 2 fun w25 =>
  ldS w25 ⟨b4, 0, none⟩ fun r_0_4p r_0_4l r_0_4c =>
  ldS w25 ⟨b4, 1, none⟩ fun r_1_4p r_1_4l r_1_4c =>
  J r_0_4p r_0_4l r_0_4c r_1_4p r_1_4l r_1_4c (0 : Int) w25))) fun J_6 =>
  ldS w2.drew ⟨b2, 0, none⟩ fun x16p x16l x16c =>
  ldS w2.drew ⟨b2, 1, none⟩ fun x20p x20l x20c =>
  (
  newB w2.drew (.cells ⟨[]⟩ T_string) fun b14 w26 =>
  w26.cell? ⟨b2, 1, none⟩ = some (.slice x20p x20l x20c) ∧
  w26.cell? ⟨b2, 0, none⟩ = some (.slice x16p x16l x16c) ∧
  (
  appJ Tryd.prog T_sl_string T_sl_string (.slice (some ⟨b14, 0, none⟩) 0 0) (.slice x16p x16l x16c) w26 fun q17p q17l q17c w27 =>
  w27.cell? ⟨b2, 1, none⟩ = some (.slice x20p x20l x20c) ∧
  (
  newB w27 (.cells ⟨[]⟩ T_string) fun b18 w28 =>
  w28.cell? ⟨b2, 1, none⟩ = some (.slice x20p x20l x20c) ∧
  w28.cell? ⟨b2, 0, none⟩ = some (.slice x16p x16l x16c) ∧
  (
  appJ Tryd.prog T_sl_string T_sl_string (.slice (some ⟨b18, 0, none⟩) 0 0) (.slice x20p x20l x20c) w28 fun q21p q21l q21c w29 =>
  newB w29 (.cells (zeroC Tryd.prog T_ref04_Scope) T_ref04_Scope) fun b6 w30 =>
  w30.cell? ⟨b2, 1, none⟩ = some (.slice x20p x20l x20c) ∧
  w30.cell? ⟨b2, 0, none⟩ = some (.slice x16p x16l x16c) ∧
  stN w30 ⟨b6, 0, none⟩ ⟨[.slice q17p q17l q17c, .slice q21p q21l q21c]⟩ 2 fun w31 =>
  J_6 (some ⟨b6, 0, none⟩) w31) ∧ (
  newB w28 (.cells (zeroC Tryd.prog T_ref04_Scope) T_ref04_Scope) fun b6_1 w32 =>
  w32.cell? ⟨b2, 1, none⟩ = some (.slice x20p x20l x20c) ∧
  w32.cell? ⟨b2, 0, none⟩ = some (.slice x16p x16l x16c) ∧
  appJ Tryd.prog T_sl_string T_sl_string (.slice (some ⟨b18, 0, none⟩) 0 0) (.slice x20p x20l x20c) w32 fun q21_1p q21_1l q21_1c w33 =>
  stN w33 ⟨b6_1, 0, none⟩ ⟨[.slice q17p q17l q17c, .slice q21_1p q21_1l q21_1c]⟩ 2 fun w34 =>
  J_6 (some ⟨b6_1, 0, none⟩) w34)) ∧ (
  newB w27 (.cells (zeroC Tryd.prog T_ref04_Scope) T_ref04_Scope) fun b6_2 w35 =>
  w35.cell? ⟨b2, 1, none⟩ = some (.slice x20p x20l x20c) ∧
  w35.cell? ⟨b2, 0, none⟩ = some (.slice x16p x16l x16c) ∧
  newB w35 (.cells ⟨[]⟩ T_string) fun b18_1 w36 =>
  w36.cell? ⟨b2, 1, none⟩ = some (.slice x20p x20l x20c) ∧
  w36.cell? ⟨b2, 0, none⟩ = some (.slice x16p x16l x16c) ∧
  appJ Tryd.prog T_sl_string T_sl_string (.slice (some ⟨b18_1, 0, none⟩) 0 0) (.slice x20p x20l x20c) w36 fun q21_2p q21_2l q21_2c w37 =>
  stN w37 ⟨b6_2, 0, none⟩ ⟨[.slice q17p q17l q17c, .slice q21_2p q21_2l q21_2c]⟩ 2 fun w38 =>
  J_6 (some ⟨b6_2, 0, none⟩) w38)) ∧ (
  (
  newB w26 (.cells ⟨[]⟩ T_string) fun b18_2 w39 =>
  w39.cell? ⟨b2, 1, none⟩ = some (.slice x20p x20l x20c) ∧
  w39.cell? ⟨b2, 0, none⟩ = some (.slice x16p x16l x16c) ∧
  (
  appJ Tryd.prog T_sl_string T_sl_string (.slice (some ⟨b14, 0, none⟩) 0 0) (.slice x16p x16l x16c) w39 fun q17_1p q17_1l q17_1c w40 =>
  w40.cell? ⟨b2, 1, none⟩ = some (.slice x20p x20l x20c) ∧
  (
  appJ Tryd.prog T_sl_string T_sl_string (.slice (some ⟨b18_2, 0, none⟩) 0 0) (.slice x20p x20l x20c) w40 fun q21_3p q21_3l q21_3c w41 =>
  newB w41 (.cells (zeroC Tryd.prog T_ref04_Scope) T_ref04_Scope) fun b6_3 w42 =>
  w42.cell? ⟨b2, 1, none⟩ = some (.slice x20p x20l x20c) ∧
  w42.cell? ⟨b2, 0, none⟩ = some (.slice x16p x16l x16c) ∧
  stN w42 ⟨b6_3, 0, none⟩ ⟨[.slice q17_1p q17_1l q17_1c, .slice q21_3p q21_3l q21_3c]⟩ 2 fun w43 =>
  J_6 (some ⟨b6_3, 0, none⟩) w43) ∧ (
  newB w40 (.cells (zeroC Tryd.prog T_ref04_Scope) T_ref04_Scope) fun b6_4 w44 =>
  w44.cell? ⟨b2, 1, none⟩ = some (.slice x20p x20l x20c) ∧
  w44.cell? ⟨b2, 0, none⟩ = some (.slice x16p x16l x16c) ∧
  appJ Tryd.prog T_sl_string T_sl_string (.slice (some ⟨b18_2, 0, none⟩) 0 0) (.slice x20p x20l x20c) w44 fun q21_4p q21_4l q21_4c w45 =>
  stN w45 ⟨b6_4, 0, none⟩ ⟨[.slice q17_1p q17_1l q17_1c, .slice q21_4p q21_4l q21_4c]⟩ 2 fun w46 =>
  J_6 (some ⟨b6_4, 0, none⟩) w46)) ∧ (
  newB w39 (.cells (zeroC Tryd.prog T_ref04_Scope) T_ref04_Scope) fun b6_5 w47 =>
  w47.cell? ⟨b2, 1, none⟩ = some (.slice x20p x20l x20c) ∧
  w47.cell? ⟨b2, 0, none⟩ = some (.slice x16p x16l x16c) ∧
  appJ Tryd.prog T_sl_string T_sl_string (.slice (some ⟨b14, 0, none⟩) 0 0) (.slice x16p x16l x16c) w47 fun q17_2p q17_2l q17_2c w48 =>
  w48.cell? ⟨b2, 1, none⟩ = some (.slice x20p x20l x20c) ∧
  appJ Tryd.prog T_sl_string T_sl_string (.slice (some ⟨b18_2, 0, none⟩) 0 0) (.slice x20p x20l x20c) w48 fun q21_5p q21_5l q21_5c w49 =>
  stN w49 ⟨b6_5, 0, none⟩ ⟨[.slice q17_2p q17_2l q17_2c, .slice q21_5p q21_5l q21_5c]⟩ 2 fun w50 =>
  J_6 (some ⟨b6_5, 0, none⟩) w50)) ∧ (
  newB w26 (.cells (zeroC Tryd.prog T_ref04_Scope) T_ref04_Scope) fun b6_6 w51 =>
  w51.cell? ⟨b2, 1, none⟩ = some (.slice x20p x20l x20c) ∧
  w51.cell? ⟨b2, 0, none⟩ = some (.slice x16p x16l x16c) ∧
  (
  appJ Tryd.prog T_sl_string T_sl_string (.slice (some ⟨b14, 0, none⟩) 0 0) (.slice x16p x16l x16c) w51 fun q17_3p q17_3l q17_3c w52 =>
  w52.cell? ⟨b2, 1, none⟩ = some (.slice x20p x20l x20c) ∧
  newB w52 (.cells ⟨[]⟩ T_string) fun b18_3 w53 =>
  w53.cell? ⟨b2, 1, none⟩ = some (.slice x20p x20l x20c) ∧
  w53.cell? ⟨b2, 0, none⟩ = some (.slice x16p x16l x16c) ∧
  appJ Tryd.prog T_sl_string T_sl_string (.slice (some ⟨b18_3, 0, none⟩) 0 0) (.slice x20p x20l x20c) w53 fun q21_6p q21_6l q21_6c w54 =>
  stN w54 ⟨b6_6, 0, none⟩ ⟨[.slice q17_3p q17_3l q17_3c, .slice q21_6p q21_6l q21_6c]⟩ 2 fun w55 =>
  J_6 (some ⟨b6_6, 0, none⟩) w55) ∧ (
  newB w51 (.cells ⟨[]⟩ T_string) fun b18_4 w56 =>
  w56.cell? ⟨b2, 1, none⟩ = some (.slice x20p x20l x20c) ∧
  w56.cell? ⟨b2, 0, none⟩ = some (.slice x16p x16l x16c) ∧
  appJ Tryd.prog T_sl_string T_sl_string (.slice (some ⟨b14, 0, none⟩) 0 0) (.slice x16p x16l x16c) w56 fun q17_4p q17_4l q17_4c w57 =>
  w57.cell? ⟨b2, 1, none⟩ = some (.slice x20p x20l x20c) ∧
  appJ Tryd.prog T_sl_string T_sl_string (.slice (some ⟨b18_4, 0, none⟩) 0 0) (.slice x20p x20l x20c) w57 fun q21_7p q21_7l q21_7c w58 =>
  stN w58 ⟨b6_6, 0, none⟩ ⟨[.slice q17_4p q17_4l q17_4c, .slice q21_7p q21_7l q21_7c]⟩ 2 fun w59 =>
  J_6 (some ⟨b6_6, 0, none⟩) w59)))) ∧ (
  (
  newB w2.drew (.cells ⟨[]⟩ T_string) fun b18_5 w60 =>
  w60.cell? ⟨b2, 1, none⟩ = some (.slice x20p x20l x20c) ∧
  w60.cell? ⟨b2, 0, none⟩ = some (.slice x16p x16l x16c) ∧
  (
  newB w60 (.cells ⟨[]⟩ T_string) fun b14_1 w61 =>
  w61.cell? ⟨b2, 1, none⟩ = some (.slice x20p x20l x20c) ∧
  w61.cell? ⟨b2, 0, none⟩ = some (.slice x16p x16l x16c) ∧
  (
  appJ Tryd.prog T_sl_string T_sl_string (.slice (some ⟨b14_1, 0, none⟩) 0 0) (.slice x16p x16l x16c) w61 fun q17_5p q17_5l q17_5c w62 =>
  w62.cell? ⟨b2, 1, none⟩ = some (.slice x20p x20l x20c) ∧
  (
  appJ Tryd.prog T_sl_string T_sl_string (.slice (some ⟨b18_5, 0, none⟩) 0 0) (.slice x20p x20l x20c) w62 fun q21_8p q21_8l q21_8c w63 =>
  newB w63 (.cells (zeroC Tryd.prog T_ref04_Scope) T_ref04_Scope) fun b6_7 w64 =>
  w64.cell? ⟨b2, 1, none⟩ = some (.slice x20p x20l x20c) ∧
  w64.cell? ⟨b2, 0, none⟩ = some (.slice x16p x16l x16c) ∧
  stN w64 ⟨b6_7, 0, none⟩ ⟨[.slice q17_5p q17_5l q17_5c, .slice q21_8p q21_8l q21_8c]⟩ 2 fun w65 =>
  J_6 (some ⟨b6_7, 0, none⟩) w65) ∧ (
  newB w62 (.cells (zeroC Tryd.prog T_ref04_Scope) T_ref04_Scope) fun b6_8 w66 =>
  w66.cell? ⟨b2, 1, none⟩ = some (.slice x20p x20l x20c) ∧
  w66.cell? ⟨b2, 0, none⟩ = some (.slice x16p x16l x16c) ∧
  appJ Tryd.prog T_sl_string T_sl_string (.slice (some ⟨b18_5, 0, none⟩) 0 0) (.slice x20p x20l x20c) w66 fun q21_9p q21_9l q21_9c w67 =>
  stN w67 ⟨b6_8, 0, none⟩ ⟨[.slice q17_5p q17_5l q17_5c, .slice q21_9p q21_9l q21_9c]⟩ 2 fun w68 =>
  J_6 (some ⟨b6_8, 0, none⟩) w68)) ∧ (
  newB w61 (.cells (zeroC Tryd.prog T_ref04_Scope) T_ref04_Scope) fun b6_9 w69 =>
  w69.cell? ⟨b2, 1, none⟩ = some (.slice x20p x20l x20c) ∧
  w69.cell? ⟨b2, 0, none⟩ = some (.slice x16p x16l x16c) ∧
  appJ Tryd.prog T_sl_string T_sl_string (.slice (some ⟨b14_1, 0, none⟩) 0 0) (.slice x16p x16l x16c) w69 fun q17_6p q17_6l q17_6c w70 =>
  w70.cell? ⟨b2, 1, none⟩ = some (.slice x20p x20l x20c) ∧
  appJ Tryd.prog T_sl_string T_sl_string (.slice (some ⟨b18_5, 0, none⟩) 0 0) (.slice x20p x20l x20c) w70 fun q21_10p q21_10l q21_10c w71 =>
  stN w71 ⟨b6_9, 0, none⟩ ⟨[.slice q17_6p q17_6l q17_6c, .slice q21_10p q21_10l q21_10c]⟩ 2 fun w72 =>
  J_6 (some ⟨b6_9, 0, none⟩) w72)) ∧ (
  newB w60 (.cells (zeroC Tryd.prog T_ref04_Scope) T_ref04_Scope) fun b6_10 w73 =>
  w73.cell? ⟨b2, 1, none⟩ = some (.slice x20p x20l x20c) ∧
  w73.cell? ⟨b2, 0, none⟩ = some (.slice x16p x16l x16c) ∧
  newB w73 (.cells ⟨[]⟩ T_string) fun b14_2 w74 =>
  w74.cell? ⟨b2, 1, none⟩ = some (.slice x20p x20l x20c) ∧
  w74.cell? ⟨b2, 0, none⟩ = some (.slice x16p x16l x16c) ∧
  appJ Tryd.prog T_sl_string T_sl_string (.slice (some ⟨b14_2, 0, none⟩) 0 0) (.slice x16p x16l x16c) w74 fun q17_7p q17_7l q17_7c w75 =>
  w75.cell? ⟨b2, 1, none⟩ = some (.slice x20p x20l x20c) ∧
  appJ Tryd.prog T_sl_string T_sl_string (.slice (some ⟨b18_5, 0, none⟩) 0 0) (.slice x20p x20l x20c) w75 fun q21_11p q21_11l q21_11c w76 =>
  stN w76 ⟨b6_10, 0, none⟩ ⟨[.slice q17_7p q17_7l q17_7c, .slice q21_11p q21_11l q21_11c]⟩ 2 fun w77 =>
  J_6 (some ⟨b6_10, 0, none⟩) w77)) ∧ (
  newB w2.drew (.cells (zeroC Tryd.prog T_ref04_Scope) T_ref04_Scope) fun b6_11 w78 =>
  w78.cell? ⟨b2, 1, none⟩ = some (.slice x20p x20l x20c) ∧
  w78.cell? ⟨b2, 0, none⟩ = some (.slice x16p x16l x16c) ∧
  (
  newB w78 (.cells ⟨[]⟩ T_string) fun b14_3 w79 =>
  w79.cell? ⟨b2, 1, none⟩ = some (.slice x20p x20l x20c) ∧
  w79.cell? ⟨b2, 0, none⟩ = some (.slice x16p x16l x16c) ∧
  (
  appJ Tryd.prog T_sl_string T_sl_string (.slice (some ⟨b14_3, 0, none⟩) 0 0) (.slice x16p x16l x16c) w79 fun q17_8p q17_8l q17_8c w80 =>
  w80.cell? ⟨b2, 1, none⟩ = some (.slice x20p x20l x20c) ∧
  newB w80 (.cells ⟨[]⟩ T_string) fun b18_6 w81 =>
  w81.cell? ⟨b2, 1, none⟩ = some (.slice x20p x20l x20c) ∧
  w81.cell? ⟨b2, 0, none⟩ = some (.slice x16p x16l x16c) ∧
  appJ Tryd.prog T_sl_string T_sl_string (.slice (some ⟨b18_6, 0, none⟩) 0 0) (.slice x20p x20l x20c) w81 fun q21_12p q21_12l q21_12c w82 =>
  stN w82 ⟨b6_11, 0, none⟩ ⟨[.slice q17_8p q17_8l q17_8c, .slice q21_12p q21_12l q21_12c]⟩ 2 fun w83 =>
  J_6 (some ⟨b6_11, 0, none⟩) w83) ∧ (
  newB w79 (.cells ⟨[]⟩ T_string) fun b18_7 w84 =>
  w84.cell? ⟨b2, 1, none⟩ = some (.slice x20p x20l x20c) ∧
  w84.cell? ⟨b2, 0, none⟩ = some (.slice x16p x16l x16c) ∧
  appJ Tryd.prog T_sl_string T_sl_string (.slice (some ⟨b14_3, 0, none⟩) 0 0) (.slice x16p x16l x16c) w84 fun q17_9p q17_9l q17_9c w85 =>
  w85.cell? ⟨b2, 1, none⟩ = some (.slice x20p x20l x20c) ∧
  appJ Tryd.prog T_sl_string T_sl_string (.slice (some ⟨b18_7, 0, none⟩) 0 0) (.slice x20p x20l x20c) w85 fun q21_13p q21_13l q21_13c w86 =>
  stN w86 ⟨b6_11, 0, none⟩ ⟨[.slice q17_9p q17_9l q17_9c, .slice q21_13p q21_13l q21_13c]⟩ 2 fun w87 =>
  J_6 (some ⟨b6_11, 0, none⟩) w87)) ∧ (
  newB w78 (.cells ⟨[]⟩ T_string) fun b18_8 w88 =>
  w88.cell? ⟨b2, 1, none⟩ = some (.slice x20p x20l x20c) ∧
  w88.cell? ⟨b2, 0, none⟩ = some (.slice x16p x16l x16c) ∧
  newB w88 (.cells ⟨[]⟩ T_string) fun b14_4 w89 =>
  w89.cell? ⟨b2, 1, none⟩ = some (.slice x20p x20l x20c) ∧
  w89.cell? ⟨b2, 0, none⟩ = some (.slice x16p x16l x16c) ∧
  appJ Tryd.prog T_sl_string T_sl_string (.slice (some ⟨b14_4, 0, none⟩) 0 0) (.slice x16p x16l x16c) w89 fun q17_10p q17_10l q17_10c w90 =>
  w90.cell? ⟨b2, 1, none⟩ = some (.slice x20p x20l x20c) ∧
  appJ Tryd.prog T_sl_string T_sl_string (.slice (some ⟨b18_8, 0, none⟩) 0 0) (.slice x20p x20l x20c) w90 fun q21_14p q21_14l q21_14c w91 =>
  stN w91 ⟨b6_11, 0, none⟩ ⟨[.slice q17_10p q17_10l q17_10c, .slice q21_14p q21_14l q21_14c]⟩ 2 fun w92 =>
  J_6 (some ⟨b6_11, 0, none⟩) w92)))
def ann_ref04_Open : Ann := .s (.o) (.j [(6, .ptr)] (.d (.take 1 (.take 2 (.take 5 (.take 6 (.eff 0 (.eff 3 (.eff 4 (.eff 7 (.take 8 (.eff 9 (.eff 10 (.done) (.none)) (.none))) (.eff 9 (.eff 7 (.take 8 (.eff 10 (.done) (.none))) (.none)) (.none))) (.eff 9 (.eff 4 (.eff 7 (.take 8 (.eff 10 (.done) (.none))) (.none)) (.none)) (.none))) (.eff 4 (.eff 3 (.eff 7 (.take 8 (.eff 9 (.eff 10 (.done) (.none)) (.none))) (.eff 9 (.eff 7 (.take 8 (.eff 10 (.done) (.none))) (.none)) (.none))) (.eff 9 (.eff 3 (.eff 7 (.take 8 (.eff 10 (.done) (.none))) (.none)) (.none)) (.none))) (.eff 9 (.eff 3 (.eff 4 (.eff 7 (.take 8 (.eff 10 (.done) (.none))) (.none)) (.none)) (.eff 4 (.eff 3 (.eff 7 (.take 8 (.eff 10 (.done) (.none))) (.none)) (.none)) (.none))) (.none)))) (.eff 4 (.eff 0 (.eff 3 (.eff 7 (.take 8 (.eff 9 (.eff 10 (.done) (.none)) (.none))) (.eff 9 (.eff 7 (.take 8 (.eff 10 (.done) (.none))) (.none)) (.none))) (.eff 9 (.eff 3 (.eff 7 (.take 8 (.eff 10 (.done) (.none))) (.none)) (.none)) (.none))) (.eff 9 (.eff 0 (.eff 3 (.eff 7 (.take 8 (.eff 10 (.done) (.none))) (.none)) (.none)) (.none)) (.none))) (.eff 9 (.eff 0 (.eff 3 (.eff 4 (.eff 7 (.take 8 (.eff 10 (.done) (.none))) (.none)) (.none)) (.eff 4 (.eff 3 (.eff 7 (.take 8 (.eff 10 (.done) (.none))) (.none)) (.none)) (.none))) (.eff 4 (.eff 0 (.eff 3 (.eff 7 (.take 8 (.eff 10 (.done) (.none))) (.none)) (.none)) (.none)) (.none))) (.none))))))))) (.s (.o) (.s (.s (.o) (.b (.l [(7, .slice), (26, .int .i64)] (.s (.o) (.s (.c (.o) (.o)) (.j [(7, .slice)] (.b (.s (.o) (.s (.o) (.s (.s (.o) (.c (.o) (.o))) (.s (.j [(61, .bool)] (.o) (.c (.s (.o) (.o)) (.o))) (.s (.j [(69, .bool)] (.o) (.c (.s (.o) (.o)) (.o))) (.s (.s (.o) (.c (.s (.o) (.o)) (.o))) (.s (.s (.o) (.b (.l [(78, .int .i64)] (.s (.o) (.s (.c (.o) (.o)) (.s (.b (.s (.o) (.s (.o) (.c (.s (.o) (.o)) (.o))))) (.o))))))) (.s (.o) (.s (.o) (.o))))))))))) (.o))))))) (.s (.o) (.o)))))
theorem eq_ref04_Open (s0_0p : Option Addr) (s0_0l : Nat) (s0_0c : Nat) (s0_1p : Option Addr) (s0_1l : Nat) (s0_1c : Nat) (l1p : Option Addr) (l1l : Nat) (l1c : Nat) (w : World) (J : Option Addr → Nat → Nat → Option Addr → Nat → Nat → Int → World → Prop) : vcFun Tryd.prog Tryd.f42 ann_ref04_Open [.agg [.slice, .slice], .one (.int .i64)] [.agg ⟨[.slice s0_0p s0_0l s0_0c, .slice s0_1p s0_1l s0_1c]⟩, .slice l1p l1l l1c] w J = VC_ref04_Open s0_0p s0_0l s0_0c s0_1p s0_1l s0_1c l1p l1l l1c w J := by kernel_rfl
theorem c_ref04_Open {s0_0p : Option Addr} {s0_0l : Nat} {s0_0c : Nat} {s0_1p : Option Addr} {s0_1l : Nat} {s0_1c : Nat} {l1p : Option Addr} {l1l : Nat} {l1c : Nat} {w : World} {J : Option Addr → Nat → Nat → Option Addr → Nat → Nat → Int → World → Prop} (h : VC_ref04_Open s0_0p s0_0l s0_0c s0_1p s0_1l s0_1c l1p l1l l1c w J) : callJ Tryd.prog fn_ref04_Open #[.agg ⟨[.slice s0_0p s0_0l s0_0c, .slice s0_1p s0_1l s0_1c]⟩, .slice l1p l1l l1c] w [.agg [.slice, .slice], .one (.int .i64)] J := vc_calls Tryd.func42 ann_ref04_Open (Eq.mpr (eq_ref04_Open s0_0p s0_0l s0_0c s0_1p s0_1l s0_1c l1p l1l l1c w J) h)

/-- lectern/lecternref04.declares -/
def VC_ref04_declares (p0_0 : ByteArray) (p0_1 : ByteArray) (w : World) (J : ByteArray → Bool → World → Prop) : Prop :=
  newB w (.cells ⟨[.string p0_0, .string p0_1]⟩ T_ref03_Pair) fun b1 w1 =>
  ldStr w1 ⟨b1, 0, none⟩ fun x8 =>
  condB (x8.toList == (⟨#[120, 109, 108, 110, 115]⟩ : ByteArray).toList) (
  J ⟨#[]⟩ true w1) (
  ldStr w1 ⟨b1, 0, none⟩ fun x12 =>
  callJ Tryd.prog fn_ref01_Split #[.string x12] w1 [.one .str, .one .str, .one .bool] fun (r13_0 : ByteArray) (r13_1 : ByteArray) (r13_2 : Bool) (w2 : World) =>
  withJ (fun (x2 : ByteArray) (x3 : Bool) (w3 : World) =>
  J x2 x3 w3) fun J_2 =>
  condB r13_2 (
  J_2 r13_1 (r13_0.toList == (⟨#[120, 109, 108, 110, 115]⟩ : ByteArray).toList) w2) (
  J_2 r13_1 false w2))
def ann_ref04_declares : Ann := .s (.o) (.s (.s (.o) (.c (.s (.o) (.o)) (.o))) (.s (.o) (.j [(2, .str), (3, .bool)] (.o) (.o))))
theorem eq_ref04_declares (p0_0 : ByteArray) (p0_1 : ByteArray) (w : World) (J : ByteArray → Bool → World → Prop) : vcFun Tryd.prog Tryd.f61 ann_ref04_declares [.one .str, .one .bool] [.agg ⟨[.string p0_0, .string p0_1]⟩] w J = VC_ref04_declares p0_0 p0_1 w J := by kernel_rfl
theorem c_ref04_declares {p0_0 : ByteArray} {p0_1 : ByteArray} {w : World} {J : ByteArray → Bool → World → Prop} (h : VC_ref04_declares p0_0 p0_1 w J) : callJ Tryd.prog fn_ref04_declares #[.agg ⟨[.string p0_0, .string p0_1]⟩] w [.one .str, .one .bool] J := vc_calls Tryd.func61 ann_ref04_declares (Eq.mpr (eq_ref04_declares p0_0 p0_1 w J) h)

/-- lectern/lecternref04.Attrs -/
def VC_ref04_Attrs (s0_0p : Option Addr) (s0_0l : Nat) (s0_0c : Nat) (s0_1p : Option Addr) (s0_1l : Nat) (s0_1c : Nat) (l1p : Option Addr) (l1l : Nat) (l1c : Nat) (w : World) (J : Option Addr → Nat → Nat → Int → World → Prop) : Prop :=
  newB w (.cells ⟨[.slice s0_0p s0_0l s0_0c, .slice s0_1p s0_1l s0_1c]⟩ T_ref04_Scope) fun b2 w1 =>
  newB w1 (.cells ⟨[]⟩ T_api_Attr) fun b19 w2 =>
  ∃ I_6 : Option Addr → Nat → Nat → Bool → Int → World → Nat → Prop, (∃ m : Nat, I_6 (some ⟨b19, 0, none⟩) 0 0 false (0 : Int) w2 m) ∧ ∀ (out6p : Option Addr) (out6l : Nat) (out6c : Nat) (twice7 : Bool) (x22 : Int) (w3 : World) (m : Nat), I_6 out6p out6l out6c twice7 x22 w3 m → (
  condB (decide (x22 < ((l1l : Nat) : Int))) (
  withJ (fun (out6_1p : Option Addr) (out6_1l : Nat) (out6_1c : Nat) (twice7_1 : Bool) (w4 : World) =>
  ∃ m' : Nat, m' < m ∧ I_6 out6_1p out6_1l out6_1c twice7_1 (w64 (x22 + (1 : Int))) w4 m') fun J_6 =>
  idxA l1p l1l x22 fun a24 =>
  ldStr w3 ((a24.add (x22.toNat * 2))) fun x25_0 =>
  ldStr w3 (((a24.add (x22.toNat * 2)).add 1)) fun x25_1 =>
  newB w3 (.cells (zeroC Tryd.prog T_ref03_Pair) T_ref03_Pair) fun b9 w5 =>
  stN w5 ⟨b9, 0, none⟩ ⟨[.string x25_0, .string x25_1]⟩ 2 fun w6 =>
  ldStr w6 ⟨b9, 0, none⟩ fun x27_0 =>
  ldStr w6 ⟨b9, 1, none⟩ fun x27_1 =>
  callJ Tryd.prog fn_ref04_declares #[.agg ⟨[.string x27_0, .string x27_1]⟩] w6 [.one .str, .one .bool] fun (r28_0 : ByteArray) (r28_1 : Bool) (w7 : World) =>
  condB r28_1 (
  J_6 out6p out6l out6c twice7 w7) (
  ldStr w7 ⟨b9, 0, none⟩ fun x34 =>
  callJ Tryd.prog fn_ref01_Split #[.string x34] w7 [.one .str, .one .str, .one .bool] fun (r35_0 : ByteArray) (r35_1 : ByteArray) (r35_2 : Bool) (w8 : World) =>
  condB (!r35_2) (
  J none 0 0 (24 : Int) w8) (
  newB w8 (.cells (zeroC Tryd.prog T_api_Name) T_api_Name) fun b15 w9 =>
  stN w9 ⟨b15, 0, none⟩ ⟨[.string ByteArray.empty, .string r35_1]⟩ 2 fun w10 =>
  withJ (fun (w11 : World) =>
  ∃ I_18 : Int → World → Nat → Prop, (∃ m : Nat, I_18 (0 : Int) w11 m) ∧ ∀ (k18 : Int) (w12 : World) (m_1 : Nat), I_18 k18 w12 m_1 → (
  withJ (fun (x67 : Bool) (w13 : World) =>
  condB x67 (
  ∃ m' : Nat, m' < m_1 ∧ I_18 (w64 (k18 + (1 : Int))) w13 m') (
  withJ (fun (twice7_2 : Bool) (w14 : World) =>
  slS out6p out6l out6c 3 none (some k18) none fun q89p q89l q89c =>
  ldStr w14.drew ⟨b15, 0, none⟩ fun x91_0 =>
  ldStr w14.drew ⟨b15, 1, none⟩ fun x91_1 =>
  ldStr w14.drew ⟨b9, 1, none⟩ fun x93 =>
  Array.size (⟨[.string x91_0, .string x91_1]⟩ : Array Value) = 2 ∧
  slS out6p out6l out6c 3 (some k18) none none fun q99p q99l q99c =>
  (
  newB w14.drew (.cells ⟨[]⟩ T_api_Attr) fun b86 w15 =>
  w15.cell? ⟨b9, 1, none⟩ = some (.string x93) ∧
  cellsAt w15 ⟨b15, 0, none⟩ [.string x91_0, .string x91_1] ∧
  (
  appJ Tryd.prog T_sl_api_Attr T_sl_api_Attr (.slice (some ⟨b86, 0, none⟩) 0 0) (.slice q89p q89l q89c) w15 fun q90p q90l q90c w16 =>
  w16.cell? ⟨b9, 1, none⟩ = some (.string x93) ∧
  cellsAt w16 ⟨b15, 0, none⟩ [.string x91_0, .string x91_1] ∧
  Array.size (⟨[.string x91_0, .string x91_1, .string x93]⟩ : Array Value) = 3 ∧
  newB w16 (.cells ⟨[.string x91_0, .string x91_1, .string x93]⟩ T_api_Attr) fun b95 w17 =>
  appJ Tryd.prog T_sl_api_Attr T_sl_api_Attr (.slice q90p q90l q90c) (.slice (some ⟨b95, 0, none⟩) 1 1) w17 fun q96p q96l q96c w18 =>
  appJ Tryd.prog T_sl_api_Attr T_sl_api_Attr (.slice q96p q96l q96c) (.slice q99p q99l q99c) w18 fun q100p q100l q100c w19 =>
  J_6 q100p q100l q100c twice7_2 w19) ∧ (
  Array.size (⟨[.string x91_0, .string x91_1, .string x93]⟩ : Array Value) = 3 ∧
  newB w15 (.cells ⟨[.string x91_0, .string x91_1, .string x93]⟩ T_api_Attr) fun b95_1 w20 =>
  appJ Tryd.prog T_sl_api_Attr T_sl_api_Attr (.slice (some ⟨b86, 0, none⟩) 0 0) (.slice q89p q89l q89c) w20 fun q90_1p q90_1l q90_1c w21 =>
  w21.cell? ⟨b9, 1, none⟩ = some (.string x93) ∧
  cellsAt w21 ⟨b15, 0, none⟩ [.string x91_0, .string x91_1] ∧
  appJ Tryd.prog T_sl_api_Attr T_sl_api_Attr (.slice q90_1p q90_1l q90_1c) (.slice (some ⟨b95_1, 0, none⟩) 1 1) w21 fun q96_1p q96_1l q96_1c w22 =>
  appJ Tryd.prog T_sl_api_Attr T_sl_api_Attr (.slice q96_1p q96_1l q96_1c) (.slice q99p q99l q99c) w22 fun q100_1p q100_1l q100_1c w23 =>
  J_6 q100_1p q100_1l q100_1c twice7_2 w23)) ∧ (
  Array.size (⟨[.string x91_0, .string x91_1, .string x93]⟩ : Array Value) = 3 ∧
  newB w14.drew (.cells ⟨[.string x91_0, .string x91_1, .string x93]⟩ T_api_Attr) fun b95_2 w24 =>
  newB w24 (.cells ⟨[]⟩ T_api_Attr) fun b86_1 w25 =>
  w25.cell? ⟨b9, 1, none⟩ = some (.string x93) ∧
  cellsAt w25 ⟨b15, 0, none⟩ [.string x91_0, .string x91_1] ∧
  appJ Tryd.prog T_sl_api_Attr T_sl_api_Attr (.slice (some ⟨b86_1, 0, none⟩) 0 0) (.slice q89p q89l q89c) w25 fun q90_2p q90_2l q90_2c w26 =>
  w26.cell? ⟨b9, 1, none⟩ = some (.string x93) ∧
  cellsAt w26 ⟨b15, 0, none⟩ [.string x91_0, .string x91_1] ∧
  appJ Tryd.prog T_sl_api_Attr T_sl_api_Attr (.slice q90_2p q90_2l q90_2c) (.slice (some ⟨b95_2, 0, none⟩) 1 1) w26 fun q96_2p q96_2l q96_2c w27 =>
  appJ Tryd.prog T_sl_api_Attr T_sl_api_Attr (.slice q96_2p q96_2l q96_2c) (.slice q99p q99l q99c) w27 fun q100_2p q100_2l q100_2c w28 =>
  J_6 q100_2p q100_2l q100_2c twice7_2 w28)) fun J_7 =>
  condB twice7 (
  J_7 true w13.drew) (
  condB (decide (k18 < ((out6l : Nat) : Int))) (
  idxA out6p out6l k18 fun a79 =>
  ldStr w13.drew ((a79.add (k18.toNat * 3))) fun x81_0 =>
  ldStr w13.drew (((a79.add (k18.toNat * 3)).add 1)) fun x81_1 =>
  ldStr w13.drew ⟨b15, 0, none⟩ fun x82_0 =>
  ldStr w13.drew ⟨b15, 1, none⟩ fun x82_1 =>
  J_7 ((x81_0.toList == x82_0.toList) && ((x81_1.toList == x82_1.toList) && true)) w13.drew) (
  J_7 false w13.drew)))) fun J_67 =>
  condB (decide (k18 < ((out6l : Nat) : Int))) (
  idxA out6p out6l k18 fun a62 =>
  ldStr w12.drew ((a62.add (k18.toNat * 3))) fun x64_0 =>
  ldStr w12.drew (((a62.add (k18.toNat * 3)).add 1)) fun x64_1 =>
  ldStr w12.drew ⟨b15, 0, none⟩ fun x65_0 =>
  ldStr w12.drew ⟨b15, 1, none⟩ fun x65_1 =>
  callJ Tryd.prog fn_ref04_Before #[.agg ⟨[.string x64_0, .string x64_1]⟩, .agg ⟨[.string x65_0, .string x65_1]⟩] w12.drew [.one .bool] fun (r66 : Bool) (w29 : World) =>
  J_67 r66 w29) (
  J_67 false w12.drew))) fun J_0 =>
  condB (!(r35_0.toList == (⟨#[]⟩ : ByteArray).toList)) (
  ldS w10 ⟨b2, 0, none⟩ fun x46_0p x46_0l x46_0c =>
  ldS w10 ⟨b2, 1, none⟩ fun x46_1p x46_1l x46_1c =>
  callJ Tryd.prog fn_ref04_Bound #[.agg ⟨[.slice x46_0p x46_0l x46_0c, .slice x46_1p x46_1l x46_1c]⟩, .string r35_0] w10 [.one .str, .one .bool] fun (r48_0 : ByteArray) (r48_1 : Bool) (w30 : World) =>
  condB (!r48_1) (
  J none 0 0 (28 : Int) w30) (
  stV w30 ⟨b15, 0, none⟩ (.string r48_0) fun w31 =>
  J_0 w31)) (
  J_0 w10)))) (
  condB twice7 (
  J none 0 0 (27 : Int) w3) (
  J out6p out6l out6c (0 : Int) w3)))
def ann_ref04_Attrs : Ann := .s (.o) (.s (.o) (.s (.o) (.s (.s (.o) (.b (.l [(6, .slice), (7, .bool), (22, .int .i64)] (.s (.o) (.s (.c (.o) (.o)) (.j [(6, .slice), (7, .bool)] (.b (.s (.o) (.s (.s (.o) (.s (.o) (.c (.o) (.o)))) (.s (.o) (.s (.s (.o) (.c (.s (.o) (.o)) (.o))) (.s (.o) (.j [] (.s (.o) (.c (.s (.o) (.s (.s (.o) (.c (.s (.o) (.o)) (.o))) (.o))) (.o))) (.s (.o) (.s (.b (.l [(18, .int .i64)] (.s (.j [(67, .bool)] (.d (.take 0 (.take 1 (.take 2 (.take 3 (.take 4 (.take 5 (.take 6 (.take 7 (.take 8 (.take 9 (.take 10 (.eff 11 (.take 12 (.done)) (.none)))))))))))))) (.c (.o) (.o))) (.b (.o))))) (.j [(7, .bool)] (.d (.take 0 (.take 1 (.take 2 (.take 3 (.take 4 (.take 5 (.take 6 (.take 7 (.take 8 (.take 9 (.take 10 (.take 11 (.take 12 (.take 13 (.take 14 (.take 15 (.take 16 (.done))))))))))))))))))) (.d (.take 1 (.take 2 (.take 3 (.take 5 (.take 6 (.take 7 (.take 8 (.take 11 (.take 12 (.take 13 (.eff 0 (.eff 4 (.eff 9 (.eff 10 (.eff 14 (.take 15 (.done)) (.none)) (.none)) (.none)) (.eff 9 (.eff 4 (.eff 10 (.eff 14 (.take 15 (.done)) (.none)) (.none)) (.none)) (.none))) (.eff 9 (.eff 0 (.eff 4 (.eff 10 (.eff 14 (.take 15 (.done)) (.none)) (.none)) (.none)) (.none)) (.none)))))))))))))))))))))))) (.o))))))) (.s (.s (.o) (.c (.s (.o) (.o)) (.o))) (.s (.o) (.o))))))
theorem eq_ref04_Attrs (s0_0p : Option Addr) (s0_0l : Nat) (s0_0c : Nat) (s0_1p : Option Addr) (s0_1l : Nat) (s0_1c : Nat) (l1p : Option Addr) (l1l : Nat) (l1c : Nat) (w : World) (J : Option Addr → Nat → Nat → Int → World → Prop) : vcFun Tryd.prog Tryd.f31 ann_ref04_Attrs [.one .slice, .one (.int .i64)] [.agg ⟨[.slice s0_0p s0_0l s0_0c, .slice s0_1p s0_1l s0_1c]⟩, .slice l1p l1l l1c] w J = VC_ref04_Attrs s0_0p s0_0l s0_0c s0_1p s0_1l s0_1c l1p l1l l1c w J := by kernel_rfl
theorem c_ref04_Attrs {s0_0p : Option Addr} {s0_0l : Nat} {s0_0c : Nat} {s0_1p : Option Addr} {s0_1l : Nat} {s0_1c : Nat} {l1p : Option Addr} {l1l : Nat} {l1c : Nat} {w : World} {J : Option Addr → Nat → Nat → Int → World → Prop} (h : VC_ref04_Attrs s0_0p s0_0l s0_0c s0_1p s0_1l s0_1c l1p l1l l1c w J) : callJ Tryd.prog fn_ref04_Attrs #[.agg ⟨[.slice s0_0p s0_0l s0_0c, .slice s0_1p s0_1l s0_1c]⟩, .slice l1p l1l l1c] w [.one .slice, .one (.int .i64)] J := vc_calls Tryd.func31 ann_ref04_Attrs (Eq.mpr (eq_ref04_Attrs s0_0p s0_0l s0_0c s0_1p s0_1l s0_1c l1p l1l l1c w J) h)

/-- lectern/lecternref04.SameAttrs -/
def VC_ref04_SameAttrs (a0p : Option Addr) (a0l : Nat) (a0c : Nat) (b1p : Option Addr) (b1l : Nat) (b1c : Nat) (w : World) (J : Bool → World → Prop) : Prop :=
  condB (((a0l : Nat) : Int) != ((b1l : Nat) : Int)) (
  J false w) (
  ∃ I_13 : Int → World → Nat → Prop, (∃ m : Nat, I_13 (0 : Int) w m) ∧ ∀ (x13 : Int) (w1 : World) (m : Nat), I_13 x13 w1 m → (
  condB (decide (x13 < ((a0l : Nat) : Int))) (
  idxA a0p a0l x13 fun a18 =>
  ldStr w1.drew ((a18.add (x13.toNat * 3))) fun x19_0 =>
  ldStr w1.drew (((a18.add (x13.toNat * 3)).add 1)) fun x19_1 =>
  ldStr w1.drew (((a18.add (x13.toNat * 3)).add 2)) fun x19_2 =>
  idxA b1p b1l x13 fun a22 =>
  ldStr w1.drew ((a22.add (x13.toNat * 3))) fun x23_0 =>
  ldStr w1.drew (((a22.add (x13.toNat * 3)).add 1)) fun x23_1 =>
  ldStr w1.drew (((a22.add (x13.toNat * 3)).add 2)) fun x23_2 =>
  condB (!(((x19_0.toList == x23_0.toList) && ((x19_1.toList == x23_1.toList) && true)) && ((x19_2.toList == x23_2.toList) && true))) (
  J false w1.drew) (
  ∃ m' : Nat, m' < m ∧ I_13 (w64 (x13 + (1 : Int))) w1.drew m')) (
  J true w1)))
def ann_ref04_SameAttrs : Ann := .s (.o) (.s (.s (.o) (.c (.s (.o) (.o)) (.o))) (.s (.s (.o) (.b (.l [(13, .int .i64)] (.s (.o) (.s (.c (.o) (.o)) (.s (.b (.s (.o) (.s (.d (.take 0 (.take 1 (.take 2 (.take 3 (.take 4 (.take 5 (.take 6 (.take 7 (.take 8 (.done))))))))))) (.c (.s (.o) (.o)) (.o))))) (.o))))))) (.s (.o) (.o))))
theorem eq_ref04_SameAttrs (a0p : Option Addr) (a0l : Nat) (a0c : Nat) (b1p : Option Addr) (b1l : Nat) (b1c : Nat) (w : World) (J : Bool → World → Prop) : vcFun Tryd.prog Tryd.f33 ann_ref04_SameAttrs [.one .bool] [.slice a0p a0l a0c, .slice b1p b1l b1c] w J = VC_ref04_SameAttrs a0p a0l a0c b1p b1l b1c w J := by kernel_rfl
theorem c_ref04_SameAttrs {a0p : Option Addr} {a0l : Nat} {a0c : Nat} {b1p : Option Addr} {b1l : Nat} {b1c : Nat} {w : World} {J : Bool → World → Prop} (h : VC_ref04_SameAttrs a0p a0l a0c b1p b1l b1c w J) : callJ Tryd.prog fn_ref04_SameAttrs #[.slice a0p a0l a0c, .slice b1p b1l b1c] w [.one .bool] J := vc_calls Tryd.func33 ann_ref04_SameAttrs (Eq.mpr (eq_ref04_SameAttrs a0p a0l a0c b1p b1l b1c w J) h)

/-- lectern/lecternref04.Before -/
def VC_ref04_Before (a0_0 : ByteArray) (a0_1 : ByteArray) (b1_0 : ByteArray) (b1_1 : ByteArray) (w : World) (J : Bool → World → Prop) : Prop :=
  newB w (.cells ⟨[.string a0_0, .string a0_1]⟩ T_api_Name) fun b2 w1 =>
  newB w1 (.cells ⟨[.string b1_0, .string b1_1]⟩ T_api_Name) fun b3 w2 =>
  withJ (fun (x4 : Bool) (w3 : World) =>
  J x4 w3) fun J_4 =>
  ldStr w2 ⟨b2, 0, none⟩ fun x6 =>
  ldStr w2 ⟨b3, 0, none⟩ fun x8 =>
  condB (Op.bytesLess x6.toList x8.toList) (
  J_4 true w2) (
  ldStr w2 ⟨b2, 0, none⟩ fun x12 =>
  ldStr w2 ⟨b3, 0, none⟩ fun x14 =>
  condB (x12.toList == x14.toList) (
  ldStr w2 ⟨b2, 1, none⟩ fun x18 =>
  ldStr w2 ⟨b3, 1, none⟩ fun x20 =>
  J_4 (Op.bytesLess x18.toList x20.toList) w2) (
  J_4 false w2))
def ann_ref04_Before : Ann := .s (.o) (.j [(4, .bool)] (.o) (.o))
theorem eq_ref04_Before (a0_0 : ByteArray) (a0_1 : ByteArray) (b1_0 : ByteArray) (b1_1 : ByteArray) (w : World) (J : Bool → World → Prop) : vcFun Tryd.prog Tryd.f37 ann_ref04_Before [.one .bool] [.agg ⟨[.string a0_0, .string a0_1]⟩, .agg ⟨[.string b1_0, .string b1_1]⟩] w J = VC_ref04_Before a0_0 a0_1 b1_0 b1_1 w J := by kernel_rfl
theorem c_ref04_Before {a0_0 : ByteArray} {a0_1 : ByteArray} {b1_0 : ByteArray} {b1_1 : ByteArray} {w : World} {J : Bool → World → Prop} (h : VC_ref04_Before a0_0 a0_1 b1_0 b1_1 w J) : callJ Tryd.prog fn_ref04_Before #[.agg ⟨[.string a0_0, .string a0_1]⟩, .agg ⟨[.string b1_0, .string b1_1]⟩] w [.one .bool] J := vc_calls Tryd.func37 ann_ref04_Before (Eq.mpr (eq_ref04_Before a0_0 a0_1 b1_0 b1_1 w J) h)

/-- lectern/lecternref04.Prefixes -/
def VC_ref04_Prefixes (s0_0p : Option Addr) (s0_0l : Nat) (s0_0c : Nat) (s0_1p : Option Addr) (s0_1l : Nat) (s0_1c : Nat) (w : World) (J : Option Addr → Nat → Nat → World → Prop) : Prop :=
  newB w (.cells ⟨[.slice s0_0p s0_0l s0_0c, .slice s0_1p s0_1l s0_1c]⟩ T_ref04_Scope) fun b1 w1 =>
  newB w1 (.cells ⟨[]⟩ T_string) fun b9 w2 =>
  ldS w2 ⟨b1, 0, none⟩ fun x11p x11l x11c =>
  ∃ I_3 : Option Addr → Nat → Nat → Int → World → Nat → Prop, (∃ m : Nat, I_3 (some ⟨b9, 0, none⟩) 0 0 (0 : Int) w2 m) ∧ ∀ (out3p : Option Addr) (out3l : Nat) (out3c : Nat) (x13 : Int) (w3 : World) (m : Nat), I_3 out3p out3l out3c x13 w3 m → (
  condB (decide (x13 < ((x11l : Nat) : Int))) (
  withJ (fun (out3_1p : Option Addr) (out3_1l : Nat) (out3_1c : Nat) (w4 : World) =>
  ∃ m' : Nat, m' < m ∧ I_3 out3_1p out3_1l out3_1c (w64 (x13 + (1 : Int))) w4 m') fun J_3 =>
  idxA x11p x11l x13 fun a15 =>
  ldStr w3 ((a15.add (x13.toNat * 1))) fun x16 =>
  ldS w3 ⟨b1, 0, none⟩ fun x18_0p x18_0l x18_0c =>
  ldS w3 ⟨b1, 1, none⟩ fun x18_1p x18_1l x18_1c =>
  callJ Tryd.prog fn_ref04_Bound #[.agg ⟨[.slice x18_0p x18_0l x18_0c, .slice x18_1p x18_1l x18_1c]⟩, .string x16] w3 [.one .str, .one .bool] fun (r20_0 : ByteArray) (r20_1 : Bool) (w5 : World) =>
  withJ (fun (x28 : Bool) (w6 : World) =>
  condB x28 (
  J_3 out3p out3l out3c w6) (
  ∃ I_8 : Int → World → Nat → Prop, (∃ m : Nat, I_8 (0 : Int) w6 m) ∧ ∀ (k8 : Int) (w7 : World) (m_1 : Nat), I_8 k8 w7 m_1 → (
  withJ (fun (x40 : Bool) (w8 : World) =>
  condB x40 (
  ∃ m' : Nat, m' < m_1 ∧ I_8 (w64 (k8 + (1 : Int))) w8 m') (
  withJ (fun (x54 : Bool) (w9 : World) =>
  condB x54 (
  slS out3p out3l out3c 1 none (some k8) none fun q58p q58l q58c =>
  slS out3p out3l out3c 1 (some k8) none none fun q65p q65l q65c =>
  (
  newB w9.drew (.cells ⟨[]⟩ T_string) fun b55 w10 =>
  (
  appJ Tryd.prog T_sl_string T_sl_string (.slice (some ⟨b55, 0, none⟩) 0 0) (.slice q58p q58l q58c) w10 fun q59p q59l q59c w11 =>
  newB w11 (.cells ⟨[.string x16]⟩ T_string) fun b61 w12 =>
  appJ Tryd.prog T_sl_string T_sl_string (.slice q59p q59l q59c) (.slice (some ⟨b61, 0, none⟩) 1 1) w12 fun q62p q62l q62c w13 =>
  appJ Tryd.prog T_sl_string T_sl_string (.slice q62p q62l q62c) (.slice q65p q65l q65c) w13 fun q66p q66l q66c w14 =>
  J_3 q66p q66l q66c w14) ∧ (
  newB w10 (.cells ⟨[.string x16]⟩ T_string) fun b61_1 w15 =>
  appJ Tryd.prog T_sl_string T_sl_string (.slice (some ⟨b55, 0, none⟩) 0 0) (.slice q58p q58l q58c) w15 fun q59_1p q59_1l q59_1c w16 =>
  appJ Tryd.prog T_sl_string T_sl_string (.slice q59_1p q59_1l q59_1c) (.slice (some ⟨b61_1, 0, none⟩) 1 1) w16 fun q62_1p q62_1l q62_1c w17 =>
  appJ Tryd.prog T_sl_string T_sl_string (.slice q62_1p q62_1l q62_1c) (.slice q65p q65l q65c) w17 fun q66_1p q66_1l q66_1c w18 =>
  J_3 q66_1p q66_1l q66_1c w18)) ∧ (
  newB w9.drew (.cells ⟨[.string x16]⟩ T_string) fun b61_2 w19 =>
  newB w19 (.cells ⟨[]⟩ T_string) fun b55_1 w20 =>
  appJ Tryd.prog T_sl_string T_sl_string (.slice (some ⟨b55_1, 0, none⟩) 0 0) (.slice q58p q58l q58c) w20 fun q59_2p q59_2l q59_2c w21 =>
  appJ Tryd.prog T_sl_string T_sl_string (.slice q59_2p q59_2l q59_2c) (.slice (some ⟨b61_2, 0, none⟩) 1 1) w21 fun q62_2p q62_2l q62_2c w22 =>
  appJ Tryd.prog T_sl_string T_sl_string (.slice q62_2p q62_2l q62_2c) (.slice q65p q65l q65c) w22 fun q66_2p q66_2l q66_2c w23 =>
  J_3 q66_2p q66_2l q66_2c w23)) (
  J_3 out3p out3l out3c w9)) fun J_54 =>
  condB (k8 == ((out3l : Nat) : Int)) (
  J_54 true w8) (
  idxA out3p out3l k8 fun a50 =>
  ldStr w8 ((a50.add (k8.toNat * 1))) fun x51 =>
  J_54 (!(x51.toList == x16.toList)) w8))) fun J_40 =>
  condB (decide (k8 < ((out3l : Nat) : Int))) (
  idxA out3p out3l k8 fun a36 =>
  ldStr w7 ((a36.add (k8.toNat * 1))) fun x37 =>
  J_40 (Op.bytesLess x37.toList x16.toList) w7) (
  J_40 false w7)))) fun J_28 =>
  condB (x16.toList == (⟨#[120, 109, 108]⟩ : ByteArray).toList) (
  J_28 true w5) (
  J_28 (r20_0.toList == (⟨#[]⟩ : ByteArray).toList) w5)) (
  J out3p out3l out3c w3))
def ann_ref04_Prefixes : Ann := .s (.o) (.s (.o) (.s (.s (.o) (.b (.l [(3, .slice), (13, .int .i64)] (.s (.o) (.s (.c (.o) (.o)) (.j [(3, .slice)] (.b (.s (.o) (.s (.o) (.s (.j [(28, .bool)] (.o) (.c (.o) (.o))) (.s (.o) (.s (.b (.l [(8, .int .i64)] (.s (.j [(40, .bool)] (.o) (.c (.o) (.o))) (.b (.o))))) (.j [(54, .bool)] (.o) (.c (.d (.take 1 (.take 2 (.take 3 (.take 5 (.take 8 (.take 9 (.take 10 (.eff 0 (.eff 4 (.eff 6 (.eff 7 (.eff 11 (.take 12 (.done)) (.none)) (.none)) (.none)) (.eff 6 (.eff 4 (.eff 7 (.eff 11 (.take 12 (.done)) (.none)) (.none)) (.none)) (.none))) (.eff 6 (.eff 0 (.eff 4 (.eff 7 (.eff 11 (.take 12 (.done)) (.none)) (.none)) (.none)) (.none)) (.none))))))))))) (.o))))))))) (.o))))))) (.s (.o) (.o))))
theorem eq_ref04_Prefixes (s0_0p : Option Addr) (s0_0l : Nat) (s0_0c : Nat) (s0_1p : Option Addr) (s0_1l : Nat) (s0_1c : Nat) (w : World) (J : Option Addr → Nat → Nat → World → Prop) : vcFun Tryd.prog Tryd.f41 ann_ref04_Prefixes [.one .slice] [.agg ⟨[.slice s0_0p s0_0l s0_0c, .slice s0_1p s0_1l s0_1c]⟩] w J = VC_ref04_Prefixes s0_0p s0_0l s0_0c s0_1p s0_1l s0_1c w J := by kernel_rfl
theorem c_ref04_Prefixes {s0_0p : Option Addr} {s0_0l : Nat} {s0_0c : Nat} {s0_1p : Option Addr} {s0_1l : Nat} {s0_1c : Nat} {w : World} {J : Option Addr → Nat → Nat → World → Prop} (h : VC_ref04_Prefixes s0_0p s0_0l s0_0c s0_1p s0_1l s0_1c w J) : callJ Tryd.prog fn_ref04_Prefixes #[.agg ⟨[.slice s0_0p s0_0l s0_0c, .slice s0_1p s0_1l s0_1c]⟩] w [.one .slice] J := vc_calls Tryd.func41 ann_ref04_Prefixes (Eq.mpr (eq_ref04_Prefixes s0_0p s0_0l s0_0c s0_1p s0_1l s0_1c w J) h)

end Go.Proofs.YtdjehimkijlhgaaDoor
