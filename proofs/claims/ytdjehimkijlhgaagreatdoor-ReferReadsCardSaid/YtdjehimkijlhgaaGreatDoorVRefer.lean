/- What the conditions of these functions are, reckoned by the reading; printed by program. -/
import Derived.Test.YtdjehimkijlhgaaGreatDoorNm
import Derived.KernelRfl
set_option maxRecDepth 100000
set_option linter.unusedVariables false
namespace Go.Proofs.YtdjehimkijlhgaaGreatDoor
open Go Go.Vc

/-- lectern/refer.Expand -/
def VC_refer_Expand (b0p : Option Addr) (b0l : Nat) (b0c : Nat) (at1 : Int) (w : World) (J : Int → Int → Int → World → Prop) : Prop :=
  withJ (fun (x24 : Bool) (w1 : World) =>
  condB x24 (
  J (0 : Int) (0 : Int) (1 : Int) w1) (
  slS b0p b0l b0c 1 (some at1) none none fun q27p q27l q27c =>
  callJ Tryz.prog fn_bytes_IndexByte #[.slice q27p q27l q27c, .int .u8 (59 : Int)] w1 [.one (.int .i64)] fun (r28 : Int) (w2 : World) =>
  condB (decide (r28 < (0 : Int))) (
  J (0 : Int) (0 : Int) (22 : Int) w2) (
  slS b0p b0l b0c 1 (some (w64 (at1 + (1 : Int)))) (some (w64 (at1 + r28))) none fun q38p q38l q38c =>
  bytesOf w2 q38p q38l fun bs39 =>
  callJ Tryz.prog fn_refer_meant #[.string ⟨bs39.toArray⟩] w2 [.one (.int .i32), .one (.int .i64)] fun (r40_0 : Int) (r40_1 : Int) (w3 : World) =>
  condB (r40_1 != (0 : Int)) (
  J (0 : Int) (0 : Int) r40_1 w3) (
  J r40_0 (w64 ((w64 (at1 + r28)) + (1 : Int))) (0 : Int) w3)))) fun J_24 =>
  condB (decide (at1 < (0 : Int))) (
  J_24 true w) (
  condB (decide (at1 ≥ ((b0l : Nat) : Int))) (
  J_24 true w) (
  idxA b0p b0l at1 fun a21 =>
  ldI .u8 w ((a21.add (at1.toNat * 1))) fun x22 =>
  J_24 (x22 != (38 : Int)) w))
def ann_refer_Expand : Ann := .s (.o) (.s (.j [(24, .bool)] (.o) (.c (.s (.o) (.o)) (.o))) (.s (.o) (.s (.s (.o) (.c (.s (.o) (.o)) (.o))) (.s (.o) (.s (.s (.o) (.c (.s (.o) (.o)) (.o))) (.s (.o) (.o)))))))
theorem eq_refer_Expand (b0p : Option Addr) (b0l : Nat) (b0c : Nat) (at1 : Int) (w : World) (J : Int → Int → Int → World → Prop) : vcFun Tryz.prog Tryz.f10 ann_refer_Expand [.one (.int .i32), .one (.int .i64), .one (.int .i64)] [.slice b0p b0l b0c, .int .i64 at1] w J = VC_refer_Expand b0p b0l b0c at1 w J := by kernel_rfl
theorem c_refer_Expand {b0p : Option Addr} {b0l : Nat} {b0c : Nat} {at1 : Int} {w : World} {J : Int → Int → Int → World → Prop} (h : VC_refer_Expand b0p b0l b0c at1 w J) : callJ Tryz.prog fn_refer_Expand #[.slice b0p b0l b0c, .int .i64 at1] w [.one (.int .i32), .one (.int .i64), .one (.int .i64)] J := vc_calls Tryz.func10 ann_refer_Expand (Eq.mpr (eq_refer_Expand b0p b0l b0c at1 w J) h)

/-- lectern/refer.meant -/
def VC_refer_meant (s0 : ByteArray) (w : World) (J : Int → Int → World → Prop) : Prop :=
  condB (s0.toList == (⟨#[108, 116]⟩ : ByteArray).toList) (
  J (60 : Int) (0 : Int) w) (
  condB (s0.toList == (⟨#[103, 116]⟩ : ByteArray).toList) (
  J (62 : Int) (0 : Int) w) (
  condB (s0.toList == (⟨#[97, 109, 112]⟩ : ByteArray).toList) (
  J (38 : Int) (0 : Int) w) (
  condB (s0.toList == (⟨#[97, 112, 111, 115]⟩ : ByteArray).toList) (
  J (39 : Int) (0 : Int) w) (
  condB (s0.toList == (⟨#[113, 117, 111, 116]⟩ : ByteArray).toList) (
  J (34 : Int) (0 : Int) w) (
  callJ Tryz.prog fn_strings_CutPrefix #[.string s0, .string ⟨#[35]⟩] w [.one .str, .one .bool] fun (r26_0 : ByteArray) (r26_1 : Bool) (w1 : World) =>
  withJ (fun (digits4 : ByteArray) (base6 : Int) (w2 : World) =>
  withJ (fun (x41 : Bool) (w3 : World) =>
  condB x41 (
  J (0 : Int) (22 : Int) w3) (
  cvJ Tryz.prog T_string T_sl_uint8 (.string digits4) w3 fun q43p q43l q43c w4 =>
  ∃ I_9 : Int → Int → World → Nat → Prop, (∃ m : Nat, I_9 (0 : Int) (0 : Int) w4 m) ∧ ∀ (n9 : Int) (x45 : Int) (w5 : World) (m : Nat), I_9 n9 x45 w5 m → (
  condB (decide (x45 < ((q43l : Nat) : Int))) (
  idxA q43p q43l x45 fun a47 =>
  ldI .u8 w5 ((a47.add (x45.toNat * 1))) fun x48 =>
  callJ Tryz.prog fn_refer_digit #[.int .u8 x48] w5 [.one (.int .i64)] fun (r50 : Int) (w6 : World) =>
  condB (decide (r50 ≥ base6)) (
  J (0 : Int) (22 : Int) w6) (
  ∃ m' : Nat, m' < m ∧ I_9 (if (1114112 : Int) < (w64 ((w64 (n9 * base6)) + r50)) then (1114112 : Int) else (w64 ((w64 (n9 * base6)) + r50))) (w64 (x45 + (1 : Int))) w6 m')) (
  callJ Tryz.prog fn_char_IsChar #[.int .i32 (IntKind.i32.wrap n9)] w5 [.one .bool] fun (r63 : Bool) (w7 : World) =>
  condB (!r63) (
  J (0 : Int) (21 : Int) w7) (
  J (IntKind.i32.wrap n9) (0 : Int) w7))))) fun J_41 =>
  condB (!r26_1) (
  J_41 true w2) (
  J_41 (digits4.toList == (⟨#[]⟩ : ByteArray).toList) w2)) fun J_4 =>
  callJ Tryz.prog fn_strings_CutPrefix #[.string r26_0, .string ⟨#[120]⟩] w1 [.one .str, .one .bool] fun (r31_0 : ByteArray) (r31_1 : Bool) (w8 : World) =>
  condB r31_1 (
  J_4 r31_0 (16 : Int) w8) (
  J_4 r26_0 (10 : Int) w8))))))
def ann_refer_meant : Ann := .s (.o) (.s (.s (.o) (.b (.s (.o) (.c (.s (.o) (.o)) (.s (.o) (.c (.s (.o) (.o)) (.s (.o) (.c (.s (.o) (.o)) (.s (.o) (.c (.s (.o) (.o)) (.s (.o) (.c (.s (.o) (.o)) (.o))))))))))))) (.s (.o) (.s (.o) (.j [(4, .str), (6, .int .i64)] (.s (.o) (.s (.o) (.c (.o) (.o)))) (.s (.j [(41, .bool)] (.o) (.c (.s (.o) (.o)) (.o))) (.s (.o) (.s (.s (.o) (.b (.l [(9, .int .i64), (45, .int .i64)] (.s (.o) (.s (.c (.o) (.o)) (.s (.b (.s (.o) (.s (.o) (.s (.s (.o) (.c (.s (.o) (.o)) (.o))) (.o))))) (.o))))))) (.s (.s (.o) (.c (.s (.o) (.o)) (.o))) (.s (.o) (.o))))))))))
theorem eq_refer_meant (s0 : ByteArray) (w : World) (J : Int → Int → World → Prop) : vcFun Tryz.prog Tryz.f18 ann_refer_meant [.one (.int .i32), .one (.int .i64)] [.string s0] w J = VC_refer_meant s0 w J := by kernel_rfl
theorem c_refer_meant {s0 : ByteArray} {w : World} {J : Int → Int → World → Prop} (h : VC_refer_meant s0 w J) : callJ Tryz.prog fn_refer_meant #[.string s0] w [.one (.int .i32), .one (.int .i64)] J := vc_calls Tryz.func18 ann_refer_meant (Eq.mpr (eq_refer_meant s0 w J) h)

/-- lectern/refer.digit -/
def VC_refer_digit (c0 : Int) (w : World) (J : Int → World → Prop) : Prop :=
  withJ (fun (x3 : Bool) (w1 : World) =>
  condB x3 (
  J (w64 (IntKind.u8.wrap (c0 - (48 : Int)))) w1) (
  withJ (fun (x13 : Bool) (w2 : World) =>
  condB x13 (
  J (w64 ((w64 (IntKind.u8.wrap (c0 - (97 : Int)))) + (10 : Int))) w2) (
  withJ (fun (x24 : Bool) (w3 : World) =>
  condB x24 (
  J (w64 ((w64 (IntKind.u8.wrap (c0 - (65 : Int)))) + (10 : Int))) w3) (
  J (99 : Int) w3)) fun J_24 =>
  condB (decide (c0 ≥ (65 : Int))) (
  J_24 (decide (c0 ≤ (70 : Int))) w2) (
  J_24 false w2))) fun J_13 =>
  condB (decide (c0 ≥ (97 : Int))) (
  J_13 (decide (c0 ≤ (102 : Int))) w1) (
  J_13 false w1))) fun J_3 =>
  condB (decide (c0 ≥ (48 : Int))) (
  J_3 (decide (c0 ≤ (57 : Int))) w) (
  J_3 false w)
def ann_refer_digit : Ann := .s (.o) (.s (.b (.j [(3, .bool)] (.o) (.c (.s (.o) (.o)) (.j [(13, .bool)] (.o) (.c (.s (.o) (.o)) (.j [(24, .bool)] (.o) (.c (.s (.o) (.o)) (.o)))))))) (.s (.o) (.o)))
theorem eq_refer_digit (c0 : Int) (w : World) (J : Int → World → Prop) : vcFun Tryz.prog Tryz.f27 ann_refer_digit [.one (.int .i64)] [.int .u8 c0] w J = VC_refer_digit c0 w J := by kernel_rfl
theorem c_refer_digit {c0 : Int} {w : World} {J : Int → World → Prop} (h : VC_refer_digit c0 w J) : callJ Tryz.prog fn_refer_digit #[.int .u8 c0] w [.one (.int .i64)] J := vc_calls Tryz.func27 ann_refer_digit (Eq.mpr (eq_refer_digit c0 w J) h)

/-- lectern/refer.read -/
def VC_refer_read (b0p : Option Addr) (b0l : Nat) (b0c : Nat) (value1 : Bool) (w : World) (J : ByteArray → Int → Int → World → Prop) : Prop :=
  ∃ I_7 : Option Addr → Nat → Nat → Int → World → Nat → Prop, (∃ m : Nat, I_7 none 0 0 (0 : Int) w m) ∧ ∀ (l7p : Option Addr) (l7l : Nat) (l7c : Nat) (at8 : Int) (w1 : World) (m : Nat), I_7 l7p l7l l7c at8 w1 m → (
  condB (decide (at8 < ((b0l : Nat) : Int))) (
  callJ Tryz.prog fn_char_Next #[.slice b0p b0l b0c, .int .i64 at8] w1 [.one (.int .i32), .one (.int .i64), .one (.int .i64)] fun (r19_0 : Int) (r19_1 : Int) (r19_2 : Int) (w2 : World) =>
  withJ (fun (r9 : Int) (next10 : Int) (w3 : World) =>
  cvStrJ Tryz.prog T_int32 T_string (.int .i32 r9) w3 fun q74 w4 =>
  appJ Tryz.prog T_sl_uint8 T_string (.slice l7p l7l l7c) (.string q74) w4 fun q75p q75l q75c w5 =>
  ∃ m' : Nat, m' < m ∧ I_7 q75p q75l q75c next10 w5 m') fun J_9 =>
  condB (r19_2 != (0 : Int)) (
  J ⟨#[]⟩ at8 r19_2 w2) (
  withJ (fun (x28 : Bool) (w6 : World) =>
  condB x28 (
  J ⟨#[]⟩ at8 (23 : Int) w6) (
  condB (r19_0 == (38 : Int)) (
  callJ Tryz.prog fn_refer_Expand #[.slice b0p b0l b0c, .int .i64 at8] w6 [.one (.int .i32), .one (.int .i64), .one (.int .i64)] fun (r50_0 : Int) (r50_1 : Int) (r50_2 : Int) (w7 : World) =>
  condB (r50_2 != (0 : Int)) (
  J ⟨#[]⟩ at8 r50_2 w7) (
  J_9 r50_0 r50_1 w7)) (
  withJ (fun (x58 : Bool) (w8 : World) =>
  condB x58 (
  J_9 (32 : Int) r19_1 w8) (
  J_9 r19_0 r19_1 w8)) fun J_58 =>
  condB value1 (
  condB (r19_0 == (9 : Int)) (
  J_58 true w6) (
  condB (r19_0 == (10 : Int)) (
  J_58 true w6) (
  J_58 (r19_0 == (13 : Int)) w6))) (
  J_58 false w6)))) fun J_28 =>
  condB (r19_0 == (60 : Int)) (
  J_28 true w2) (
  condB (!value1) (
  slS b0p b0l b0c 1 (some at8) none none fun q37p q37l q37c =>
  newB w2 (.cells ⟨[.int .u8 (93 : Int), .int .u8 (93 : Int), .int .u8 (62 : Int)]⟩ T_uint8) fun b38 w9 =>
  cvJ Tryz.prog T_sl_uint8 T_sl_uint8 (.slice (some ⟨b38, 0, none⟩) 3 3) w9 fun q39p q39l q39c w10 =>
  callJ Tryz.prog fn_bytes_HasPrefix #[.slice q37p q37l q37c, .slice q39p q39l q39c] w10 [.one .bool] fun (r40 : Bool) (w11 : World) =>
  J_28 r40 w11) (
  J_28 false w2)))) (
  bytesOf w1 l7p l7l fun bs78 =>
  J ⟨bs78.toArray⟩ (0 : Int) (0 : Int) w1))
def ann_refer_read : Ann := .s (.o) (.s (.o) (.s (.s (.o) (.b (.l [(7, .slice), (8, .int .i64)] (.s (.s (.o) (.c (.o) (.o))) (.b (.s (.o) (.j [(9, .int .i32), (10, .int .i64)] (.b (.s (.o) (.c (.s (.o) (.o)) (.j [(28, .bool)] (.o) (.c (.s (.o) (.o)) (.s (.o) (.c (.s (.o) (.s (.o) (.c (.s (.o) (.o)) (.o)))) (.j [(58, .bool)] (.o) (.c (.o) (.o)))))))))) (.s (.o) (.o))))))))) (.s (.o) (.o))))
theorem eq_refer_read (b0p : Option Addr) (b0l : Nat) (b0c : Nat) (value1 : Bool) (w : World) (J : ByteArray → Int → Int → World → Prop) : vcFun Tryz.prog Tryz.f12 ann_refer_read [.one .str, .one (.int .i64), .one (.int .i64)] [.slice b0p b0l b0c, .bool value1] w J = VC_refer_read b0p b0l b0c value1 w J := by kernel_rfl
theorem c_refer_read {b0p : Option Addr} {b0l : Nat} {b0c : Nat} {value1 : Bool} {w : World} {J : ByteArray → Int → Int → World → Prop} (h : VC_refer_read b0p b0l b0c value1 w J) : callJ Tryz.prog fn_refer_read #[.slice b0p b0l b0c, .bool value1] w [.one .str, .one (.int .i64), .one (.int .i64)] J := vc_calls Tryz.func12 ann_refer_read (Eq.mpr (eq_refer_read b0p b0l b0c value1 w J) h)

/-- lectern/refer.ReadText -/
def VC_refer_ReadText (b0p : Option Addr) (b0l : Nat) (b0c : Nat) (w : World) (J : ByteArray → Int → Int → World → Prop) : Prop :=
  callJ Tryz.prog fn_refer_read #[.slice b0p b0l b0c, .bool false] w [.one .str, .one (.int .i64), .one (.int .i64)] fun (r6_0 : ByteArray) (r6_1 : Int) (r6_2 : Int) (w1 : World) =>
  J r6_0 r6_1 r6_2 w1
def ann_refer_ReadText : Ann := .s (.o) (.s (.o) (.o))
theorem eq_refer_ReadText (b0p : Option Addr) (b0l : Nat) (b0c : Nat) (w : World) (J : ByteArray → Int → Int → World → Prop) : vcFun Tryz.prog Tryz.f6 ann_refer_ReadText [.one .str, .one (.int .i64), .one (.int .i64)] [.slice b0p b0l b0c] w J = VC_refer_ReadText b0p b0l b0c w J := by kernel_rfl
theorem c_refer_ReadText {b0p : Option Addr} {b0l : Nat} {b0c : Nat} {w : World} {J : ByteArray → Int → Int → World → Prop} (h : VC_refer_ReadText b0p b0l b0c w J) : callJ Tryz.prog fn_refer_ReadText #[.slice b0p b0l b0c] w [.one .str, .one (.int .i64), .one (.int .i64)] J := vc_calls Tryz.func6 ann_refer_ReadText (Eq.mpr (eq_refer_ReadText b0p b0l b0c w J) h)

/-- lectern/refer.ReadValue -/
def VC_refer_ReadValue (b0p : Option Addr) (b0l : Nat) (b0c : Nat) (w : World) (J : ByteArray → Int → Int → World → Prop) : Prop :=
  callJ Tryz.prog fn_refer_read #[.slice b0p b0l b0c, .bool true] w [.one .str, .one (.int .i64), .one (.int .i64)] fun (r6_0 : ByteArray) (r6_1 : Int) (r6_2 : Int) (w1 : World) =>
  J r6_0 r6_1 r6_2 w1
def ann_refer_ReadValue : Ann := .s (.o) (.s (.o) (.o))
theorem eq_refer_ReadValue (b0p : Option Addr) (b0l : Nat) (b0c : Nat) (w : World) (J : ByteArray → Int → Int → World → Prop) : vcFun Tryz.prog Tryz.f8 ann_refer_ReadValue [.one .str, .one (.int .i64), .one (.int .i64)] [.slice b0p b0l b0c] w J = VC_refer_ReadValue b0p b0l b0c w J := by kernel_rfl
theorem c_refer_ReadValue {b0p : Option Addr} {b0l : Nat} {b0c : Nat} {w : World} {J : ByteArray → Int → Int → World → Prop} (h : VC_refer_ReadValue b0p b0l b0c w J) : callJ Tryz.prog fn_refer_ReadValue #[.slice b0p b0l b0c] w [.one .str, .one (.int .i64), .one (.int .i64)] J := vc_calls Tryz.func8 ann_refer_ReadValue (Eq.mpr (eq_refer_ReadValue b0p b0l b0c w J) h)

/-- lectern/lecternref02.Expand -/
def VC_ref02_Expand (b0p : Option Addr) (b0l : Nat) (b0c : Nat) (at1 : Int) (w : World) (J : Int → Int → Int → World → Prop) : Prop :=
  callJ Tryz.prog fn_ref02_word #[.slice b0p b0l b0c, .int .i64 (w64 (at1 + (1 : Int)))] w [.one (.int .i64), .one (.int .i64)] fun (r17_0 : Int) (r17_1 : Int) (w1 : World) =>
  condB (decide (r17_1 > (0 : Int))) (
  J r17_0 r17_1 (0 : Int) w1) (
  withJ (fun (x36 : Bool) (w2 : World) =>
  condB x36 (
  J (0 : Int) (0 : Int) (22 : Int) w2) (
  withJ (fun (i9 : Int) (base10 : Int) (w3 : World) =>
  ∃ I_9 : Int → Int → Int → World → Nat → Prop, (∃ m : Nat, I_9 i9 (0 : Int) (0 : Int) w3 m) ∧ ∀ (i9_1 : Int) (n11 : Int) (count12 : Int) (w4 : World) (m : Nat), I_9 i9_1 n11 count12 w4 m → (
  withJ (fun (x72 : Bool) (w5 : World) =>
  condB x72 (
  withJ (fun (n11_1 : Int) (w6 : World) =>
  ∃ m' : Nat, m' < m ∧ I_9 (w64 (i9_1 + (1 : Int))) n11_1 (w64 (count12 + (1 : Int))) w6 m') fun J_11 =>
  condB (decide (n11 < (2097152 : Int))) (
  idxA b0p b0l i9_1 fun a80 =>
  ldI .u8 w5 ((a80.add (i9_1.toNat * 1))) fun x81 =>
  callJ Tryz.prog fn_ref02_hex #[.int .u8 x81] w5 [.one (.int .i64)] fun (r82 : Int) (w7 : World) =>
  J_11 (w64 ((w64 (base10 * n11)) + r82)) w7) (
  J_11 n11 w5)) (
  withJ (fun (x102 : Bool) (w8 : World) =>
  condB x102 (
  J (0 : Int) (0 : Int) (22 : Int) w8) (
  callJ Tryz.prog fn_ref01_Char #[.int .i64 n11] w8 [.one .bool] fun (r104 : Bool) (w9 : World) =>
  condB (!r104) (
  J (0 : Int) (0 : Int) (21 : Int) w9) (
  J n11 (w64 (i9_1 + (1 : Int))) (0 : Int) w9))) fun J_102 =>
  condB (count12 == (0 : Int)) (
  J_102 true w5) (
  condB (decide (i9_1 ≥ ((b0l : Nat) : Int))) (
  J_102 true w5) (
  idxA b0p b0l i9_1 fun a99 =>
  ldI .u8 w5 ((a99.add (i9_1.toNat * 1))) fun x100 =>
  J_102 (x100 != (59 : Int)) w5)))) fun J_72 =>
  condB (decide (i9_1 < ((b0l : Nat) : Int))) (
  idxA b0p b0l i9_1 fun a59 =>
  ldI .u8 w4 ((a59.add (i9_1.toNat * 1))) fun x60 =>
  callJ Tryz.prog fn_ref02_hex #[.int .u8 x60] w4 [.one (.int .i64)] fun (r61 : Int) (w10 : World) =>
  condB (decide (r61 ≥ (0 : Int))) (
  idxA b0p b0l i9_1 fun a67 =>
  ldI .u8 w10 ((a67.add (i9_1.toNat * 1))) fun x68 =>
  callJ Tryz.prog fn_ref02_hex #[.int .u8 x68] w10 [.one (.int .i64)] fun (r69 : Int) (w11 : World) =>
  J_72 (decide (r69 < base10)) w11) (
  J_72 false w10)) (
  J_72 false w4))) fun J_9 =>
  withJ (fun (x49 : Bool) (w12 : World) =>
  condB x49 (
  J_9 (w64 ((w64 ((w64 (at1 + (1 : Int))) + (1 : Int))) + (1 : Int))) (16 : Int) w12) (
  J_9 (w64 ((w64 (at1 + (1 : Int))) + (1 : Int))) (10 : Int) w12)) fun J_49 =>
  condB (decide ((w64 ((w64 (at1 + (1 : Int))) + (1 : Int))) < ((b0l : Nat) : Int))) (
  idxA b0p b0l (w64 ((w64 (at1 + (1 : Int))) + (1 : Int))) fun a46 =>
  ldI .u8 w2 ((a46.add ((w64 ((w64 (at1 + (1 : Int))) + (1 : Int))).toNat * 1))) fun x47 =>
  J_49 (x47 == (120 : Int)) w2) (
  J_49 false w2))) fun J_36 =>
  condB (decide ((w64 (at1 + (1 : Int))) ≥ ((b0l : Nat) : Int))) (
  J_36 true w1) (
  idxA b0p b0l (w64 (at1 + (1 : Int))) fun a33 =>
  ldI .u8 w1 ((a33.add ((w64 (at1 + (1 : Int))).toNat * 1))) fun x34 =>
  J_36 (x34 != (35 : Int)) w1))
def ann_ref02_Expand : Ann := .s (.o) (.s (.o) (.s (.s (.o) (.c (.s (.o) (.o)) (.o))) (.s (.o) (.s (.o) (.s (.j [(36, .bool)] (.o) (.c (.s (.o) (.o)) (.o))) (.s (.o) (.j [(9, .int .i64), (10, .int .i64)] (.j [(49, .bool)] (.o) (.c (.s (.o) (.o)) (.o))) (.s (.o) (.s (.o) (.s (.b (.l [(9, .int .i64), (11, .int .i64), (12, .int .i64)] (.s (.j [(72, .bool)] (.o) (.c (.o) (.o))) (.b (.j [(11, .int .i64)] (.s (.o) (.c (.o) (.o))) (.s (.o) (.o))))))) (.s (.j [(102, .bool)] (.o) (.c (.s (.o) (.o)) (.o))) (.s (.s (.o) (.c (.s (.o) (.o)) (.o))) (.s (.o) (.o))))))))))))))
theorem eq_ref02_Expand (b0p : Option Addr) (b0l : Nat) (b0c : Nat) (at1 : Int) (w : World) (J : Int → Int → Int → World → Prop) : vcFun Tryz.prog Tryz.f15 ann_ref02_Expand [.one (.int .i64), .one (.int .i64), .one (.int .i64)] [.slice b0p b0l b0c, .int .i64 at1] w J = VC_ref02_Expand b0p b0l b0c at1 w J := by kernel_rfl
theorem c_ref02_Expand {b0p : Option Addr} {b0l : Nat} {b0c : Nat} {at1 : Int} {w : World} {J : Int → Int → Int → World → Prop} (h : VC_ref02_Expand b0p b0l b0c at1 w J) : callJ Tryz.prog fn_ref02_Expand #[.slice b0p b0l b0c, .int .i64 at1] w [.one (.int .i64), .one (.int .i64), .one (.int .i64)] J := vc_calls Tryz.func15 ann_ref02_Expand (Eq.mpr (eq_ref02_Expand b0p b0l b0c at1 w J) h)

/-- lectern/lecternref02.Read -/
def VC_ref02_Read (b0p : Option Addr) (b0l : Nat) (b0c : Nat) (value1 : Bool) (w : World) (J : ByteArray → Int → Int → World → Prop) : Prop :=
  newB w (.cells ⟨[]⟩ T_uint8) fun b13 w1 =>
  ∃ I_7 : Option Addr → Nat → Nat → Int → World → Nat → Prop, (∃ m : Nat, I_7 (some ⟨b13, 0, none⟩) 0 0 (0 : Int) w1 m) ∧ ∀ (out7p : Option Addr) (out7l : Nat) (out7c : Nat) (at8 : Int) (w2 : World) (m : Nat), I_7 out7p out7l out7c at8 w2 m → (
  condB (decide (at8 < ((b0l : Nat) : Int))) (
  callJ Tryz.prog fn_ref01_Read #[.slice b0p b0l b0c, .int .i64 at8] w2 [.one (.int .i64), .one (.int .i64)] fun (r21_0 : Int) (r21_1 : Int) (w3 : World) =>
  condB (r21_1 == (0 : Int)) (
  J ⟨#[]⟩ at8 (20 : Int) w3) (
  callJ Tryz.prog fn_ref01_Char #[.int .i64 r21_0] w3 [.one .bool] fun (r28 : Bool) (w4 : World) =>
  condB (!r28) (
  J ⟨#[]⟩ at8 (21 : Int) w4) (
  withJ (fun (x63 : Bool) (w5 : World) =>
  condB x63 (
  J ⟨#[]⟩ at8 (23 : Int) w5) (
  withJ (fun (c9 : Int) (next11 : Int) (w6 : World) =>
  cvStrJ Tryz.prog T_int32 T_string (.int .i32 (IntKind.i32.wrap c9)) w6 fun q97 w7 =>
  cvJ Tryz.prog T_string T_sl_uint8 (.string q97) w7 fun q98p q98l q98c w8 =>
  appJ Tryz.prog T_sl_uint8 T_sl_uint8 (.slice out7p out7l out7c) (.slice q98p q98l q98c) w8 fun q99p q99l q99c w9 =>
  ∃ m' : Nat, m' < m ∧ I_7 q99p q99l q99c next11 w9 m') fun J_9 =>
  condB (r21_0 == (38 : Int)) (
  callJ Tryz.prog fn_ref02_Expand #[.slice b0p b0l b0c, .int .i64 at8] w5 [.one (.int .i64), .one (.int .i64), .one (.int .i64)] fun (r73_0 : Int) (r73_1 : Int) (r73_2 : Int) (w10 : World) =>
  condB (r73_2 != (0 : Int)) (
  J ⟨#[]⟩ at8 r73_2 w10) (
  J_9 r73_0 r73_1 w10)) (
  withJ (fun (x93 : Bool) (w11 : World) =>
  condB x93 (
  J_9 (32 : Int) (w64 (at8 + r21_1)) w11) (
  J_9 r21_0 (w64 (at8 + r21_1)) w11)) fun J_93 =>
  condB value1 (
  condB (r21_0 == (9 : Int)) (
  J_93 true w5) (
  condB (r21_0 == (10 : Int)) (
  J_93 true w5) (
  J_93 (r21_0 == (13 : Int)) w5))) (
  J_93 false w5)))) fun J_63 =>
  condB (r21_0 == (60 : Int)) (
  J_63 true w4) (
  condB (!value1) (
  condB (r21_0 == (93 : Int)) (
  condB (decide ((w64 (at8 + (2 : Int))) < ((b0l : Nat) : Int))) (
  idxA b0p b0l (w64 (at8 + (1 : Int))) fun a51 =>
  ldI .u8 w4 ((a51.add ((w64 (at8 + (1 : Int))).toNat * 1))) fun x52 =>
  condB (x52 == (93 : Int)) (
  idxA b0p b0l (w64 (at8 + (2 : Int))) fun a59 =>
  ldI .u8 w4 ((a59.add ((w64 (at8 + (2 : Int))).toNat * 1))) fun x60 =>
  J_63 (x60 == (62 : Int)) w4) (
  J_63 false w4)) (
  J_63 false w4)) (
  J_63 false w4)) (
  J_63 false w4))))) (
  bytesOf w2 out7p out7l fun bs102 =>
  J ⟨bs102.toArray⟩ (0 : Int) (0 : Int) w2))
def ann_ref02_Read : Ann := .s (.o) (.s (.o) (.s (.s (.o) (.b (.l [(7, .slice), (8, .int .i64)] (.s (.s (.o) (.c (.o) (.o))) (.b (.s (.o) (.s (.s (.o) (.c (.s (.o) (.o)) (.o))) (.s (.s (.o) (.c (.s (.o) (.o)) (.o))) (.s (.j [(63, .bool)] (.o) (.c (.s (.o) (.o)) (.o))) (.s (.o) (.j [(9, .int .i64), (11, .int .i64)] (.s (.o) (.c (.s (.o) (.s (.o) (.s (.o) (.c (.s (.o) (.o)) (.o))))) (.j [(93, .bool)] (.o) (.c (.o) (.o))))) (.s (.o) (.o))))))))))))) (.s (.o) (.o))))
theorem eq_ref02_Read (b0p : Option Addr) (b0l : Nat) (b0c : Nat) (value1 : Bool) (w : World) (J : ByteArray → Int → Int → World → Prop) : vcFun Tryz.prog Tryz.f7 ann_ref02_Read [.one .str, .one (.int .i64), .one (.int .i64)] [.slice b0p b0l b0c, .bool value1] w J = VC_ref02_Read b0p b0l b0c value1 w J := by kernel_rfl
theorem c_ref02_Read {b0p : Option Addr} {b0l : Nat} {b0c : Nat} {value1 : Bool} {w : World} {J : ByteArray → Int → Int → World → Prop} (h : VC_ref02_Read b0p b0l b0c value1 w J) : callJ Tryz.prog fn_ref02_Read #[.slice b0p b0l b0c, .bool value1] w [.one .str, .one (.int .i64), .one (.int .i64)] J := vc_calls Tryz.func7 ann_ref02_Read (Eq.mpr (eq_ref02_Read b0p b0l b0c value1 w J) h)

/-- lectern/lecternlaw02.ReferReads -/
def VC_law02_ReferReads (b0p : Option Addr) (b0l : Nat) (b0c : Nat) (w : World) (J : Bool → World → Prop) : Prop :=
  callJ Tryz.prog fn_law02_awake #[] w [.one .bool] fun (r16 : Bool) (w1 : World) =>
  condB (!r16) (
  J false w1) (
  callJ Tryz.prog fn_ref01_Spare #[.slice b0p b0l b0c] w1 [.one .slice] fun (r19p : Option Addr) (r19l : Nat) (r19c : Nat) (w2 : World) =>
  callJ Tryz.prog fn_refer_ReadText #[.slice r19p r19l r19c] w2 [.one .str, .one (.int .i64), .one (.int .i64)] fun (r22_0 : ByteArray) (r22_1 : Int) (r22_2 : Int) (w3 : World) =>
  callJ Tryz.prog fn_ref02_Read #[.slice b0p b0l b0c, .bool false] w3 [.one .str, .one (.int .i64), .one (.int .i64)] fun (r28_0 : ByteArray) (r28_1 : Int) (r28_2 : Int) (w4 : World) =>
  callJ Tryz.prog fn_refer_ReadValue #[.slice r19p r19l r19c] w4 [.one .str, .one (.int .i64), .one (.int .i64)] fun (r34_0 : ByteArray) (r34_1 : Int) (r34_2 : Int) (w5 : World) =>
  callJ Tryz.prog fn_ref02_Read #[.slice b0p b0l b0c, .bool true] w5 [.one .str, .one (.int .i64), .one (.int .i64)] fun (r40_0 : ByteArray) (r40_1 : Int) (r40_2 : Int) (w6 : World) =>
  withJ (fun (x2 : Bool) (w7 : World) =>
  J x2 w7) fun J_2 =>
  condB (r22_0.toList == r28_0.toList) (
  condB (r22_1 == r28_1) (
  condB (r22_2 == r28_2) (
  condB (r34_0.toList == r40_0.toList) (
  condB (r34_1 == r40_1) (
  condB (r34_2 == r40_2) (
  callJ Tryz.prog fn_ref01_Kept #[.slice r19p r19l r19c, .slice b0p b0l b0c] w6 [.one .bool] fun (r75 : Bool) (w8 : World) =>
  J_2 r75 w8) (
  J_2 false w6)) (
  J_2 false w6)) (
  J_2 false w6)) (
  J_2 false w6)) (
  J_2 false w6)) (
  J_2 false w6))
def ann_law02_ReferReads : Ann := .s (.o) (.s (.s (.o) (.c (.s (.o) (.o)) (.o))) (.s (.o) (.s (.o) (.s (.o) (.s (.o) (.s (.o) (.j [(2, .bool)] (.o) (.o))))))))
theorem eq_law02_ReferReads (b0p : Option Addr) (b0l : Nat) (b0c : Nat) (w : World) (J : Bool → World → Prop) : vcFun Tryz.prog Tryz.f3 ann_law02_ReferReads [.one .bool] [.slice b0p b0l b0c] w J = VC_law02_ReferReads b0p b0l b0c w J := by kernel_rfl
theorem c_law02_ReferReads {b0p : Option Addr} {b0l : Nat} {b0c : Nat} {w : World} {J : Bool → World → Prop} (h : VC_law02_ReferReads b0p b0l b0c w J) : callJ Tryz.prog fn_law02_ReferReads #[.slice b0p b0l b0c] w [.one .bool] J := vc_calls Tryz.func3 ann_law02_ReferReads (Eq.mpr (eq_law02_ReferReads b0p b0l b0c w J) h)

/-- lectern/lecternref02.word -/
def VC_ref02_word (b0p : Option Addr) (b0l : Nat) (b0c : Nat) (at1 : Int) (w : World) (J : Int → Int → World → Prop) : Prop :=
  ∃ I_6 : Int → World → Nat → Prop, (∃ m : Nat, I_6 (0 : Int) w m) ∧ ∀ (k6 : Int) (w1 : World) (m : Nat), I_6 k6 w1 m → (
  condB (decide (k6 < (5 : Int))) (
  idxAgg ⟨[.string ⟨#[108, 116, 59]⟩, .string ⟨#[103, 116, 59]⟩, .string ⟨#[97, 109, 112, 59]⟩, .string ⟨#[97, 112, 111, 115, 59]⟩, .string ⟨#[113, 117, 111, 116, 59]⟩]⟩ 5 k6 fun x14 =>
  withJ (fun (x33 : Bool) (w2 : World) =>
  condB x33 (
  idxAggI .i64 ⟨[.int .i64 (60 : Int), .int .i64 (62 : Int), .int .i64 (38 : Int), .int .i64 (39 : Int), .int .i64 (34 : Int)]⟩ 5 k6 fun x36 =>
  J x36 (w64 (at1 + (x14.size : Int))) w2) (
  ∃ m' : Nat, m' < m ∧ I_6 (w64 (k6 + (1 : Int))) w2 m')) fun J_33 =>
  condB (decide ((w64 (at1 + (x14.size : Int))) ≤ ((b0l : Nat) : Int))) (
  slS b0p b0l b0c 1 (some at1) (some (w64 (at1 + (x14.size : Int)))) none fun q29p q29l q29c =>
  bytesOf w1 q29p q29l fun bs30 =>
  J_33 ((⟨bs30.toArray⟩ : ByteArray).toList == x14.toList) w1) (
  J_33 false w1)) (
  J (0 : Int) (0 : Int) w1))
def ann_ref02_word : Ann := .s (.o) (.s (.s (.o) (.b (.l [(6, .int .i64)] (.s (.s (.o) (.c (.o) (.o))) (.s (.b (.s (.o) (.j [(33, .bool)] (.o) (.c (.s (.o) (.o)) (.o))))) (.o)))))) (.s (.o) (.o)))
theorem eq_ref02_word (b0p : Option Addr) (b0l : Nat) (b0c : Nat) (at1 : Int) (w : World) (J : Int → Int → World → Prop) : vcFun Tryz.prog Tryz.f23 ann_ref02_word [.one (.int .i64), .one (.int .i64)] [.slice b0p b0l b0c, .int .i64 at1] w J = VC_ref02_word b0p b0l b0c at1 w J := by kernel_rfl
theorem c_ref02_word {b0p : Option Addr} {b0l : Nat} {b0c : Nat} {at1 : Int} {w : World} {J : Int → Int → World → Prop} (h : VC_ref02_word b0p b0l b0c at1 w J) : callJ Tryz.prog fn_ref02_word #[.slice b0p b0l b0c, .int .i64 at1] w [.one (.int .i64), .one (.int .i64)] J := vc_calls Tryz.func23 ann_ref02_word (Eq.mpr (eq_ref02_word b0p b0l b0c at1 w J) h)

/-- lectern/lecternref02.hex -/
def VC_ref02_hex (c0 : Int) (w : World) (J : Int → World → Prop) : Prop :=
  withJ (fun (x8 : Bool) (w1 : World) =>
  condB x8 (
  J (w64 ((w64 c0) - (48 : Int))) w1) (
  withJ (fun (x17 : Bool) (w2 : World) =>
  condB x17 (
  J (w64 ((w64 ((w64 c0) - (97 : Int))) + (10 : Int))) w2) (
  withJ (fun (x27 : Bool) (w3 : World) =>
  condB x27 (
  J (w64 ((w64 ((w64 c0) - (65 : Int))) + (10 : Int))) w3) (
  J (-1 : Int) w3)) fun J_27 =>
  condB (decide (c0 ≥ (65 : Int))) (
  J_27 (decide (c0 ≤ (70 : Int))) w2) (
  J_27 false w2))) fun J_17 =>
  condB (decide (c0 ≥ (97 : Int))) (
  J_17 (decide (c0 ≤ (102 : Int))) w1) (
  J_17 false w1))) fun J_8 =>
  condB (decide (c0 ≥ (48 : Int))) (
  J_8 (decide (c0 ≤ (57 : Int))) w) (
  J_8 false w)
def ann_ref02_hex : Ann := .s (.o) (.s (.j [(8, .bool)] (.o) (.c (.s (.o) (.o)) (.o))) (.s (.j [(17, .bool)] (.o) (.c (.s (.o) (.o)) (.o))) (.s (.j [(27, .bool)] (.o) (.c (.s (.o) (.o)) (.o))) (.s (.o) (.o)))))
theorem eq_ref02_hex (c0 : Int) (w : World) (J : Int → World → Prop) : vcFun Tryz.prog Tryz.f24 ann_ref02_hex [.one (.int .i64)] [.int .u8 c0] w J = VC_ref02_hex c0 w J := by kernel_rfl
theorem c_ref02_hex {c0 : Int} {w : World} {J : Int → World → Prop} (h : VC_ref02_hex c0 w J) : callJ Tryz.prog fn_ref02_hex #[.int .u8 c0] w [.one (.int .i64)] J := vc_calls Tryz.func24 ann_ref02_hex (Eq.mpr (eq_ref02_hex c0 w J) h)

/-- lectern/lecternlaw02.awake -/
def VC_law02_awake  (w : World) (J : Bool → World → Prop) : Prop :=
  newB w (.cells ⟨[.int .u8 (38 : Int), .int .u8 (35 : Int), .int .u8 (120 : Int), .int .u8 (52 : Int), .int .u8 (49 : Int), .int .u8 (59 : Int)]⟩ T_uint8) fun b8 w1 =>
  cvJ Tryz.prog T_sl_uint8 T_sl_uint8 (.slice (some ⟨b8, 0, none⟩) 6 6) w1 fun q9p q9l q9c w2 =>
  callJ Tryz.prog fn_refer_Expand #[.slice q9p q9l q9c, .int .i64 (0 : Int)] w2 [.one (.int .i32), .one (.int .i64), .one (.int .i64)] fun (r10_0 : Int) (r10_1 : Int) (r10_2 : Int) (w3 : World) =>
  newB w3 (.cells ⟨[.int .u8 (97 : Int), .int .u8 (38 : Int), .int .u8 (103 : Int), .int .u8 (116 : Int), .int .u8 (59 : Int), .int .u8 (98 : Int)]⟩ T_uint8) fun b15 w4 =>
  cvJ Tryz.prog T_sl_uint8 T_sl_uint8 (.slice (some ⟨b15, 0, none⟩) 6 6) w4 fun q16p q16l q16c w5 =>
  callJ Tryz.prog fn_refer_ReadText #[.slice q16p q16l q16c] w5 [.one .str, .one (.int .i64), .one (.int .i64)] fun (r17_0 : ByteArray) (r17_1 : Int) (r17_2 : Int) (w6 : World) =>
  withJ (fun (x0 : Bool) (w7 : World) =>
  J x0 w7) fun J_0 =>
  condB (r10_0 == (65 : Int)) (
  condB (r10_1 == (6 : Int)) (
  condB (r10_2 == (0 : Int)) (
  condB (r17_0.toList == (⟨#[97, 62, 98]⟩ : ByteArray).toList) (
  condB (r17_2 == (0 : Int)) (
  callJ Tryz.prog fn_refer_Text #[.string ⟨#[97, 60, 98]⟩] w6 [.one .str] fun (r40 : ByteArray) (w8 : World) =>
  J_0 (r40.toList == (⟨#[97, 38, 108, 116, 59, 98]⟩ : ByteArray).toList) w8) (
  J_0 false w6)) (
  J_0 false w6)) (
  J_0 false w6)) (
  J_0 false w6)) (
  J_0 false w6)
def ann_law02_awake : Ann := .s (.o) (.s (.o) (.s (.o) (.j [(0, .bool)] (.o) (.o))))
theorem eq_law02_awake  (w : World) (J : Bool → World → Prop) : vcFun Tryz.prog Tryz.f4 ann_law02_awake [.one .bool] [] w J = VC_law02_awake  w J := by kernel_rfl
theorem c_law02_awake {w : World} {J : Bool → World → Prop} (h : VC_law02_awake  w J) : callJ Tryz.prog fn_law02_awake #[] w [.one .bool] J := vc_calls Tryz.func4 ann_law02_awake (Eq.mpr (eq_law02_awake  w J) h)

/-- bytes.IndexByte -/
def VC_bytes_IndexByte (b0p : Option Addr) (b0l : Nat) (b0c : Nat) (c1 : Int) (w : World) (J : Int → World → Prop) : Prop :=
  extJ Tryz.prog fn_internal_bytealg_IndexByte #[.slice b0p b0l b0c, .int .u8 c1] w [.one (.int .i64)] fun (r7 : Int) (w1 : World) =>
  J r7 w1
def ann_bytes_IndexByte : Ann := .s (.o) (.s (.o) (.o))
theorem eq_bytes_IndexByte (b0p : Option Addr) (b0l : Nat) (b0c : Nat) (c1 : Int) (w : World) (J : Int → World → Prop) : vcFun Tryz.prog Tryz.f17 ann_bytes_IndexByte [.one (.int .i64)] [.slice b0p b0l b0c, .int .u8 c1] w J = VC_bytes_IndexByte b0p b0l b0c c1 w J := by kernel_rfl
theorem c_bytes_IndexByte {b0p : Option Addr} {b0l : Nat} {b0c : Nat} {c1 : Int} {w : World} {J : Int → World → Prop} (h : VC_bytes_IndexByte b0p b0l b0c c1 w J) : callJ Tryz.prog fn_bytes_IndexByte #[.slice b0p b0l b0c, .int .u8 c1] w [.one (.int .i64)] J := vc_calls Tryz.func17 ann_bytes_IndexByte (Eq.mpr (eq_bytes_IndexByte b0p b0l b0c c1 w J) h)

/-- bytes.HasPrefix -/
def VC_bytes_HasPrefix (s0p : Option Addr) (s0l : Nat) (s0c : Nat) (prefix1p : Option Addr) (prefix1l : Nat) (prefix1c : Nat) (w : World) (J : Bool → World → Prop) : Prop :=
  withJ (fun (x4 : Bool) (w1 : World) =>
  J x4 w1) fun J_4 =>
  condB (decide (((s0l : Nat) : Int) ≥ ((prefix1l : Nat) : Int))) (
  slS s0p s0l s0c 1 none (some ((prefix1l : Nat) : Int)) none fun q14p q14l q14c =>
  callJ Tryz.prog fn_bytes_Equal #[.slice q14p q14l q14c, .slice prefix1p prefix1l prefix1c] w [.one .bool] fun (r16 : Bool) (w2 : World) =>
  J_4 r16 w2) (
  J_4 false w)
def ann_bytes_HasPrefix : Ann := .s (.o) (.j [(4, .bool)] (.o) (.o))
theorem eq_bytes_HasPrefix (s0p : Option Addr) (s0l : Nat) (s0c : Nat) (prefix1p : Option Addr) (prefix1l : Nat) (prefix1c : Nat) (w : World) (J : Bool → World → Prop) : vcFun Tryz.prog Tryz.f22 ann_bytes_HasPrefix [.one .bool] [.slice s0p s0l s0c, .slice prefix1p prefix1l prefix1c] w J = VC_bytes_HasPrefix s0p s0l s0c prefix1p prefix1l prefix1c w J := by kernel_rfl
theorem c_bytes_HasPrefix {s0p : Option Addr} {s0l : Nat} {s0c : Nat} {prefix1p : Option Addr} {prefix1l : Nat} {prefix1c : Nat} {w : World} {J : Bool → World → Prop} (h : VC_bytes_HasPrefix s0p s0l s0c prefix1p prefix1l prefix1c w J) : callJ Tryz.prog fn_bytes_HasPrefix #[.slice s0p s0l s0c, .slice prefix1p prefix1l prefix1c] w [.one .bool] J := vc_calls Tryz.func22 ann_bytes_HasPrefix (Eq.mpr (eq_bytes_HasPrefix s0p s0l s0c prefix1p prefix1l prefix1c w J) h)

/-- bytes.Equal -/
def VC_bytes_Equal (a0p : Option Addr) (a0l : Nat) (a0c : Nat) (b1p : Option Addr) (b1l : Nat) (b1c : Nat) (w : World) (J : Bool → World → Prop) : Prop :=
  bytesOf w a0p a0l fun bs6 =>
  bytesOf w b1p b1l fun bs8 =>
  J ((⟨bs6.toArray⟩ : ByteArray).toList == (⟨bs8.toArray⟩ : ByteArray).toList) w
def ann_bytes_Equal : Ann := .s (.o) (.s (.o) (.o))
theorem eq_bytes_Equal (a0p : Option Addr) (a0l : Nat) (a0c : Nat) (b1p : Option Addr) (b1l : Nat) (b1c : Nat) (w : World) (J : Bool → World → Prop) : vcFun Tryz.prog Tryz.f32 ann_bytes_Equal [.one .bool] [.slice a0p a0l a0c, .slice b1p b1l b1c] w J = VC_bytes_Equal a0p a0l a0c b1p b1l b1c w J := by kernel_rfl
theorem c_bytes_Equal {a0p : Option Addr} {a0l : Nat} {a0c : Nat} {b1p : Option Addr} {b1l : Nat} {b1c : Nat} {w : World} {J : Bool → World → Prop} (h : VC_bytes_Equal a0p a0l a0c b1p b1l b1c w J) : callJ Tryz.prog fn_bytes_Equal #[.slice a0p a0l a0c, .slice b1p b1l b1c] w [.one .bool] J := vc_calls Tryz.func32 ann_bytes_Equal (Eq.mpr (eq_bytes_Equal a0p a0l a0c b1p b1l b1c w J) h)

/-- strings.CutPrefix -/
def VC_strings_CutPrefix (s0 : ByteArray) (prefix1 : ByteArray) (w : World) (J : ByteArray → Bool → World → Prop) : Prop :=
  callJ Tryz.prog fn_internal_stringslite_CutPrefix #[.string s0, .string prefix1] w [.one .str, .one .bool] fun (r8_0 : ByteArray) (r8_1 : Bool) (w1 : World) =>
  J r8_0 r8_1 w1
def ann_strings_CutPrefix : Ann := .s (.o) (.s (.o) (.o))
theorem eq_strings_CutPrefix (s0 : ByteArray) (prefix1 : ByteArray) (w : World) (J : ByteArray → Bool → World → Prop) : vcFun Tryz.prog Tryz.f26 ann_strings_CutPrefix [.one .str, .one .bool] [.string s0, .string prefix1] w J = VC_strings_CutPrefix s0 prefix1 w J := by kernel_rfl
theorem c_strings_CutPrefix {s0 : ByteArray} {prefix1 : ByteArray} {w : World} {J : ByteArray → Bool → World → Prop} (h : VC_strings_CutPrefix s0 prefix1 w J) : callJ Tryz.prog fn_strings_CutPrefix #[.string s0, .string prefix1] w [.one .str, .one .bool] J := vc_calls Tryz.func26 ann_strings_CutPrefix (Eq.mpr (eq_strings_CutPrefix s0 prefix1 w J) h)

/-- internal/stringslite.CutPrefix -/
def VC_internal_stringslite_CutPrefix (s0 : ByteArray) (prefix1 : ByteArray) (w : World) (J : ByteArray → Bool → World → Prop) : Prop :=
  callJ Tryz.prog fn_internal_stringslite_HasPrefix #[.string s0, .string prefix1] w [.one .bool] fun (r8 : Bool) (w1 : World) =>
  condB (!r8) (
  J s0 false w1) (
  slStr s0 (some (prefix1.size : Int)) none fun s14 =>
  J s14 true w1)
def ann_internal_stringslite_CutPrefix : Ann := .s (.o) (.s (.s (.o) (.c (.s (.o) (.o)) (.o))) (.s (.o) (.o)))
theorem eq_internal_stringslite_CutPrefix (s0 : ByteArray) (prefix1 : ByteArray) (w : World) (J : ByteArray → Bool → World → Prop) : vcFun Tryz.prog Tryz.f33 ann_internal_stringslite_CutPrefix [.one .str, .one .bool] [.string s0, .string prefix1] w J = VC_internal_stringslite_CutPrefix s0 prefix1 w J := by kernel_rfl
theorem c_internal_stringslite_CutPrefix {s0 : ByteArray} {prefix1 : ByteArray} {w : World} {J : ByteArray → Bool → World → Prop} (h : VC_internal_stringslite_CutPrefix s0 prefix1 w J) : callJ Tryz.prog fn_internal_stringslite_CutPrefix #[.string s0, .string prefix1] w [.one .str, .one .bool] J := vc_calls Tryz.func33 ann_internal_stringslite_CutPrefix (Eq.mpr (eq_internal_stringslite_CutPrefix s0 prefix1 w J) h)

/-- internal/stringslite.HasPrefix -/
def VC_internal_stringslite_HasPrefix (s0 : ByteArray) (prefix1 : ByteArray) (w : World) (J : Bool → World → Prop) : Prop :=
  withJ (fun (x4 : Bool) (w1 : World) =>
  J x4 w1) fun J_4 =>
  condB (decide ((s0.size : Int) ≥ (prefix1.size : Int))) (
  slStr s0 none (some (prefix1.size : Int)) fun s14 =>
  J_4 (s14.toList == prefix1.toList) w) (
  J_4 false w)
def ann_internal_stringslite_HasPrefix : Ann := .s (.o) (.j [(4, .bool)] (.o) (.o))
theorem eq_internal_stringslite_HasPrefix (s0 : ByteArray) (prefix1 : ByteArray) (w : World) (J : Bool → World → Prop) : vcFun Tryz.prog Tryz.f39 ann_internal_stringslite_HasPrefix [.one .bool] [.string s0, .string prefix1] w J = VC_internal_stringslite_HasPrefix s0 prefix1 w J := by kernel_rfl
theorem c_internal_stringslite_HasPrefix {s0 : ByteArray} {prefix1 : ByteArray} {w : World} {J : Bool → World → Prop} (h : VC_internal_stringslite_HasPrefix s0 prefix1 w J) : callJ Tryz.prog fn_internal_stringslite_HasPrefix #[.string s0, .string prefix1] w [.one .bool] J := vc_calls Tryz.func39 ann_internal_stringslite_HasPrefix (Eq.mpr (eq_internal_stringslite_HasPrefix s0 prefix1 w J) h)

end Go.Proofs.YtdjehimkijlhgaaGreatDoor
