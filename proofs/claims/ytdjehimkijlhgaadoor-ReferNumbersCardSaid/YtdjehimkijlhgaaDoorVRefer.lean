/- What the conditions of these functions are, reckoned by the reading; printed by program. -/
import Derived.Test.YtdjehimkijlhgaaDoorNm
import Derived.KernelRfl
set_option maxRecDepth 100000
set_option linter.unusedVariables false
namespace Go.Proofs.YtdjehimkijlhgaaDoor
open Go Go.Vc

/-- lectern/refer.Expand -/
def VC_refer_Expand (b0p : Option Addr) (b0l : Nat) (b0c : Nat) (at1 : Int) (w : World) (J : Int → Int → Int → World → Prop) : Prop :=
  withJ (fun (x24 : Bool) (w1 : World) =>
  condB x24 (
  J (0 : Int) (0 : Int) (1 : Int) w1) (
  slS b0p b0l b0c 1 (some at1) none none fun q27p q27l q27c =>
  callJ Tryd.prog fn_bytes_IndexByte #[.slice q27p q27l q27c, .int .u8 (59 : Int)] w1 [.one (.int .i64)] fun (r28 : Int) (w2 : World) =>
  condB (decide (r28 < (0 : Int))) (
  J (0 : Int) (0 : Int) (22 : Int) w2) (
  slS b0p b0l b0c 1 (some (w64 (at1 + (1 : Int)))) (some (w64 (at1 + r28))) none fun q38p q38l q38c =>
  bytesOf w2 q38p q38l fun bs39 =>
  callJ Tryd.prog fn_refer_meant #[.string ⟨bs39.toArray⟩] w2 [.one (.int .i32), .one (.int .i64)] fun (r40_0 : Int) (r40_1 : Int) (w3 : World) =>
  condB (r40_1 != (0 : Int)) (
  J (0 : Int) (0 : Int) r40_1 w3) (
  J r40_0 (w64 ((w64 (at1 + r28)) + (1 : Int))) (0 : Int) w3)))) fun J_24 =>
  condB (decide (at1 < (0 : Int))) (
  J_24 true w) (
  condB (decide (at1 ≥ ((b0l : Nat) : Int))) (
  J_24 true w) (
  idxA b0p b0l at1 fun a21 =>
  ldI .u8 w ((a21.add (at1.toNat * 1))) fun x22 =>
  J_24 (x22 != (38 : Int)) w))
def ann_refer_Expand : Ann := .s (.o) (.s (.j [(24, .bool)] (.o) (.c (.s (.o) (.o)) (.o))) (.s (.o) (.s (.s (.o) (.c (.s (.o) (.o)) (.o))) (.s (.o) (.s (.s (.o) (.c (.s (.o) (.o)) (.o))) (.s (.o) (.o)))))))
theorem eq_refer_Expand (b0p : Option Addr) (b0l : Nat) (b0c : Nat) (at1 : Int) (w : World) (J : Int → Int → Int → World → Prop) : vcFun Tryd.prog Tryd.f19 ann_refer_Expand [.one (.int .i32), .one (.int .i64), .one (.int .i64)] [.slice b0p b0l b0c, .int .i64 at1] w J = VC_refer_Expand b0p b0l b0c at1 w J := by kernel_rfl
theorem c_refer_Expand {b0p : Option Addr} {b0l : Nat} {b0c : Nat} {at1 : Int} {w : World} {J : Int → Int → Int → World → Prop} (h : VC_refer_Expand b0p b0l b0c at1 w J) : callJ Tryd.prog fn_refer_Expand #[.slice b0p b0l b0c, .int .i64 at1] w [.one (.int .i32), .one (.int .i64), .one (.int .i64)] J := vc_calls Tryd.func19 ann_refer_Expand (Eq.mpr (eq_refer_Expand b0p b0l b0c at1 w J) h)

/-- lectern/refer.meant -/
def VC_refer_meant (s0 : ByteArray) (w : World) (J : Int → Int → World → Prop) : Prop :=
  condB (s0.toList == (⟨#[108, 116]⟩ : ByteArray).toList) (
  J (60 : Int) (0 : Int) w) (
  condB (s0.toList == (⟨#[103, 116]⟩ : ByteArray).toList) (
  J (62 : Int) (0 : Int) w) (
  condB (s0.toList == (⟨#[97, 109, 112]⟩ : ByteArray).toList) (
  J (38 : Int) (0 : Int) w) (
  condB (s0.toList == (⟨#[97, 112, 111, 115]⟩ : ByteArray).toList) (
  J (39 : Int) (0 : Int) w) (
  condB (s0.toList == (⟨#[113, 117, 111, 116]⟩ : ByteArray).toList) (
  J (34 : Int) (0 : Int) w) (
  callJ Tryd.prog fn_strings_CutPrefix #[.string s0, .string ⟨#[35]⟩] w [.one .str, .one .bool] fun (r26_0 : ByteArray) (r26_1 : Bool) (w1 : World) =>
  withJ (fun (digits4 : ByteArray) (base6 : Int) (w2 : World) =>
  withJ (fun (x41 : Bool) (w3 : World) =>
  condB x41 (
  J (0 : Int) (22 : Int) w3) (
  cvJ Tryd.prog T_string T_sl_uint8 (.string digits4) w3 fun q43p q43l q43c w4 =>
  ∃ I_9 : Int → Int → World → Nat → Prop, (∃ m : Nat, I_9 (0 : Int) (0 : Int) w4 m) ∧ ∀ (n9 : Int) (x45 : Int) (w5 : World) (m : Nat), I_9 n9 x45 w5 m → (
  condB (decide (x45 < ((q43l : Nat) : Int))) (
  idxA q43p q43l x45 fun a47 =>
  ldI .u8 w5 ((a47.add (x45.toNat * 1))) fun x48 =>
  callJ Tryd.prog fn_refer_digit #[.int .u8 x48] w5 [.one (.int .i64)] fun (r50 : Int) (w6 : World) =>
  condB (decide (r50 ≥ base6)) (
  J (0 : Int) (22 : Int) w6) (
  ∃ m' : Nat, m' < m ∧ I_9 (if (1114112 : Int) < (w64 ((w64 (n9 * base6)) + r50)) then (1114112 : Int) else (w64 ((w64 (n9 * base6)) + r50))) (w64 (x45 + (1 : Int))) w6 m')) (
  callJ Tryd.prog fn_char_IsChar #[.int .i32 (IntKind.i32.wrap n9)] w5 [.one .bool] fun (r63 : Bool) (w7 : World) =>
  condB (!r63) (
  J (0 : Int) (21 : Int) w7) (
  J (IntKind.i32.wrap n9) (0 : Int) w7))))) fun J_41 =>
  condB (!r26_1) (
  J_41 true w2) (
  J_41 (digits4.toList == (⟨#[]⟩ : ByteArray).toList) w2)) fun J_4 =>
  callJ Tryd.prog fn_strings_CutPrefix #[.string r26_0, .string ⟨#[120]⟩] w1 [.one .str, .one .bool] fun (r31_0 : ByteArray) (r31_1 : Bool) (w8 : World) =>
  condB r31_1 (
  J_4 r31_0 (16 : Int) w8) (
  J_4 r26_0 (10 : Int) w8))))))
def ann_refer_meant : Ann := .s (.o) (.s (.s (.o) (.b (.s (.o) (.c (.s (.o) (.o)) (.s (.o) (.c (.s (.o) (.o)) (.s (.o) (.c (.s (.o) (.o)) (.s (.o) (.c (.s (.o) (.o)) (.s (.o) (.c (.s (.o) (.o)) (.o))))))))))))) (.s (.o) (.s (.o) (.j [(4, .str), (6, .int .i64)] (.s (.o) (.s (.o) (.c (.o) (.o)))) (.s (.j [(41, .bool)] (.o) (.c (.s (.o) (.o)) (.o))) (.s (.o) (.s (.s (.o) (.b (.l [(9, .int .i64), (45, .int .i64)] (.s (.o) (.s (.c (.o) (.o)) (.s (.b (.s (.o) (.s (.o) (.s (.s (.o) (.c (.s (.o) (.o)) (.o))) (.o))))) (.o))))))) (.s (.s (.o) (.c (.s (.o) (.o)) (.o))) (.s (.o) (.o))))))))))
theorem eq_refer_meant (s0 : ByteArray) (w : World) (J : Int → Int → World → Prop) : vcFun Tryd.prog Tryd.f46 ann_refer_meant [.one (.int .i32), .one (.int .i64)] [.string s0] w J = VC_refer_meant s0 w J := by kernel_rfl
theorem c_refer_meant {s0 : ByteArray} {w : World} {J : Int → Int → World → Prop} (h : VC_refer_meant s0 w J) : callJ Tryd.prog fn_refer_meant #[.string s0] w [.one (.int .i32), .one (.int .i64)] J := vc_calls Tryd.func46 ann_refer_meant (Eq.mpr (eq_refer_meant s0 w J) h)

/-- lectern/refer.digit -/
def VC_refer_digit (c0 : Int) (w : World) (J : Int → World → Prop) : Prop :=
  withJ (fun (x3 : Bool) (w1 : World) =>
  condB x3 (
  J (w64 (IntKind.u8.wrap (c0 - (48 : Int)))) w1) (
  withJ (fun (x13 : Bool) (w2 : World) =>
  condB x13 (
  J (w64 ((w64 (IntKind.u8.wrap (c0 - (97 : Int)))) + (10 : Int))) w2) (
  withJ (fun (x24 : Bool) (w3 : World) =>
  condB x24 (
  J (w64 ((w64 (IntKind.u8.wrap (c0 - (65 : Int)))) + (10 : Int))) w3) (
  J (99 : Int) w3)) fun J_24 =>
  condB (decide (c0 ≥ (65 : Int))) (
  J_24 (decide (c0 ≤ (70 : Int))) w2) (
  J_24 false w2))) fun J_13 =>
  condB (decide (c0 ≥ (97 : Int))) (
  J_13 (decide (c0 ≤ (102 : Int))) w1) (
  J_13 false w1))) fun J_3 =>
  condB (decide (c0 ≥ (48 : Int))) (
  J_3 (decide (c0 ≤ (57 : Int))) w) (
  J_3 false w)
def ann_refer_digit : Ann := .s (.o) (.s (.b (.j [(3, .bool)] (.o) (.c (.s (.o) (.o)) (.j [(13, .bool)] (.o) (.c (.s (.o) (.o)) (.j [(24, .bool)] (.o) (.c (.s (.o) (.o)) (.o)))))))) (.s (.o) (.o)))
theorem eq_refer_digit (c0 : Int) (w : World) (J : Int → World → Prop) : vcFun Tryd.prog Tryd.f75 ann_refer_digit [.one (.int .i64)] [.int .u8 c0] w J = VC_refer_digit c0 w J := by kernel_rfl
theorem c_refer_digit {c0 : Int} {w : World} {J : Int → World → Prop} (h : VC_refer_digit c0 w J) : callJ Tryd.prog fn_refer_digit #[.int .u8 c0] w [.one (.int .i64)] J := vc_calls Tryd.func75 ann_refer_digit (Eq.mpr (eq_refer_digit c0 w J) h)

/-- lectern/refer.read -/
def VC_refer_read (b0p : Option Addr) (b0l : Nat) (b0c : Nat) (value1 : Bool) (w : World) (J : ByteArray → Int → Int → World → Prop) : Prop :=
  ∃ I_7 : Option Addr → Nat → Nat → Int → World → Nat → Prop, (∃ m : Nat, I_7 none 0 0 (0 : Int) w m) ∧ ∀ (l7p : Option Addr) (l7l : Nat) (l7c : Nat) (at8 : Int) (w1 : World) (m : Nat), I_7 l7p l7l l7c at8 w1 m → (
  condB (decide (at8 < ((b0l : Nat) : Int))) (
  callJ Tryd.prog fn_char_Next #[.slice b0p b0l b0c, .int .i64 at8] w1 [.one (.int .i32), .one (.int .i64), .one (.int .i64)] fun (r19_0 : Int) (r19_1 : Int) (r19_2 : Int) (w2 : World) =>
  withJ (fun (r9 : Int) (next10 : Int) (w3 : World) =>
  cvStrJ Tryd.prog T_int32 T_string (.int .i32 r9) w3 fun q74 w4 =>
  appJ Tryd.prog T_sl_uint8 T_string (.slice l7p l7l l7c) (.string q74) w4 fun q75p q75l q75c w5 =>
  ∃ m' : Nat, m' < m ∧ I_7 q75p q75l q75c next10 w5 m') fun J_9 =>
  condB (r19_2 != (0 : Int)) (
  J ⟨#[]⟩ at8 r19_2 w2) (
  withJ (fun (x28 : Bool) (w6 : World) =>
  condB x28 (
  J ⟨#[]⟩ at8 (23 : Int) w6) (
  condB (r19_0 == (38 : Int)) (
  callJ Tryd.prog fn_refer_Expand #[.slice b0p b0l b0c, .int .i64 at8] w6 [.one (.int .i32), .one (.int .i64), .one (.int .i64)] fun (r50_0 : Int) (r50_1 : Int) (r50_2 : Int) (w7 : World) =>
  condB (r50_2 != (0 : Int)) (
  J ⟨#[]⟩ at8 r50_2 w7) (
  J_9 r50_0 r50_1 w7)) (
  withJ (fun (x58 : Bool) (w8 : World) =>
  condB x58 (
  J_9 (32 : Int) r19_1 w8) (
  J_9 r19_0 r19_1 w8)) fun J_58 =>
  condB value1 (
  condB (r19_0 == (9 : Int)) (
  J_58 true w6) (
  condB (r19_0 == (10 : Int)) (
  J_58 true w6) (
  J_58 (r19_0 == (13 : Int)) w6))) (
  J_58 false w6)))) fun J_28 =>
  condB (r19_0 == (60 : Int)) (
  J_28 true w2) (
  condB (!value1) (
  slS b0p b0l b0c 1 (some at8) none none fun q37p q37l q37c =>
  newB w2 (.cells ⟨[.int .u8 (93 : Int), .int .u8 (93 : Int), .int .u8 (62 : Int)]⟩ T_uint8) fun b38 w9 =>
  cvJ Tryd.prog T_sl_uint8 T_sl_uint8 (.slice (some ⟨b38, 0, none⟩) 3 3) w9 fun q39p q39l q39c w10 =>
  callJ Tryd.prog fn_bytes_HasPrefix #[.slice q37p q37l q37c, .slice q39p q39l q39c] w10 [.one .bool] fun (r40 : Bool) (w11 : World) =>
  J_28 r40 w11) (
  J_28 false w2)))) (
  bytesOf w1 l7p l7l fun bs78 =>
  J ⟨bs78.toArray⟩ (0 : Int) (0 : Int) w1))
def ann_refer_read : Ann := .s (.o) (.s (.o) (.s (.s (.o) (.b (.l [(7, .slice), (8, .int .i64)] (.s (.s (.o) (.c (.o) (.o))) (.b (.s (.o) (.j [(9, .int .i32), (10, .int .i64)] (.b (.s (.o) (.c (.s (.o) (.o)) (.j [(28, .bool)] (.o) (.c (.s (.o) (.o)) (.s (.o) (.c (.s (.o) (.s (.o) (.c (.s (.o) (.o)) (.o)))) (.j [(58, .bool)] (.o) (.c (.o) (.o)))))))))) (.s (.o) (.o))))))))) (.s (.o) (.o))))
theorem eq_refer_read (b0p : Option Addr) (b0l : Nat) (b0c : Nat) (value1 : Bool) (w : World) (J : ByteArray → Int → Int → World → Prop) : vcFun Tryd.prog Tryd.f51 ann_refer_read [.one .str, .one (.int .i64), .one (.int .i64)] [.slice b0p b0l b0c, .bool value1] w J = VC_refer_read b0p b0l b0c value1 w J := by kernel_rfl
theorem c_refer_read {b0p : Option Addr} {b0l : Nat} {b0c : Nat} {value1 : Bool} {w : World} {J : ByteArray → Int → Int → World → Prop} (h : VC_refer_read b0p b0l b0c value1 w J) : callJ Tryd.prog fn_refer_read #[.slice b0p b0l b0c, .bool value1] w [.one .str, .one (.int .i64), .one (.int .i64)] J := vc_calls Tryd.func51 ann_refer_read (Eq.mpr (eq_refer_read b0p b0l b0c value1 w J) h)

/-- lectern/refer.ReadText -/
def VC_refer_ReadText (b0p : Option Addr) (b0l : Nat) (b0c : Nat) (w : World) (J : ByteArray → Int → Int → World → Prop) : Prop :=
  callJ Tryd.prog fn_refer_read #[.slice b0p b0l b0c, .bool false] w [.one .str, .one (.int .i64), .one (.int .i64)] fun (r6_0 : ByteArray) (r6_1 : Int) (r6_2 : Int) (w1 : World) =>
  J r6_0 r6_1 r6_2 w1
def ann_refer_ReadText : Ann := .s (.o) (.s (.o) (.o))
theorem eq_refer_ReadText (b0p : Option Addr) (b0l : Nat) (b0c : Nat) (w : World) (J : ByteArray → Int → Int → World → Prop) : vcFun Tryd.prog Tryd.f24 ann_refer_ReadText [.one .str, .one (.int .i64), .one (.int .i64)] [.slice b0p b0l b0c] w J = VC_refer_ReadText b0p b0l b0c w J := by kernel_rfl
theorem c_refer_ReadText {b0p : Option Addr} {b0l : Nat} {b0c : Nat} {w : World} {J : ByteArray → Int → Int → World → Prop} (h : VC_refer_ReadText b0p b0l b0c w J) : callJ Tryd.prog fn_refer_ReadText #[.slice b0p b0l b0c] w [.one .str, .one (.int .i64), .one (.int .i64)] J := vc_calls Tryd.func24 ann_refer_ReadText (Eq.mpr (eq_refer_ReadText b0p b0l b0c w J) h)

/-- lectern/refer.ReadValue -/
def VC_refer_ReadValue (b0p : Option Addr) (b0l : Nat) (b0c : Nat) (w : World) (J : ByteArray → Int → Int → World → Prop) : Prop :=
  callJ Tryd.prog fn_refer_read #[.slice b0p b0l b0c, .bool true] w [.one .str, .one (.int .i64), .one (.int .i64)] fun (r6_0 : ByteArray) (r6_1 : Int) (r6_2 : Int) (w1 : World) =>
  J r6_0 r6_1 r6_2 w1
def ann_refer_ReadValue : Ann := .s (.o) (.s (.o) (.o))
theorem eq_refer_ReadValue (b0p : Option Addr) (b0l : Nat) (b0c : Nat) (w : World) (J : ByteArray → Int → Int → World → Prop) : vcFun Tryd.prog Tryd.f23 ann_refer_ReadValue [.one .str, .one (.int .i64), .one (.int .i64)] [.slice b0p b0l b0c] w J = VC_refer_ReadValue b0p b0l b0c w J := by kernel_rfl
theorem c_refer_ReadValue {b0p : Option Addr} {b0l : Nat} {b0c : Nat} {w : World} {J : ByteArray → Int → Int → World → Prop} (h : VC_refer_ReadValue b0p b0l b0c w J) : callJ Tryd.prog fn_refer_ReadValue #[.slice b0p b0l b0c] w [.one .str, .one (.int .i64), .one (.int .i64)] J := vc_calls Tryd.func23 ann_refer_ReadValue (Eq.mpr (eq_refer_ReadValue b0p b0l b0c w J) h)

/-- lectern/lecternref02.Expand -/
def VC_ref02_Expand (b0p : Option Addr) (b0l : Nat) (b0c : Nat) (at1 : Int) (w : World) (J : Int → Int → Int → World → Prop) : Prop :=
  callJ Tryd.prog fn_ref02_word #[.slice b0p b0l b0c, .int .i64 (w64 (at1 + (1 : Int)))] w [.one (.int .i64), .one (.int .i64)] fun (r17_0 : Int) (r17_1 : Int) (w1 : World) =>
  condB (decide (r17_1 > (0 : Int))) (
  J r17_0 r17_1 (0 : Int) w1) (
  withJ (fun (x36 : Bool) (w2 : World) =>
  condB x36 (
  J (0 : Int) (0 : Int) (22 : Int) w2) (
  withJ (fun (i9 : Int) (base10 : Int) (w3 : World) =>
  ∃ I_9 : Int → Int → Int → World → Nat → Prop, (∃ m : Nat, I_9 i9 (0 : Int) (0 : Int) w3 m) ∧ ∀ (i9_1 : Int) (n11 : Int) (count12 : Int) (w4 : World) (m : Nat), I_9 i9_1 n11 count12 w4 m → (
  withJ (fun (x72 : Bool) (w5 : World) =>
  condB x72 (
  withJ (fun (n11_1 : Int) (w6 : World) =>
  ∃ m' : Nat, m' < m ∧ I_9 (w64 (i9_1 + (1 : Int))) n11_1 (w64 (count12 + (1 : Int))) w6 m') fun J_11 =>
  condB (decide (n11 < (2097152 : Int))) (
  idxA b0p b0l i9_1 fun a80 =>
  ldI .u8 w5 ((a80.add (i9_1.toNat * 1))) fun x81 =>
  callJ Tryd.prog fn_ref02_hex #[.int .u8 x81] w5 [.one (.int .i64)] fun (r82 : Int) (w7 : World) =>
  J_11 (w64 ((w64 (base10 * n11)) + r82)) w7) (
  J_11 n11 w5)) (
  withJ (fun (x102 : Bool) (w8 : World) =>
  condB x102 (
  J (0 : Int) (0 : Int) (22 : Int) w8) (
  callJ Tryd.prog fn_ref01_Char #[.int .i64 n11] w8 [.one .bool] fun (r104 : Bool) (w9 : World) =>
  condB (!r104) (
  J (0 : Int) (0 : Int) (21 : Int) w9) (
  J n11 (w64 (i9_1 + (1 : Int))) (0 : Int) w9))) fun J_102 =>
  condB (count12 == (0 : Int)) (
  J_102 true w5) (
  condB (decide (i9_1 ≥ ((b0l : Nat) : Int))) (
  J_102 true w5) (
  idxA b0p b0l i9_1 fun a99 =>
  ldI .u8 w5 ((a99.add (i9_1.toNat * 1))) fun x100 =>
  J_102 (x100 != (59 : Int)) w5)))) fun J_72 =>
  condB (decide (i9_1 < ((b0l : Nat) : Int))) (
  idxA b0p b0l i9_1 fun a59 =>
  ldI .u8 w4 ((a59.add (i9_1.toNat * 1))) fun x60 =>
  callJ Tryd.prog fn_ref02_hex #[.int .u8 x60] w4 [.one (.int .i64)] fun (r61 : Int) (w10 : World) =>
  condB (decide (r61 ≥ (0 : Int))) (
  idxA b0p b0l i9_1 fun a67 =>
  ldI .u8 w10 ((a67.add (i9_1.toNat * 1))) fun x68 =>
  callJ Tryd.prog fn_ref02_hex #[.int .u8 x68] w10 [.one (.int .i64)] fun (r69 : Int) (w11 : World) =>
  J_72 (decide (r69 < base10)) w11) (
  J_72 false w10)) (
  J_72 false w4))) fun J_9 =>
  withJ (fun (x49 : Bool) (w12 : World) =>
  condB x49 (
  J_9 (w64 ((w64 ((w64 (at1 + (1 : Int))) + (1 : Int))) + (1 : Int))) (16 : Int) w12) (
  J_9 (w64 ((w64 (at1 + (1 : Int))) + (1 : Int))) (10 : Int) w12)) fun J_49 =>
  condB (decide ((w64 ((w64 (at1 + (1 : Int))) + (1 : Int))) < ((b0l : Nat) : Int))) (
  idxA b0p b0l (w64 ((w64 (at1 + (1 : Int))) + (1 : Int))) fun a46 =>
  ldI .u8 w2 ((a46.add ((w64 ((w64 (at1 + (1 : Int))) + (1 : Int))).toNat * 1))) fun x47 =>
  J_49 (x47 == (120 : Int)) w2) (
  J_49 false w2))) fun J_36 =>
  condB (decide ((w64 (at1 + (1 : Int))) ≥ ((b0l : Nat) : Int))) (
  J_36 true w1) (
  idxA b0p b0l (w64 (at1 + (1 : Int))) fun a33 =>
  ldI .u8 w1 ((a33.add ((w64 (at1 + (1 : Int))).toNat * 1))) fun x34 =>
  J_36 (x34 != (35 : Int)) w1))
def ann_ref02_Expand : Ann := .s (.o) (.s (.o) (.s (.s (.o) (.c (.s (.o) (.o)) (.o))) (.s (.o) (.s (.o) (.s (.j [(36, .bool)] (.o) (.c (.s (.o) (.o)) (.o))) (.s (.o) (.j [(9, .int .i64), (10, .int .i64)] (.j [(49, .bool)] (.o) (.c (.s (.o) (.o)) (.o))) (.s (.o) (.s (.o) (.s (.b (.l [(9, .int .i64), (11, .int .i64), (12, .int .i64)] (.s (.j [(72, .bool)] (.o) (.c (.o) (.o))) (.b (.j [(11, .int .i64)] (.s (.o) (.c (.o) (.o))) (.s (.o) (.o))))))) (.s (.j [(102, .bool)] (.o) (.c (.s (.o) (.o)) (.o))) (.s (.s (.o) (.c (.s (.o) (.o)) (.o))) (.s (.o) (.o))))))))))))))
theorem eq_ref02_Expand (b0p : Option Addr) (b0l : Nat) (b0c : Nat) (at1 : Int) (w : World) (J : Int → Int → Int → World → Prop) : vcFun Tryd.prog Tryd.f20 ann_ref02_Expand [.one (.int .i64), .one (.int .i64), .one (.int .i64)] [.slice b0p b0l b0c, .int .i64 at1] w J = VC_ref02_Expand b0p b0l b0c at1 w J := by kernel_rfl
theorem c_ref02_Expand {b0p : Option Addr} {b0l : Nat} {b0c : Nat} {at1 : Int} {w : World} {J : Int → Int → Int → World → Prop} (h : VC_ref02_Expand b0p b0l b0c at1 w J) : callJ Tryd.prog fn_ref02_Expand #[.slice b0p b0l b0c, .int .i64 at1] w [.one (.int .i64), .one (.int .i64), .one (.int .i64)] J := vc_calls Tryd.func20 ann_ref02_Expand (Eq.mpr (eq_ref02_Expand b0p b0l b0c at1 w J) h)

/-- lectern/lecternref02.word -/
def VC_ref02_word (b0p : Option Addr) (b0l : Nat) (b0c : Nat) (at1 : Int) (w : World) (J : Int → Int → World → Prop) : Prop :=
  ∃ I_6 : Int → World → Nat → Prop, (∃ m : Nat, I_6 (0 : Int) w m) ∧ ∀ (k6 : Int) (w1 : World) (m : Nat), I_6 k6 w1 m → (
  condB (decide (k6 < (5 : Int))) (
  idxAgg ⟨[.string ⟨#[108, 116, 59]⟩, .string ⟨#[103, 116, 59]⟩, .string ⟨#[97, 109, 112, 59]⟩, .string ⟨#[97, 112, 111, 115, 59]⟩, .string ⟨#[113, 117, 111, 116, 59]⟩]⟩ 5 k6 fun x14 =>
  withJ (fun (x33 : Bool) (w2 : World) =>
  condB x33 (
  idxAggI .i64 ⟨[.int .i64 (60 : Int), .int .i64 (62 : Int), .int .i64 (38 : Int), .int .i64 (39 : Int), .int .i64 (34 : Int)]⟩ 5 k6 fun x36 =>
  J x36 (w64 (at1 + (x14.size : Int))) w2) (
  ∃ m' : Nat, m' < m ∧ I_6 (w64 (k6 + (1 : Int))) w2 m')) fun J_33 =>
  condB (decide ((w64 (at1 + (x14.size : Int))) ≤ ((b0l : Nat) : Int))) (
  slS b0p b0l b0c 1 (some at1) (some (w64 (at1 + (x14.size : Int)))) none fun q29p q29l q29c =>
  bytesOf w1 q29p q29l fun bs30 =>
  J_33 ((⟨bs30.toArray⟩ : ByteArray).toList == x14.toList) w1) (
  J_33 false w1)) (
  J (0 : Int) (0 : Int) w1))
def ann_ref02_word : Ann := .s (.o) (.s (.s (.o) (.b (.l [(6, .int .i64)] (.s (.s (.o) (.c (.o) (.o))) (.s (.b (.s (.o) (.j [(33, .bool)] (.o) (.c (.s (.o) (.o)) (.o))))) (.o)))))) (.s (.o) (.o)))
theorem eq_ref02_word (b0p : Option Addr) (b0l : Nat) (b0c : Nat) (at1 : Int) (w : World) (J : Int → Int → World → Prop) : vcFun Tryd.prog Tryd.f47 ann_ref02_word [.one (.int .i64), .one (.int .i64)] [.slice b0p b0l b0c, .int .i64 at1] w J = VC_ref02_word b0p b0l b0c at1 w J := by kernel_rfl
theorem c_ref02_word {b0p : Option Addr} {b0l : Nat} {b0c : Nat} {at1 : Int} {w : World} {J : Int → Int → World → Prop} (h : VC_ref02_word b0p b0l b0c at1 w J) : callJ Tryd.prog fn_ref02_word #[.slice b0p b0l b0c, .int .i64 at1] w [.one (.int .i64), .one (.int .i64)] J := vc_calls Tryd.func47 ann_ref02_word (Eq.mpr (eq_ref02_word b0p b0l b0c at1 w J) h)

/-- lectern/lecternref02.hex -/
def VC_ref02_hex (c0 : Int) (w : World) (J : Int → World → Prop) : Prop :=
  withJ (fun (x8 : Bool) (w1 : World) =>
  condB x8 (
  J (w64 ((w64 c0) - (48 : Int))) w1) (
  withJ (fun (x17 : Bool) (w2 : World) =>
  condB x17 (
  J (w64 ((w64 ((w64 c0) - (97 : Int))) + (10 : Int))) w2) (
  withJ (fun (x27 : Bool) (w3 : World) =>
  condB x27 (
  J (w64 ((w64 ((w64 c0) - (65 : Int))) + (10 : Int))) w3) (
  J (-1 : Int) w3)) fun J_27 =>
  condB (decide (c0 ≥ (65 : Int))) (
  J_27 (decide (c0 ≤ (70 : Int))) w2) (
  J_27 false w2))) fun J_17 =>
  condB (decide (c0 ≥ (97 : Int))) (
  J_17 (decide (c0 ≤ (102 : Int))) w1) (
  J_17 false w1))) fun J_8 =>
  condB (decide (c0 ≥ (48 : Int))) (
  J_8 (decide (c0 ≤ (57 : Int))) w) (
  J_8 false w)
def ann_ref02_hex : Ann := .s (.o) (.s (.j [(8, .bool)] (.o) (.c (.s (.o) (.o)) (.o))) (.s (.j [(17, .bool)] (.o) (.c (.s (.o) (.o)) (.o))) (.s (.j [(27, .bool)] (.o) (.c (.s (.o) (.o)) (.o))) (.s (.o) (.o)))))
theorem eq_ref02_hex (c0 : Int) (w : World) (J : Int → World → Prop) : vcFun Tryd.prog Tryd.f48 ann_ref02_hex [.one (.int .i64)] [.int .u8 c0] w J = VC_ref02_hex c0 w J := by kernel_rfl
theorem c_ref02_hex {c0 : Int} {w : World} {J : Int → World → Prop} (h : VC_ref02_hex c0 w J) : callJ Tryd.prog fn_ref02_hex #[.int .u8 c0] w [.one (.int .i64)] J := vc_calls Tryd.func48 ann_ref02_hex (Eq.mpr (eq_ref02_hex c0 w J) h)

/-- lectern/lecternref02.Text -/
def VC_ref02_Text (s0 : ByteArray) (w : World) (J : ByteArray → World → Prop) : Prop :=
  callJ Tryd.prog fn_ref02_written #[.string s0, .string ⟨#[38, 60, 62, 13]⟩, .agg ⟨[.string ⟨#[38, 97, 109, 112, 59]⟩, .string ⟨#[38, 108, 116, 59]⟩, .string ⟨#[38, 103, 116, 59]⟩, .string ⟨#[38, 35, 49, 51, 59]⟩, .string ByteArray.empty, .string ByteArray.empty]⟩] w [.one .str] fun (r5 : ByteArray) (w1 : World) =>
  J r5 w1
def ann_ref02_Text : Ann := .s (.o) (.s (.o) (.o))
theorem eq_ref02_Text (s0 : ByteArray) (w : World) (J : ByteArray → World → Prop) : vcFun Tryd.prog Tryd.f26 ann_ref02_Text [.one .str] [.string s0] w J = VC_ref02_Text s0 w J := by kernel_rfl
theorem c_ref02_Text {s0 : ByteArray} {w : World} {J : ByteArray → World → Prop} (h : VC_ref02_Text s0 w J) : callJ Tryd.prog fn_ref02_Text #[.string s0] w [.one .str] J := vc_calls Tryd.func26 ann_ref02_Text (Eq.mpr (eq_ref02_Text s0 w J) h)

/-- lectern/lecternref02.Quote -/
def VC_ref02_Quote (s0 : ByteArray) (w : World) (J : ByteArray → World → Prop) : Prop :=
  callJ Tryd.prog fn_ref02_written #[.string s0, .string ⟨#[38, 60, 34, 9, 10, 13]⟩, .agg ⟨[.string ⟨#[38, 97, 109, 112, 59]⟩, .string ⟨#[38, 108, 116, 59]⟩, .string ⟨#[38, 113, 117, 111, 116, 59]⟩, .string ⟨#[38, 35, 57, 59]⟩, .string ⟨#[38, 35, 49, 48, 59]⟩, .string ⟨#[38, 35, 49, 51, 59]⟩]⟩] w [.one .str] fun (r5 : ByteArray) (w1 : World) =>
  J r5 w1
def ann_ref02_Quote : Ann := .s (.o) (.s (.o) (.o))
theorem eq_ref02_Quote (s0 : ByteArray) (w : World) (J : ByteArray → World → Prop) : vcFun Tryd.prog Tryd.f28 ann_ref02_Quote [.one .str] [.string s0] w J = VC_ref02_Quote s0 w J := by kernel_rfl
theorem c_ref02_Quote {s0 : ByteArray} {w : World} {J : ByteArray → World → Prop} (h : VC_ref02_Quote s0 w J) : callJ Tryd.prog fn_ref02_Quote #[.string s0] w [.one .str] J := vc_calls Tryd.func28 ann_ref02_Quote (Eq.mpr (eq_ref02_Quote s0 w J) h)

/-- lectern/lecternref02.written -/
def VC_ref02_written (s0 : ByteArray) (bytes1 : ByteArray) (refs2_0 : ByteArray) (refs2_1 : ByteArray) (refs2_2 : ByteArray) (refs2_3 : ByteArray) (refs2_4 : ByteArray) (refs2_5 : ByteArray) (w : World) (J : ByteArray → World → Prop) : Prop :=
  newB w (.cells ⟨[.string refs2_0, .string refs2_1, .string refs2_2, .string refs2_3, .string refs2_4, .string refs2_5]⟩ T_6_string) fun b5 w1 =>
  ∃ I_7 : ByteArray → Int → World → Nat → Prop, (∃ m : Nat, I_7 ⟨#[]⟩ (0 : Int) w1 m) ∧ ∀ (out7 : ByteArray) (i8 : Int) (w2 : World) (m : Nat), I_7 out7 i8 w2 m → (
  condB (decide (i8 < (s0.size : Int))) (
  slStr s0 (some i8) (some (w64 (i8 + (1 : Int)))) fun s21 =>
  ∃ I_9 : ByteArray → Int → World → Nat → Prop, (∃ m : Nat, I_9 s21 (0 : Int) w2 m) ∧ ∀ (t9 : ByteArray) (k10 : Int) (w3 : World) (m_1 : Nat), I_9 t9 k10 w3 m_1 → (
  condB (decide (k10 < (bytes1.size : Int))) (
  withJ (fun (t9_1 : ByteArray) (w4 : World) =>
  ∃ m' : Nat, m' < m_1 ∧ I_9 t9_1 (w64 (k10 + (1 : Int))) w4 m') fun J_9 =>
  idxStr s0 i8 fun x30 =>
  idxStr bytes1 k10 fun x33 =>
  condB (x30 == x33) (
  idxA (some ⟨b5, 0, none⟩) 6 k10 fun a36 =>
  ldStr w3.drew ((a36.add (k10.toNat * 1))) fun x37 =>
  J_9 x37 w3.drew) (
  J_9 t9 w3.drew)) (
  ((out7.size + t9.size : Nat) : Int) ≤ 9223372036854775807 ∧
  ∃ m' : Nat, m' < m ∧ I_7 (out7 ++ t9) (w64 (i8 + (1 : Int))) w3 m'))) (
  J out7 w2))
def ann_ref02_written : Ann := .s (.o) (.s (.o) (.s (.s (.o) (.b (.l [(7, .str), (8, .int .i64)] (.s (.s (.o) (.c (.o) (.o))) (.s (.b (.s (.o) (.s (.s (.o) (.b (.l [(9, .str), (10, .int .i64)] (.s (.s (.o) (.c (.o) (.o))) (.j [(9, .str)] (.b (.s (.d (.take 0 (.take 1 (.take 2 (.take 3 (.take 4 (.take 5 (.take 6 (.done))))))))) (.c (.o) (.o)))) (.o)))))) (.o)))) (.o)))))) (.s (.o) (.o))))
theorem eq_ref02_written (s0 : ByteArray) (bytes1 : ByteArray) (refs2_0 : ByteArray) (refs2_1 : ByteArray) (refs2_2 : ByteArray) (refs2_3 : ByteArray) (refs2_4 : ByteArray) (refs2_5 : ByteArray) (w : World) (J : ByteArray → World → Prop) : vcFun Tryd.prog Tryd.f54 ann_ref02_written [.one .str] [.string s0, .string bytes1, .agg ⟨[.string refs2_0, .string refs2_1, .string refs2_2, .string refs2_3, .string refs2_4, .string refs2_5]⟩] w J = VC_ref02_written s0 bytes1 refs2_0 refs2_1 refs2_2 refs2_3 refs2_4 refs2_5 w J := by kernel_rfl
theorem c_ref02_written {s0 : ByteArray} {bytes1 : ByteArray} {refs2_0 : ByteArray} {refs2_1 : ByteArray} {refs2_2 : ByteArray} {refs2_3 : ByteArray} {refs2_4 : ByteArray} {refs2_5 : ByteArray} {w : World} {J : ByteArray → World → Prop} (h : VC_ref02_written s0 bytes1 refs2_0 refs2_1 refs2_2 refs2_3 refs2_4 refs2_5 w J) : callJ Tryd.prog fn_ref02_written #[.string s0, .string bytes1, .agg ⟨[.string refs2_0, .string refs2_1, .string refs2_2, .string refs2_3, .string refs2_4, .string refs2_5]⟩] w [.one .str] J := vc_calls Tryd.func54 ann_ref02_written (Eq.mpr (eq_ref02_written s0 bytes1 refs2_0 refs2_1 refs2_2 refs2_3 refs2_4 refs2_5 w J) h)

/-- lectern/lecternlaw02.awake -/
def VC_law02_awake  (w : World) (J : Bool → World → Prop) : Prop :=
  newB w (.cells ⟨[.int .u8 (38 : Int), .int .u8 (35 : Int), .int .u8 (120 : Int), .int .u8 (52 : Int), .int .u8 (49 : Int), .int .u8 (59 : Int)]⟩ T_uint8) fun b8 w1 =>
  cvJ Tryd.prog T_sl_uint8 T_sl_uint8 (.slice (some ⟨b8, 0, none⟩) 6 6) w1 fun q9p q9l q9c w2 =>
  callJ Tryd.prog fn_refer_Expand #[.slice q9p q9l q9c, .int .i64 (0 : Int)] w2 [.one (.int .i32), .one (.int .i64), .one (.int .i64)] fun (r10_0 : Int) (r10_1 : Int) (r10_2 : Int) (w3 : World) =>
  newB w3 (.cells ⟨[.int .u8 (97 : Int), .int .u8 (38 : Int), .int .u8 (103 : Int), .int .u8 (116 : Int), .int .u8 (59 : Int), .int .u8 (98 : Int)]⟩ T_uint8) fun b15 w4 =>
  cvJ Tryd.prog T_sl_uint8 T_sl_uint8 (.slice (some ⟨b15, 0, none⟩) 6 6) w4 fun q16p q16l q16c w5 =>
  callJ Tryd.prog fn_refer_ReadText #[.slice q16p q16l q16c] w5 [.one .str, .one (.int .i64), .one (.int .i64)] fun (r17_0 : ByteArray) (r17_1 : Int) (r17_2 : Int) (w6 : World) =>
  withJ (fun (x0 : Bool) (w7 : World) =>
  J x0 w7) fun J_0 =>
  condB (r10_0 == (65 : Int)) (
  condB (r10_1 == (6 : Int)) (
  condB (r10_2 == (0 : Int)) (
  condB (r17_0.toList == (⟨#[97, 62, 98]⟩ : ByteArray).toList) (
  condB (r17_2 == (0 : Int)) (
  callJ Tryd.prog fn_refer_Text #[.string ⟨#[97, 60, 98]⟩] w6 [.one .str] fun (r40 : ByteArray) (w8 : World) =>
  J_0 (r40.toList == (⟨#[97, 38, 108, 116, 59, 98]⟩ : ByteArray).toList) w8) (
  J_0 false w6)) (
  J_0 false w6)) (
  J_0 false w6)) (
  J_0 false w6)) (
  J_0 false w6)
def ann_law02_awake : Ann := .s (.o) (.s (.o) (.s (.o) (.j [(0, .bool)] (.o) (.o))))
theorem eq_law02_awake  (w : World) (J : Bool → World → Prop) : vcFun Tryd.prog Tryd.f18 ann_law02_awake [.one .bool] [] w J = VC_law02_awake  w J := by kernel_rfl
theorem c_law02_awake {w : World} {J : Bool → World → Prop} (h : VC_law02_awake  w J) : callJ Tryd.prog fn_law02_awake #[] w [.one .bool] J := vc_calls Tryd.func18 ann_law02_awake (Eq.mpr (eq_law02_awake  w J) h)

/-- lectern/lecternlaw02.ReferExpands -/
def VC_law02_ReferExpands (b0p : Option Addr) (b0l : Nat) (b0c : Nat) (at1 : Int) (w : World) (J : Bool → World → Prop) : Prop :=
  callJ Tryd.prog fn_law02_awake #[] w [.one .bool] fun (r11 : Bool) (w1 : World) =>
  condB (!r11) (
  J false w1) (
  callJ Tryd.prog fn_refer_Expand #[.slice b0p b0l b0c, .int .i64 at1] w1 [.one (.int .i32), .one (.int .i64), .one (.int .i64)] fun (r16_0 : Int) (r16_1 : Int) (r16_2 : Int) (w2 : World) =>
  withJ (fun (x34 : Bool) (w3 : World) =>
  condB x34 (
  withJ (fun (x4 : Bool) (w4 : World) =>
  J x4 w4) fun J_4 =>
  condB (r16_2 == (1 : Int)) (
  condB (r16_0 == (0 : Int)) (
  J_4 (r16_1 == (0 : Int)) w3) (
  J_4 false w3)) (
  J_4 false w3)) (
  callJ Tryd.prog fn_ref02_Expand #[.slice b0p b0l b0c, .int .i64 at1] w3 [.one (.int .i64), .one (.int .i64), .one (.int .i64)] fun (r48_0 : Int) (r48_1 : Int) (r48_2 : Int) (w5 : World) =>
  withJ (fun (x4_1 : Bool) (w6 : World) =>
  J x4_1 w6) fun J_4_1 =>
  condB ((w64 r16_0) == r48_0) (
  condB (r16_1 == r48_1) (
  J_4_1 (r16_2 == r48_2) w5) (
  J_4_1 false w5)) (
  J_4_1 false w5))) fun J_34 =>
  condB (decide (at1 < (0 : Int))) (
  J_34 true w2) (
  condB (decide (at1 ≥ ((b0l : Nat) : Int))) (
  J_34 true w2) (
  idxA b0p b0l at1 fun a31 =>
  ldI .u8 w2 ((a31.add (at1.toNat * 1))) fun x32 =>
  J_34 (x32 != (38 : Int)) w2)))
def ann_law02_ReferExpands : Ann := .s (.o) (.s (.s (.o) (.c (.s (.o) (.o)) (.o))) (.s (.o) (.s (.j [(34, .bool)] (.o) (.c (.j [(4, .bool)] (.o) (.o)) (.o))) (.s (.o) (.j [(4, .bool)] (.o) (.o))))))
theorem eq_law02_ReferExpands (b0p : Option Addr) (b0l : Nat) (b0c : Nat) (at1 : Int) (w : World) (J : Bool → World → Prop) : vcFun Tryd.prog Tryd.f4 ann_law02_ReferExpands [.one .bool] [.slice b0p b0l b0c, .int .i64 at1] w J = VC_law02_ReferExpands b0p b0l b0c at1 w J := by kernel_rfl
theorem c_law02_ReferExpands {b0p : Option Addr} {b0l : Nat} {b0c : Nat} {at1 : Int} {w : World} {J : Bool → World → Prop} (h : VC_law02_ReferExpands b0p b0l b0c at1 w J) : callJ Tryd.prog fn_law02_ReferExpands #[.slice b0p b0l b0c, .int .i64 at1] w [.one .bool] J := vc_calls Tryd.func4 ann_law02_ReferExpands (Eq.mpr (eq_law02_ReferExpands b0p b0l b0c at1 w J) h)

/-- lectern/lecternlaw02.ReferWrites -/
def VC_law02_ReferWrites (s0 : ByteArray) (w : World) (J : Bool → World → Prop) : Prop :=
  withJ (fun (x2 : Bool) (w1 : World) =>
  J x2 w1) fun J_2 =>
  callJ Tryd.prog fn_law02_awake #[] w [.one .bool] fun (r3 : Bool) (w2 : World) =>
  condB r3 (
  callJ Tryd.prog fn_refer_Text #[.string s0] w2 [.one .str] fun (r6 : ByteArray) (w3 : World) =>
  callJ Tryd.prog fn_ref02_Text #[.string s0] w3 [.one .str] fun (r8 : ByteArray) (w4 : World) =>
  condB (r6.toList == r8.toList) (
  callJ Tryd.prog fn_refer_Quote #[.string s0] w4 [.one .str] fun (r13 : ByteArray) (w5 : World) =>
  callJ Tryd.prog fn_ref02_Quote #[.string s0] w5 [.one .str] fun (r15 : ByteArray) (w6 : World) =>
  J_2 (r13.toList == r15.toList) w6) (
  J_2 false w4)) (
  J_2 false w2)
def ann_law02_ReferWrites : Ann := .s (.o) (.j [(2, .bool)] (.o) (.o))
theorem eq_law02_ReferWrites (s0 : ByteArray) (w : World) (J : Bool → World → Prop) : vcFun Tryd.prog Tryd.f7 ann_law02_ReferWrites [.one .bool] [.string s0] w J = VC_law02_ReferWrites s0 w J := by kernel_rfl
theorem c_law02_ReferWrites {s0 : ByteArray} {w : World} {J : Bool → World → Prop} (h : VC_law02_ReferWrites s0 w J) : callJ Tryd.prog fn_law02_ReferWrites #[.string s0] w [.one .bool] J := vc_calls Tryd.func7 ann_law02_ReferWrites (Eq.mpr (eq_law02_ReferWrites s0 w J) h)

/-- lectern/lecternlaw02.ReferBack -/
def VC_law02_ReferBack (s0 : ByteArray) (w : World) (J : Bool → World → Prop) : Prop :=
  callJ Tryd.prog fn_law02_awake #[] w [.one .bool] fun (r11 : Bool) (w1 : World) =>
  condB (!r11) (
  J false w1) (
  cvJ Tryd.prog T_string T_sl_uint8 (.string s0) w1 fun q15p q15l q15c w2 =>
  callJ Tryd.prog fn_char_Fault #[.slice q15p q15l q15c] w2 [.one (.int .i64), .one (.int .i64)] fun (r16_0 : Int) (r16_1 : Int) (w3 : World) =>
  callJ Tryd.prog fn_refer_Text #[.string s0] w3 [.one .str] fun (r21 : ByteArray) (w4 : World) =>
  cvJ Tryd.prog T_string T_sl_uint8 (.string r21) w4 fun q22p q22l q22c w5 =>
  callJ Tryd.prog fn_refer_ReadText #[.slice q22p q22l q22c] w5 [.one .str, .one (.int .i64), .one (.int .i64)] fun (r23_0 : ByteArray) (r23_1 : Int) (r23_2 : Int) (w6 : World) =>
  callJ Tryd.prog fn_refer_Quote #[.string s0] w6 [.one .str] fun (r29 : ByteArray) (w7 : World) =>
  cvJ Tryd.prog T_string T_sl_uint8 (.string r29) w7 fun q30p q30l q30c w8 =>
  callJ Tryd.prog fn_refer_ReadValue #[.slice q30p q30l q30c] w8 [.one .str, .one (.int .i64), .one (.int .i64)] fun (r31_0 : ByteArray) (r31_1 : Int) (r31_2 : Int) (w9 : World) =>
  condB (r16_1 != (0 : Int)) (
  withJ (fun (x2 : Bool) (w10 : World) =>
  J x2 w10) fun J_2 =>
  condB (r23_2 == r16_1) (
  condB (r31_2 == r16_1) (
  condB (r23_0.toList == (⟨#[]⟩ : ByteArray).toList) (
  J_2 (r31_0.toList == (⟨#[]⟩ : ByteArray).toList) w9) (
  J_2 false w9)) (
  J_2 false w9)) (
  J_2 false w9)) (
  withJ (fun (x2_1 : Bool) (w11 : World) =>
  J x2_1 w11) fun J_2_1 =>
  condB (r23_2 == (0 : Int)) (
  condB (r23_0.toList == s0.toList) (
  condB (r31_2 == (0 : Int)) (
  J_2_1 (r31_0.toList == s0.toList) w9) (
  J_2_1 false w9)) (
  J_2_1 false w9)) (
  J_2_1 false w9)))
def ann_law02_ReferBack : Ann := .s (.o) (.s (.s (.o) (.c (.s (.o) (.o)) (.o))) (.s (.o) (.s (.o) (.s (.o) (.s (.s (.o) (.c (.j [(2, .bool)] (.o) (.o)) (.o))) (.j [(2, .bool)] (.o) (.o)))))))
theorem eq_law02_ReferBack (s0 : ByteArray) (w : World) (J : Bool → World → Prop) : vcFun Tryd.prog Tryd.f9 ann_law02_ReferBack [.one .bool] [.string s0] w J = VC_law02_ReferBack s0 w J := by kernel_rfl
theorem c_law02_ReferBack {s0 : ByteArray} {w : World} {J : Bool → World → Prop} (h : VC_law02_ReferBack s0 w J) : callJ Tryd.prog fn_law02_ReferBack #[.string s0] w [.one .bool] J := vc_calls Tryd.func9 ann_law02_ReferBack (Eq.mpr (eq_law02_ReferBack s0 w J) h)

/-- lectern/lecternlaw02.ReferNumbers -/
def VC_law02_ReferNumbers (n0 : Int) (noughts1 : Int) (capital2 : Bool) (w : World) (J : Bool → World → Prop) : Prop :=
  callJ Tryd.prog fn_law02_awake #[] w [.one .bool] fun (r15 : Bool) (w1 : World) =>
  condB (!r15) (
  J false w1) (
  condB (decide (n0 < (0 : Int))) (
  J true w1) (
  callJ Tryd.prog fn_law02_digits #[.int .i64 n0, .int .i64 (10 : Int), .int .i64 (w64 noughts1), .bool false] w1 [.one .str] fun (r22 : ByteArray) (w2 : World) =>
  (((⟨#[38, 35]⟩ : ByteArray).size + r22.size : Nat) : Int) ≤ 9223372036854775807 ∧
  ((((⟨#[38, 35]⟩ : ByteArray) ++ r22).size + (⟨#[59]⟩ : ByteArray).size : Nat) : Int) ≤ 9223372036854775807 ∧
  callJ Tryd.prog fn_law02_digits #[.int .i64 n0, .int .i64 (16 : Int), .int .i64 (w64 noughts1), .bool capital2] w2 [.one .str] fun (r29 : ByteArray) (w3 : World) =>
  (((⟨#[38, 35, 120]⟩ : ByteArray).size + r29.size : Nat) : Int) ≤ 9223372036854775807 ∧
  ((((⟨#[38, 35, 120]⟩ : ByteArray) ++ r29).size + (⟨#[59]⟩ : ByteArray).size : Nat) : Int) ≤ 9223372036854775807 ∧
  (((⟨#[120]⟩ : ByteArray).size + (((⟨#[38, 35]⟩ : ByteArray) ++ r22) ++ (⟨#[59]⟩ : ByteArray)).size : Nat) : Int) ≤ 9223372036854775807 ∧
  ((((⟨#[120]⟩ : ByteArray) ++ (((⟨#[38, 35]⟩ : ByteArray) ++ r22) ++ (⟨#[59]⟩ : ByteArray))).size + (⟨#[121]⟩ : ByteArray).size : Nat) : Int) ≤ 9223372036854775807 ∧
  cvJ Tryd.prog T_string T_sl_uint8 (.string (((⟨#[120]⟩ : ByteArray) ++ (((⟨#[38, 35]⟩ : ByteArray) ++ r22) ++ (⟨#[59]⟩ : ByteArray))) ++ (⟨#[121]⟩ : ByteArray))) w3 fun q36p q36l q36c w4 =>
  callJ Tryd.prog fn_refer_Expand #[.slice q36p q36l q36c, .int .i64 (1 : Int)] w4 [.one (.int .i32), .one (.int .i64), .one (.int .i64)] fun (r37_0 : Int) (r37_1 : Int) (r37_2 : Int) (w5 : World) =>
  cvJ Tryd.prog T_string T_sl_uint8 (.string (((⟨#[38, 35, 120]⟩ : ByteArray) ++ r29) ++ (⟨#[59]⟩ : ByteArray))) w5 fun q43p q43l q43c w6 =>
  callJ Tryd.prog fn_refer_Expand #[.slice q43p q43l q43c, .int .i64 (0 : Int)] w6 [.one (.int .i32), .one (.int .i64), .one (.int .i64)] fun (r44_0 : Int) (r44_1 : Int) (r44_2 : Int) (w7 : World) =>
  withJ (fun (x55 : Bool) (w8 : World) =>
  condB x55 (
  withJ (fun (x6 : Bool) (w9 : World) =>
  J x6 w9) fun J_6 =>
  condB (r37_2 == (21 : Int)) (
  condB (r44_2 == (21 : Int)) (
  condB (r37_0 == (0 : Int)) (
  J_6 (r44_0 == (0 : Int)) w8) (
  J_6 false w8)) (
  J_6 false w8)) (
  J_6 false w8)) (
  withJ (fun (x6_1 : Bool) (w10 : World) =>
  J x6_1 w10) fun J_6_1 =>
  condB (r37_2 == (0 : Int)) (
  condB (r44_2 == (0 : Int)) (
  condB ((w64 r37_0) == n0) (
  condB ((w64 r44_0) == n0) (
  condB (r37_1 == (w64 ((1 : Int) + ((((⟨#[38, 35]⟩ : ByteArray) ++ r22) ++ (⟨#[59]⟩ : ByteArray)).size : Int)))) (
  J_6_1 (r44_1 == ((((⟨#[38, 35, 120]⟩ : ByteArray) ++ r29) ++ (⟨#[59]⟩ : ByteArray)).size : Int)) w8) (
  J_6_1 false w8)) (
  J_6_1 false w8)) (
  J_6_1 false w8)) (
  J_6_1 false w8)) (
  J_6_1 false w8))) fun J_55 =>
  condB (decide (n0 > (1114111 : Int))) (
  J_55 true w7) (
  callJ Tryd.prog fn_char_IsChar #[.int .i32 (IntKind.i32.wrap n0)] w7 [.one .bool] fun (r53 : Bool) (w11 : World) =>
  J_55 (!r53) w11)))
def ann_law02_ReferNumbers : Ann := .s (.o) (.s (.s (.o) (.c (.s (.o) (.o)) (.o))) (.s (.s (.o) (.c (.s (.o) (.o)) (.o))) (.s (.o) (.s (.o) (.s (.o) (.s (.o) (.s (.j [(55, .bool)] (.o) (.c (.j [(6, .bool)] (.o) (.o)) (.o))) (.j [(6, .bool)] (.o) (.o)))))))))
theorem eq_law02_ReferNumbers (n0 : Int) (noughts1 : Int) (capital2 : Bool) (w : World) (J : Bool → World → Prop) : vcFun Tryd.prog Tryd.f5 ann_law02_ReferNumbers [.one .bool] [.int .i64 n0, .int .u8 noughts1, .bool capital2] w J = VC_law02_ReferNumbers n0 noughts1 capital2 w J := by kernel_rfl
theorem c_law02_ReferNumbers {n0 : Int} {noughts1 : Int} {capital2 : Bool} {w : World} {J : Bool → World → Prop} (h : VC_law02_ReferNumbers n0 noughts1 capital2 w J) : callJ Tryd.prog fn_law02_ReferNumbers #[.int .i64 n0, .int .u8 noughts1, .bool capital2] w [.one .bool] J := vc_calls Tryd.func5 ann_law02_ReferNumbers (Eq.mpr (eq_law02_ReferNumbers n0 noughts1 capital2 w J) h)

/-- lectern/lecternlaw02.ReferJoins -/
def VC_law02_ReferJoins (a0p : Option Addr) (a0l : Nat) (a0c : Nat) (b1p : Option Addr) (b1l : Nat) (b1c : Nat) (w : World) (J : Bool → World → Prop) : Prop :=
  callJ Tryd.prog fn_law02_awake #[] w [.one .bool] fun (r15 : Bool) (w1 : World) =>
  condB (!r15) (
  J false w1) (
  newB w1 (.cells ⟨[]⟩ T_uint8) fun b17 w2 =>
  appJ Tryd.prog T_sl_uint8 T_sl_uint8 (.slice (some ⟨b17, 0, none⟩) 0 0) (.slice a0p a0l a0c) w2 fun q19p q19l q19c w3 =>
  appJ Tryd.prog T_sl_uint8 T_sl_uint8 (.slice q19p q19l q19c) (.slice b1p b1l b1c) w3 fun q21p q21l q21c w4 =>
  callJ Tryd.prog fn_refer_ReadValue #[.slice a0p a0l a0c] w4 [.one .str, .one (.int .i64), .one (.int .i64)] fun (r24_0 : ByteArray) (r24_1 : Int) (r24_2 : Int) (w5 : World) =>
  callJ Tryd.prog fn_refer_ReadValue #[.slice b1p b1l b1c] w5 [.one .str, .one (.int .i64), .one (.int .i64)] fun (r30_0 : ByteArray) (r30_1 : Int) (r30_2 : Int) (w6 : World) =>
  callJ Tryd.prog fn_refer_ReadValue #[.slice q21p q21l q21c] w6 [.one .str, .one (.int .i64), .one (.int .i64)] fun (r36_0 : ByteArray) (r36_1 : Int) (r36_2 : Int) (w7 : World) =>
  withJ (fun (x60 : Bool) (w8 : World) =>
  condB x60 (
  J false w8) (
  callJ Tryd.prog fn_refer_ReadText #[.slice a0p a0l a0c] w8 [.one .str, .one (.int .i64), .one (.int .i64)] fun (r63_0 : ByteArray) (r63_1 : Int) (r63_2 : Int) (w9 : World) =>
  callJ Tryd.prog fn_refer_ReadText #[.slice b1p b1l b1c] w9 [.one .str, .one (.int .i64), .one (.int .i64)] fun (r69_0 : ByteArray) (r69_1 : Int) (r69_2 : Int) (w10 : World) =>
  callJ Tryd.prog fn_refer_ReadText #[.slice q21p q21l q21c] w10 [.one .str, .one (.int .i64), .one (.int .i64)] fun (r75_0 : ByteArray) (r75_1 : Int) (r75_2 : Int) (w11 : World) =>
  withJ (fun (x84 : Bool) (w12 : World) =>
  condB x84 (
  J true w12) (
  condB (r75_2 == (23 : Int)) (
  withJ (fun (x4 : Bool) (w13 : World) =>
  J x4 w13) fun J_4 =>
  condB (decide (r75_1 < ((a0l : Nat) : Int))) (
  condB (decide ((w64 (((a0l : Nat) : Int) - r75_1)) ≤ (2 : Int))) (
  idxA q21p q21l r75_1 fun a101 =>
  ldI .u8 w12 ((a101.add (r75_1.toNat * 1))) fun x102 =>
  J_4 (x102 == (93 : Int)) w12) (
  J_4 false w12)) (
  J_4 false w12)) (
  withJ (fun (x4_1 : Bool) (w14 : World) =>
  J x4_1 w14) fun J_4_1 =>
  condB (r75_2 == (0 : Int)) (
  ((r63_0.size + r69_0.size : Nat) : Int) ≤ 9223372036854775807 ∧
  J_4_1 (r75_0.toList == (r63_0 ++ r69_0).toList) w12) (
  J_4_1 false w12)))) fun J_84 =>
  condB (r63_2 != (0 : Int)) (
  J_84 true w11) (
  J_84 (r69_2 != (0 : Int)) w11))) fun J_60 =>
  condB (r24_2 == (0 : Int)) (
  condB (r30_2 == (0 : Int)) (
  condB (r36_2 != (0 : Int)) (
  J_60 true w7) (
  ((r24_0.size + r30_0.size : Nat) : Int) ≤ 9223372036854775807 ∧
  condB (!(r36_0.toList == (r24_0 ++ r30_0).toList)) (
  J_60 true w7) (
  J_60 (r36_1 != (0 : Int)) w7))) (
  J_60 false w7)) (
  J_60 false w7))
def ann_law02_ReferJoins : Ann := .s (.o) (.s (.s (.o) (.c (.s (.o) (.o)) (.o))) (.s (.o) (.s (.o) (.s (.o) (.s (.o) (.s (.j [(60, .bool)] (.o) (.c (.s (.o) (.o)) (.o))) (.s (.o) (.s (.o) (.s (.o) (.s (.j [(84, .bool)] (.o) (.c (.s (.o) (.o)) (.o))) (.s (.s (.o) (.c (.j [(4, .bool)] (.o) (.o)) (.o))) (.j [(4, .bool)] (.o) (.o)))))))))))))
theorem eq_law02_ReferJoins (a0p : Option Addr) (a0l : Nat) (a0c : Nat) (b1p : Option Addr) (b1l : Nat) (b1c : Nat) (w : World) (J : Bool → World → Prop) : vcFun Tryd.prog Tryd.f6 ann_law02_ReferJoins [.one .bool] [.slice a0p a0l a0c, .slice b1p b1l b1c] w J = VC_law02_ReferJoins a0p a0l a0c b1p b1l b1c w J := by kernel_rfl
theorem c_law02_ReferJoins {a0p : Option Addr} {a0l : Nat} {a0c : Nat} {b1p : Option Addr} {b1l : Nat} {b1c : Nat} {w : World} {J : Bool → World → Prop} (h : VC_law02_ReferJoins a0p a0l a0c b1p b1l b1c w J) : callJ Tryd.prog fn_law02_ReferJoins #[.slice a0p a0l a0c, .slice b1p b1l b1c] w [.one .bool] J := vc_calls Tryd.func6 ann_law02_ReferJoins (Eq.mpr (eq_law02_ReferJoins a0p a0l a0c b1p b1l b1c w J) h)

/-- lectern/lecternlaw02.ReferPlain -/
def VC_law02_ReferPlain (s0 : ByteArray) (w : World) (J : Bool → World → Prop) : Prop :=
  callJ Tryd.prog fn_law02_awake #[] w [.one .bool] fun (r9 : Bool) (w1 : World) =>
  condB (!r9) (
  J false w1) (
  callJ Tryd.prog fn_refer_Text #[.string s0] w1 [.one .str] fun (r12 : ByteArray) (w2 : World) =>
  callJ Tryd.prog fn_refer_Quote #[.string s0] w2 [.one .str] fun (r14 : ByteArray) (w3 : World) =>
  ∃ I_6 : Int → World → Nat → Prop, (∃ m : Nat, I_6 (0 : Int) w3 m) ∧ ∀ (i6 : Int) (w4 : World) (m : Nat), I_6 i6 w4 m → (
  condB (decide (i6 < (r12.size : Int))) (
  withJ (fun (x36 : Bool) (w5 : World) =>
  condB x36 (
  J false w5) (
  ∃ m' : Nat, m' < m ∧ I_6 (w64 (i6 + (1 : Int))) w5 m')) fun J_36 =>
  idxStr r12 i6 fun x23 =>
  condB (x23 == (60 : Int)) (
  J_36 true w4) (
  idxStr r12 i6 fun x28 =>
  condB (x28 == (62 : Int)) (
  J_36 true w4) (
  idxStr r12 i6 fun x34 =>
  J_36 (x34 == (13 : Int)) w4))) (
  ∃ I_7 : Int → World → Nat → Prop, (∃ m : Nat, I_7 (0 : Int) w4 m) ∧ ∀ (i7 : Int) (w6 : World) (m_1 : Nat), I_7 i7 w6 m_1 → (
  condB (decide (i7 < (r14.size : Int))) (
  withJ (fun (x70 : Bool) (w7 : World) =>
  condB x70 (
  J false w7) (
  ∃ m' : Nat, m' < m_1 ∧ I_7 (w64 (i7 + (1 : Int))) w7 m')) fun J_70 =>
  idxStr r14 i7 fun x45 =>
  condB (x45 == (60 : Int)) (
  J_70 true w6) (
  idxStr r14 i7 fun x50 =>
  condB (x50 == (34 : Int)) (
  J_70 true w6) (
  idxStr r14 i7 fun x56 =>
  condB (x56 == (9 : Int)) (
  J_70 true w6) (
  idxStr r14 i7 fun x62 =>
  condB (x62 == (10 : Int)) (
  J_70 true w6) (
  idxStr r14 i7 fun x68 =>
  J_70 (x68 == (13 : Int)) w6))))) (
  ∃ I_5 : Bool → Int → World → Nat → Prop, (∃ m : Nat, I_5 false (0 : Int) w6 m) ∧ ∀ (odd5 : Bool) (i8 : Int) (w8 : World) (m_2 : Nat), I_5 odd5 i8 w8 m_2 → (
  condB (decide (i8 < (s0.size : Int))) (
  withJ (fun (odd5_1 : Bool) (w9 : World) =>
  ∃ m' : Nat, m' < m_2 ∧ I_5 odd5_1 (w64 (i8 + (1 : Int))) w9 m') fun J_5 =>
  condB odd5 (
  J_5 true w8) (
  idxStr s0 i8 fun x81 =>
  condB (x81 == (60 : Int)) (
  J_5 true w8) (
  idxStr s0 i8 fun x87 =>
  condB (x87 == (62 : Int)) (
  J_5 true w8) (
  idxStr s0 i8 fun x93 =>
  condB (x93 == (38 : Int)) (
  J_5 true w8) (
  idxStr s0 i8 fun x99 =>
  condB (x99 == (34 : Int)) (
  J_5 true w8) (
  idxStr s0 i8 fun x105 =>
  J_5 (decide (x105 < (32 : Int))) w8)))))) (
  withJ (fun (x2 : Bool) (w10 : World) =>
  J x2 w10) fun J_2 =>
  condB odd5 (
  J_2 true w8) (
  condB (r12.toList == s0.toList) (
  J_2 (r14.toList == s0.toList) w8) (
  J_2 false w8)))))))))
def ann_law02_ReferPlain : Ann := .s (.o) (.s (.s (.o) (.c (.s (.o) (.o)) (.o))) (.s (.o) (.s (.o) (.s (.s (.o) (.b (.l [(6, .int .i64)] (.s (.s (.o) (.c (.o) (.o))) (.s (.b (.j [(36, .bool)] (.o) (.c (.s (.o) (.o)) (.o)))) (.o)))))) (.s (.s (.o) (.b (.l [(7, .int .i64)] (.s (.s (.o) (.c (.o) (.o))) (.s (.b (.j [(70, .bool)] (.o) (.c (.s (.o) (.o)) (.o)))) (.o)))))) (.s (.s (.o) (.b (.l [(5, .bool), (8, .int .i64)] (.s (.s (.o) (.c (.o) (.o))) (.j [(5, .bool)] (.b (.o)) (.o)))))) (.j [(2, .bool)] (.o) (.o))))))))
theorem eq_law02_ReferPlain (s0 : ByteArray) (w : World) (J : Bool → World → Prop) : vcFun Tryd.prog Tryd.f8 ann_law02_ReferPlain [.one .bool] [.string s0] w J = VC_law02_ReferPlain s0 w J := by kernel_rfl
theorem c_law02_ReferPlain {s0 : ByteArray} {w : World} {J : Bool → World → Prop} (h : VC_law02_ReferPlain s0 w J) : callJ Tryd.prog fn_law02_ReferPlain #[.string s0] w [.one .bool] J := vc_calls Tryd.func8 ann_law02_ReferPlain (Eq.mpr (eq_law02_ReferPlain s0 w J) h)

/-- lectern/lecternlaw02.digits -/
def VC_law02_digits (n0 : Int) (base1 : Int) (noughts2 : Int) (capital3 : Bool) (w : World) (J : ByteArray → World → Prop) : Prop :=
  ∃ I_0 : Int → ByteArray → World → Nat → Prop, (∃ m : Nat, I_0 n0 ⟨#[]⟩ w m) ∧ ∀ (n0 : Int) (s9 : ByteArray) (w1 : World) (m : Nat), I_0 n0 s9 w1 m → (
  withJ (fun (x18 : Bool) (w2 : World) =>
  condB x18 (
  base1 ≠ 0 ∧
  withJ (fun (c11 : Int) (w3 : World) =>
  withJ (fun (c11_1 : Int) (w4 : World) =>
  newB w4 (.cells ⟨[.int .u8 c11_1]⟩ T_uint8) fun b41 w5 =>
  bytesOf w5 (some ⟨b41, 0, none⟩) 1 fun bs42 =>
  (((⟨bs42.toArray⟩ : ByteArray).size + s9.size : Nat) : Int) ≤ 9223372036854775807 ∧
  base1 ≠ 0 ∧
  ∃ m' : Nat, m' < m ∧ I_0 (w64 (Int.tdiv n0 base1)) ((⟨bs42.toArray⟩ : ByteArray) ++ s9) w5 m') fun J_11_1 =>
  withJ (fun (x35 : Bool) (w6 : World) =>
  condB x35 (
  J_11_1 (IntKind.u8.wrap (w64 ((w64 ((65 : Int) + (Int.tmod n0 base1))) - (10 : Int)))) w6) (
  J_11_1 c11 w6)) fun J_35 =>
  condB (decide ((Int.tmod n0 base1) > (9 : Int))) (
  J_35 capital3 w3) (
  J_35 false w3)) fun J_11 =>
  condB (decide ((Int.tmod n0 base1) > (9 : Int))) (
  J_11 (IntKind.u8.wrap (w64 ((w64 ((97 : Int) + (Int.tmod n0 base1))) - (10 : Int)))) w2) (
  J_11 (IntKind.u8.wrap (w64 ((48 : Int) + (Int.tmod n0 base1)))) w2)) (
  ∃ I_9 : ByteArray → Int → World → Nat → Prop, (∃ m : Nat, I_9 s9 (0 : Int) w2 m) ∧ ∀ (s9_1 : ByteArray) (k12 : Int) (w7 : World) (m_1 : Nat), I_9 s9_1 k12 w7 m_1 → (
  condB (decide (k12 < noughts2)) (
  (((⟨#[48]⟩ : ByteArray).size + s9_1.size : Nat) : Int) ≤ 9223372036854775807 ∧
  ∃ m' : Nat, m' < m_1 ∧ I_9 ((⟨#[48]⟩ : ByteArray) ++ s9_1) (w64 (k12 + (1 : Int))) w7 m') (
  J s9_1 w7)))) fun J_18 =>
  condB (decide (n0 > (0 : Int))) (
  J_18 true w1) (
  J_18 (s9.toList == (⟨#[]⟩ : ByteArray).toList) w1))
def ann_law02_digits : Ann := .s (.o) (.s (.o) (.s (.b (.l [(0, .int .i64), (9, .str)] (.s (.j [(18, .bool)] (.o) (.c (.o) (.o))) (.b (.s (.o) (.s (.o) (.j [(11, .int .u8)] (.s (.o) (.c (.o) (.o))) (.j [(11, .int .u8)] (.j [(35, .bool)] (.o) (.c (.o) (.o))) (.s (.o) (.o)))))))))) (.s (.s (.o) (.b (.l [(9, .str), (12, .int .i64)] (.s (.s (.o) (.c (.o) (.o))) (.s (.b (.o)) (.o)))))) (.s (.o) (.o)))))
theorem eq_law02_digits (n0 : Int) (base1 : Int) (noughts2 : Int) (capital3 : Bool) (w : World) (J : ByteArray → World → Prop) : vcFun Tryd.prog Tryd.f21 ann_law02_digits [.one .str] [.int .i64 n0, .int .i64 base1, .int .i64 noughts2, .bool capital3] w J = VC_law02_digits n0 base1 noughts2 capital3 w J := by kernel_rfl
theorem c_law02_digits {n0 : Int} {base1 : Int} {noughts2 : Int} {capital3 : Bool} {w : World} {J : ByteArray → World → Prop} (h : VC_law02_digits n0 base1 noughts2 capital3 w J) : callJ Tryd.prog fn_law02_digits #[.int .i64 n0, .int .i64 base1, .int .i64 noughts2, .bool capital3] w [.one .str] J := vc_calls Tryd.func21 ann_law02_digits (Eq.mpr (eq_law02_digits n0 base1 noughts2 capital3 w J) h)

/-- bytes.IndexByte -/
def VC_bytes_IndexByte (b0p : Option Addr) (b0l : Nat) (b0c : Nat) (c1 : Int) (w : World) (J : Int → World → Prop) : Prop :=
  extJ Tryd.prog fn_internal_bytealg_IndexByte #[.slice b0p b0l b0c, .int .u8 c1] w [.one (.int .i64)] fun (r7 : Int) (w1 : World) =>
  J r7 w1
def ann_bytes_IndexByte : Ann := .s (.o) (.s (.o) (.o))
theorem eq_bytes_IndexByte (b0p : Option Addr) (b0l : Nat) (b0c : Nat) (c1 : Int) (w : World) (J : Int → World → Prop) : vcFun Tryd.prog Tryd.f45 ann_bytes_IndexByte [.one (.int .i64)] [.slice b0p b0l b0c, .int .u8 c1] w J = VC_bytes_IndexByte b0p b0l b0c c1 w J := by kernel_rfl
theorem c_bytes_IndexByte {b0p : Option Addr} {b0l : Nat} {b0c : Nat} {c1 : Int} {w : World} {J : Int → World → Prop} (h : VC_bytes_IndexByte b0p b0l b0c c1 w J) : callJ Tryd.prog fn_bytes_IndexByte #[.slice b0p b0l b0c, .int .u8 c1] w [.one (.int .i64)] J := vc_calls Tryd.func45 ann_bytes_IndexByte (Eq.mpr (eq_bytes_IndexByte b0p b0l b0c c1 w J) h)

/-- bytes.HasPrefix -/
def VC_bytes_HasPrefix (s0p : Option Addr) (s0l : Nat) (s0c : Nat) (prefix1p : Option Addr) (prefix1l : Nat) (prefix1c : Nat) (w : World) (J : Bool → World → Prop) : Prop :=
  withJ (fun (x4 : Bool) (w1 : World) =>
  J x4 w1) fun J_4 =>
  condB (decide (((s0l : Nat) : Int) ≥ ((prefix1l : Nat) : Int))) (
  slS s0p s0l s0c 1 none (some ((prefix1l : Nat) : Int)) none fun q14p q14l q14c =>
  callJ Tryd.prog fn_bytes_Equal #[.slice q14p q14l q14c, .slice prefix1p prefix1l prefix1c] w [.one .bool] fun (r16 : Bool) (w2 : World) =>
  J_4 r16 w2) (
  J_4 false w)
def ann_bytes_HasPrefix : Ann := .s (.o) (.j [(4, .bool)] (.o) (.o))
theorem eq_bytes_HasPrefix (s0p : Option Addr) (s0l : Nat) (s0c : Nat) (prefix1p : Option Addr) (prefix1l : Nat) (prefix1c : Nat) (w : World) (J : Bool → World → Prop) : vcFun Tryd.prog Tryd.f76 ann_bytes_HasPrefix [.one .bool] [.slice s0p s0l s0c, .slice prefix1p prefix1l prefix1c] w J = VC_bytes_HasPrefix s0p s0l s0c prefix1p prefix1l prefix1c w J := by kernel_rfl
theorem c_bytes_HasPrefix {s0p : Option Addr} {s0l : Nat} {s0c : Nat} {prefix1p : Option Addr} {prefix1l : Nat} {prefix1c : Nat} {w : World} {J : Bool → World → Prop} (h : VC_bytes_HasPrefix s0p s0l s0c prefix1p prefix1l prefix1c w J) : callJ Tryd.prog fn_bytes_HasPrefix #[.slice s0p s0l s0c, .slice prefix1p prefix1l prefix1c] w [.one .bool] J := vc_calls Tryd.func76 ann_bytes_HasPrefix (Eq.mpr (eq_bytes_HasPrefix s0p s0l s0c prefix1p prefix1l prefix1c w J) h)

/-- bytes.Equal -/
def VC_bytes_Equal (a0p : Option Addr) (a0l : Nat) (a0c : Nat) (b1p : Option Addr) (b1l : Nat) (b1c : Nat) (w : World) (J : Bool → World → Prop) : Prop :=
  bytesOf w a0p a0l fun bs6 =>
  bytesOf w b1p b1l fun bs8 =>
  J ((⟨bs6.toArray⟩ : ByteArray).toList == (⟨bs8.toArray⟩ : ByteArray).toList) w
def ann_bytes_Equal : Ann := .s (.o) (.s (.o) (.o))
theorem eq_bytes_Equal (a0p : Option Addr) (a0l : Nat) (a0c : Nat) (b1p : Option Addr) (b1l : Nat) (b1c : Nat) (w : World) (J : Bool → World → Prop) : vcFun Tryd.prog Tryd.f91 ann_bytes_Equal [.one .bool] [.slice a0p a0l a0c, .slice b1p b1l b1c] w J = VC_bytes_Equal a0p a0l a0c b1p b1l b1c w J := by kernel_rfl
theorem c_bytes_Equal {a0p : Option Addr} {a0l : Nat} {a0c : Nat} {b1p : Option Addr} {b1l : Nat} {b1c : Nat} {w : World} {J : Bool → World → Prop} (h : VC_bytes_Equal a0p a0l a0c b1p b1l b1c w J) : callJ Tryd.prog fn_bytes_Equal #[.slice a0p a0l a0c, .slice b1p b1l b1c] w [.one .bool] J := vc_calls Tryd.func91 ann_bytes_Equal (Eq.mpr (eq_bytes_Equal a0p a0l a0c b1p b1l b1c w J) h)

/-- strings.CutPrefix -/
def VC_strings_CutPrefix (s0 : ByteArray) (prefix1 : ByteArray) (w : World) (J : ByteArray → Bool → World → Prop) : Prop :=
  callJ Tryd.prog fn_internal_stringslite_CutPrefix #[.string s0, .string prefix1] w [.one .str, .one .bool] fun (r8_0 : ByteArray) (r8_1 : Bool) (w1 : World) =>
  J r8_0 r8_1 w1
def ann_strings_CutPrefix : Ann := .s (.o) (.s (.o) (.o))
theorem eq_strings_CutPrefix (s0 : ByteArray) (prefix1 : ByteArray) (w : World) (J : ByteArray → Bool → World → Prop) : vcFun Tryd.prog Tryd.f74 ann_strings_CutPrefix [.one .str, .one .bool] [.string s0, .string prefix1] w J = VC_strings_CutPrefix s0 prefix1 w J := by kernel_rfl
theorem c_strings_CutPrefix {s0 : ByteArray} {prefix1 : ByteArray} {w : World} {J : ByteArray → Bool → World → Prop} (h : VC_strings_CutPrefix s0 prefix1 w J) : callJ Tryd.prog fn_strings_CutPrefix #[.string s0, .string prefix1] w [.one .str, .one .bool] J := vc_calls Tryd.func74 ann_strings_CutPrefix (Eq.mpr (eq_strings_CutPrefix s0 prefix1 w J) h)

/-- internal/stringslite.CutPrefix -/
def VC_internal_stringslite_CutPrefix (s0 : ByteArray) (prefix1 : ByteArray) (w : World) (J : ByteArray → Bool → World → Prop) : Prop :=
  callJ Tryd.prog fn_internal_stringslite_HasPrefix #[.string s0, .string prefix1] w [.one .bool] fun (r8 : Bool) (w1 : World) =>
  condB (!r8) (
  J s0 false w1) (
  slStr s0 (some (prefix1.size : Int)) none fun s14 =>
  J s14 true w1)
def ann_internal_stringslite_CutPrefix : Ann := .s (.o) (.s (.s (.o) (.c (.s (.o) (.o)) (.o))) (.s (.o) (.o)))
theorem eq_internal_stringslite_CutPrefix (s0 : ByteArray) (prefix1 : ByteArray) (w : World) (J : ByteArray → Bool → World → Prop) : vcFun Tryd.prog Tryd.f90 ann_internal_stringslite_CutPrefix [.one .str, .one .bool] [.string s0, .string prefix1] w J = VC_internal_stringslite_CutPrefix s0 prefix1 w J := by kernel_rfl
theorem c_internal_stringslite_CutPrefix {s0 : ByteArray} {prefix1 : ByteArray} {w : World} {J : ByteArray → Bool → World → Prop} (h : VC_internal_stringslite_CutPrefix s0 prefix1 w J) : callJ Tryd.prog fn_internal_stringslite_CutPrefix #[.string s0, .string prefix1] w [.one .str, .one .bool] J := vc_calls Tryd.func90 ann_internal_stringslite_CutPrefix (Eq.mpr (eq_internal_stringslite_CutPrefix s0 prefix1 w J) h)

/-- internal/stringslite.HasPrefix -/
def VC_internal_stringslite_HasPrefix (s0 : ByteArray) (prefix1 : ByteArray) (w : World) (J : Bool → World → Prop) : Prop :=
  withJ (fun (x4 : Bool) (w1 : World) =>
  J x4 w1) fun J_4 =>
  condB (decide ((s0.size : Int) ≥ (prefix1.size : Int))) (
  slStr s0 none (some (prefix1.size : Int)) fun s14 =>
  J_4 (s14.toList == prefix1.toList) w) (
  J_4 false w)
def ann_internal_stringslite_HasPrefix : Ann := .s (.o) (.j [(4, .bool)] (.o) (.o))
theorem eq_internal_stringslite_HasPrefix (s0 : ByteArray) (prefix1 : ByteArray) (w : World) (J : Bool → World → Prop) : vcFun Tryd.prog Tryd.f111 ann_internal_stringslite_HasPrefix [.one .bool] [.string s0, .string prefix1] w J = VC_internal_stringslite_HasPrefix s0 prefix1 w J := by kernel_rfl
theorem c_internal_stringslite_HasPrefix {s0 : ByteArray} {prefix1 : ByteArray} {w : World} {J : Bool → World → Prop} (h : VC_internal_stringslite_HasPrefix s0 prefix1 w J) : callJ Tryd.prog fn_internal_stringslite_HasPrefix #[.string s0, .string prefix1] w [.one .bool] J := vc_calls Tryd.func111 ann_internal_stringslite_HasPrefix (Eq.mpr (eq_internal_stringslite_HasPrefix s0 prefix1 w J) h)

end Go.Proofs.YtdjehimkijlhgaaDoor
