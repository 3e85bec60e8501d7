/- What the conditions of these functions are, reckoned by the reading; printed by program. -/
import Derived.Test.YtpcoekemdgmicaaDoorNm
import Derived.KernelRfl
set_option maxRecDepth 100000
set_option linter.unusedVariables false
namespace Go.Proofs.YtpcoekemdgmicaaDoor
open Go Go.Vc

/-- lectern/lecternlaw01.awake -/
def VC_law01_awake  (w : World) (J : Bool → World → Prop) : Prop :=
  newB w (.cells ⟨[.int .u8 (195 : Int), .int .u8 (169 : Int)]⟩ T_uint8) fun b8 w1 =>
  callJ Tryd.prog fn_char_Next #[.slice (some ⟨b8, 0, none⟩) 2 2, .int .i64 (0 : Int)] w1 [.one (.int .i32), .one (.int .i64), .one (.int .i64)] fun (r9_0 : Int) (r9_1 : Int) (r9_2 : Int) (w2 : World) =>
  callJ Tryd.prog fn_char_Split #[.string ⟨#[97, 58, 98]⟩] w2 [.one .str, .one .str, .one .bool] fun (r14_0 : ByteArray) (r14_1 : ByteArray) (r14_2 : Bool) (w3 : World) =>
  withJ (fun (x0 : Bool) (w4 : World) =>
  J x0 w4) fun J_0 =>
  condB (r9_0 == (233 : Int)) (
  condB (r9_1 == (2 : Int)) (
  condB (r9_2 == (0 : Int)) (
  condB (r14_0.toList == (⟨#[97]⟩ : ByteArray).toList) (
  condB (r14_1.toList == (⟨#[98]⟩ : ByteArray).toList) (
  condB r14_2 (
  callJ Tryd.prog fn_char_Name #[.string ⟨#[97, 45, 49]⟩] w3 [.one .bool] fun (r40 : Bool) (w5 : World) =>
  condB r40 (
  callJ Tryd.prog fn_char_Name #[.string ⟨#[49, 97]⟩] w5 [.one .bool] fun (r43 : Bool) (w6 : World) =>
  J_0 (!r43) w6) (
  J_0 false w5)) (
  J_0 false w3)) (
  J_0 false w3)) (
  J_0 false w3)) (
  J_0 false w3)) (
  J_0 false w3)) (
  J_0 false w3)
def ann_law01_awake : Ann := .s (.o) (.s (.o) (.s (.o) (.j [(0, .bool)] (.o) (.o))))
theorem eq_law01_awake  (w : World) (J : Bool → World → Prop) : vcFun Tryd.prog Tryd.f12 ann_law01_awake [.one .bool] [] w J = VC_law01_awake  w J := by kernel_rfl
theorem c_law01_awake {w : World} {J : Bool → World → Prop} (h : VC_law01_awake  w J) : callJ Tryd.prog fn_law01_awake #[] w [.one .bool] J := vc_calls Tryd.func12 ann_law01_awake (Eq.mpr (eq_law01_awake  w J) h)

/-- lectern/lecternlaw01.CharSets -/
def VC_law01_CharSets (r0 : Int) (w : World) (J : Bool → World → Prop) : Prop :=
  callJ Tryd.prog fn_law01_awake #[] w [.one .bool] fun (r5 : Bool) (w1 : World) =>
  condB (!r5) (
  J false w1) (
  ∃ I_7 : Int → World → Nat → Prop, (∃ m : Nat, I_7 (0 : Int) w1 m) ∧ ∀ (x7 : Int) (w2 : World) (m : Nat), I_7 x7 w2 m → (
  condB (decide (x7 < (64 : Int))) (
  withJ (fun (x34 : Bool) (w3 : World) =>
  condB x34 (
  J false w3) (
  ∃ m' : Nat, m' < m ∧ I_7 (IntKind.i32.wrap (x7 + (1 : Int))) w3 m')) fun J_34 =>
  callJ Tryd.prog fn_char_IsChar #[.int .i32 (IntKind.i32.wrap (r0 + x7))] w2 [.one .bool] fun (r14 : Bool) (w4 : World) =>
  callJ Tryd.prog fn_ref01_Char #[.int .i64 (w64 (IntKind.i32.wrap (r0 + x7)))] w4 [.one .bool] fun (r17 : Bool) (w5 : World) =>
  condB (!(r14 == r17)) (
  J_34 true w5) (
  callJ Tryd.prog fn_char_IsStart #[.int .i32 (IntKind.i32.wrap (r0 + x7))] w5 [.one .bool] fun (r21 : Bool) (w6 : World) =>
  callJ Tryd.prog fn_ref01_Start #[.int .i64 (w64 (IntKind.i32.wrap (r0 + x7)))] w6 [.one .bool] fun (r24 : Bool) (w7 : World) =>
  condB (!(r21 == r24)) (
  J_34 true w7) (
  callJ Tryd.prog fn_char_IsPart #[.int .i32 (IntKind.i32.wrap (r0 + x7))] w7 [.one .bool] fun (r29 : Bool) (w8 : World) =>
  callJ Tryd.prog fn_ref01_Part #[.int .i64 (w64 (IntKind.i32.wrap (r0 + x7)))] w8 [.one .bool] fun (r32 : Bool) (w9 : World) =>
  J_34 (!(r29 == r32)) w9))) (
  J true w2)))
def ann_law01_CharSets : Ann := .s (.o) (.s (.s (.o) (.c (.s (.o) (.o)) (.o))) (.s (.s (.o) (.b (.l [(7, .int .i32)] (.s (.o) (.s (.c (.o) (.o)) (.s (.b (.s (.o) (.s (.o) (.j [(34, .bool)] (.o) (.c (.s (.o) (.o)) (.o)))))) (.o))))))) (.s (.o) (.o))))
theorem eq_law01_CharSets (r0 : Int) (w : World) (J : Bool → World → Prop) : vcFun Tryd.prog Tryd.f3 ann_law01_CharSets [.one .bool] [.int .i32 r0] w J = VC_law01_CharSets r0 w J := by kernel_rfl
theorem c_law01_CharSets {r0 : Int} {w : World} {J : Bool → World → Prop} (h : VC_law01_CharSets r0 w J) : callJ Tryd.prog fn_law01_CharSets #[.int .i32 r0] w [.one .bool] J := vc_calls Tryd.func3 ann_law01_CharSets (Eq.mpr (eq_law01_CharSets r0 w J) h)

/-- lectern/lecternlaw01.CharReads -/
def VC_law01_CharReads (b0p : Option Addr) (b0l : Nat) (b0c : Nat) (at1 : Int) (w : World) (J : Bool → World → Prop) : Prop :=
  callJ Tryd.prog fn_law01_awake #[] w [.one .bool] fun (r10 : Bool) (w1 : World) =>
  condB (!r10) (
  J false w1) (
  callJ Tryd.prog fn_char_Next #[.slice b0p b0l b0c, .int .i64 at1] w1 [.one (.int .i32), .one (.int .i64), .one (.int .i64)] fun (r15_0 : Int) (r15_1 : Int) (r15_2 : Int) (w2 : World) =>
  withJ (fun (x26 : Bool) (w3 : World) =>
  condB x26 (
  withJ (fun (x4 : Bool) (w4 : World) =>
  J x4 w4) fun J_4 =>
  condB (r15_2 == (1 : Int)) (
  condB (r15_0 == (0 : Int)) (
  J_4 (r15_1 == (0 : Int)) w3) (
  J_4 false w3)) (
  J_4 false w3)) (
  callJ Tryd.prog fn_ref01_Read #[.slice b0p b0l b0c, .int .i64 at1] w3 [.one (.int .i64), .one (.int .i64)] fun (r40_0 : Int) (r40_1 : Int) (w5 : World) =>
  condB (r40_1 == (0 : Int)) (
  withJ (fun (x4_1 : Bool) (w6 : World) =>
  J x4_1 w6) fun J_4_1 =>
  condB (r15_2 == (20 : Int)) (
  condB (r15_0 == (0 : Int)) (
  J_4_1 (r15_1 == (0 : Int)) w5) (
  J_4_1 false w5)) (
  J_4_1 false w5)) (
  callJ Tryd.prog fn_ref01_Char #[.int .i64 r40_0] w5 [.one .bool] fun (r58 : Bool) (w7 : World) =>
  condB (!r58) (
  withJ (fun (x4_2 : Bool) (w8 : World) =>
  J x4_2 w8) fun J_4_2 =>
  condB (r15_2 == (21 : Int)) (
  condB (r15_0 == (0 : Int)) (
  J_4_2 (r15_1 == (0 : Int)) w7) (
  J_4_2 false w7)) (
  J_4_2 false w7)) (
  withJ (fun (x4_3 : Bool) (w9 : World) =>
  J x4_3 w9) fun J_4_3 =>
  condB (r15_2 == (0 : Int)) (
  condB ((w64 r15_0) == r40_0) (
  J_4_3 (r15_1 == (w64 (at1 + r40_1))) w7) (
  J_4_3 false w7)) (
  J_4_3 false w7))))) fun J_26 =>
  condB (decide (at1 < (0 : Int))) (
  J_26 true w2) (
  J_26 (decide (at1 ≥ ((b0l : Nat) : Int))) w2))
def ann_law01_CharReads : Ann := .s (.o) (.s (.s (.o) (.c (.s (.o) (.o)) (.o))) (.s (.o) (.s (.j [(26, .bool)] (.o) (.c (.j [(4, .bool)] (.o) (.o)) (.o))) (.s (.o) (.s (.b (.s (.o) (.c (.j [(4, .bool)] (.o) (.o)) (.s (.o) (.c (.j [(4, .bool)] (.o) (.o)) (.o)))))) (.j [(4, .bool)] (.o) (.o)))))))
theorem eq_law01_CharReads (b0p : Option Addr) (b0l : Nat) (b0c : Nat) (at1 : Int) (w : World) (J : Bool → World → Prop) : vcFun Tryd.prog Tryd.f4 ann_law01_CharReads [.one .bool] [.slice b0p b0l b0c, .int .i64 at1] w J = VC_law01_CharReads b0p b0l b0c at1 w J := by kernel_rfl
theorem c_law01_CharReads {b0p : Option Addr} {b0l : Nat} {b0c : Nat} {at1 : Int} {w : World} {J : Bool → World → Prop} (h : VC_law01_CharReads b0p b0l b0c at1 w J) : callJ Tryd.prog fn_law01_CharReads #[.slice b0p b0l b0c, .int .i64 at1] w [.one .bool] J := vc_calls Tryd.func4 ann_law01_CharReads (Eq.mpr (eq_law01_CharReads b0p b0l b0c at1 w J) h)

/-- lectern/lecternlaw01.CharNames -/
def VC_law01_CharNames (s0 : ByteArray) (w : World) (J : Bool → World → Prop) : Prop :=
  callJ Tryd.prog fn_law01_awake #[] w [.one .bool] fun (r9 : Bool) (w1 : World) =>
  condB (!r9) (
  J false w1) (
  callJ Tryd.prog fn_char_Split #[.string s0] w1 [.one .str, .one .str, .one .bool] fun (r13_0 : ByteArray) (r13_1 : ByteArray) (r13_2 : Bool) (w2 : World) =>
  callJ Tryd.prog fn_ref01_Split #[.string s0] w2 [.one .str, .one .str, .one .bool] fun (r19_0 : ByteArray) (r19_1 : ByteArray) (r19_2 : Bool) (w3 : World) =>
  withJ (fun (x2 : Bool) (w4 : World) =>
  J x2 w4) fun J_2 =>
  callJ Tryd.prog fn_char_Name #[.string s0] w3 [.one .bool] fun (r24 : Bool) (w5 : World) =>
  callJ Tryd.prog fn_ref01_Name #[.string s0] w5 [.one .bool] fun (r26 : Bool) (w6 : World) =>
  condB (r24 == r26) (
  condB (r13_0.toList == r19_0.toList) (
  condB (r13_1.toList == r19_1.toList) (
  J_2 (r13_2 == r19_2) w6) (
  J_2 false w6)) (
  J_2 false w6)) (
  J_2 false w6))
def ann_law01_CharNames : Ann := .s (.o) (.s (.s (.o) (.c (.s (.o) (.o)) (.o))) (.s (.o) (.s (.o) (.j [(2, .bool)] (.o) (.o)))))
theorem eq_law01_CharNames (s0 : ByteArray) (w : World) (J : Bool → World → Prop) : vcFun Tryd.prog Tryd.f5 ann_law01_CharNames [.one .bool] [.string s0] w J = VC_law01_CharNames s0 w J := by kernel_rfl
theorem c_law01_CharNames {s0 : ByteArray} {w : World} {J : Bool → World → Prop} (h : VC_law01_CharNames s0 w J) : callJ Tryd.prog fn_law01_CharNames #[.string s0] w [.one .bool] J := vc_calls Tryd.func5 ann_law01_CharNames (Eq.mpr (eq_law01_CharNames s0 w J) h)

/-- lectern/lecternlaw01.CharSpells -/
def VC_law01_CharSpells (r0 : Int) (ahead1p : Option Addr) (ahead1l : Nat) (ahead1c : Nat) (behind2p : Option Addr) (behind2l : Nat) (behind2c : Nat) (w : World) (J : Bool → World → Prop) : Prop :=
  callJ Tryd.prog fn_law01_awake #[] w [.one .bool] fun (r12 : Bool) (w1 : World) =>
  condB (!r12) (
  J false w1) (
  cvStrJ Tryd.prog T_int32 T_string (.int .i32 r0) w1 fun q15 w2 =>
  cvJ Tryd.prog T_string T_sl_uint8 (.string q15) w2 fun q16p q16l q16c w3 =>
  newB w3 (.cells ⟨[]⟩ T_uint8) fun b17 w4 =>
  appJ Tryd.prog T_sl_uint8 T_sl_uint8 (.slice (some ⟨b17, 0, none⟩) 0 0) (.slice ahead1p ahead1l ahead1c) w4 fun q19p q19l q19c w5 =>
  appJ Tryd.prog T_sl_uint8 T_sl_uint8 (.slice q19p q19l q19c) (.slice q16p q16l q16c) w5 fun q21p q21l q21c w6 =>
  appJ Tryd.prog T_sl_uint8 T_sl_uint8 (.slice q21p q21l q21c) (.slice behind2p behind2l behind2c) w6 fun q23p q23l q23c w7 =>
  callJ Tryd.prog fn_char_Next #[.slice q23p q23l q23c, .int .i64 ((ahead1l : Nat) : Int)] w7 [.one (.int .i32), .one (.int .i64), .one (.int .i64)] fun (r28_0 : Int) (r28_1 : Int) (r28_2 : Int) (w8 : World) =>
  callJ Tryd.prog fn_char_IsChar #[.int .i32 r0] w8 [.one .bool] fun (r33 : Bool) (w9 : World) =>
  condB r33 (
  withJ (fun (x6 : Bool) (w10 : World) =>
  J x6 w10) fun J_6 =>
  condB (r28_0 == r0) (
  condB (r28_1 == (w64 (((ahead1l : Nat) : Int) + ((q16l : Nat) : Int)))) (
  J_6 (r28_2 == (0 : Int)) w9) (
  J_6 false w9)) (
  J_6 false w9)) (
  withJ (fun (x63 : Bool) (w11 : World) =>
  condB x63 (
  withJ (fun (x6_1 : Bool) (w12 : World) =>
  J x6_1 w12) fun J_6_1 =>
  condB (r28_0 == (65533 : Int)) (
  J_6_1 (r28_2 == (0 : Int)) w11) (
  J_6_1 false w11)) (
  J (r28_2 == (21 : Int)) w11)) fun J_63 =>
  condB (decide (r0 < (0 : Int))) (
  J_63 true w9) (
  condB (decide (r0 > (1114111 : Int))) (
  J_63 true w9) (
  condB (decide (r0 ≥ (55296 : Int))) (
  J_63 (decide (r0 ≤ (57343 : Int))) w9) (
  J_63 false w9)))))
def ann_law01_CharSpells : Ann := .s (.o) (.s (.s (.o) (.c (.s (.o) (.o)) (.o))) (.s (.o) (.s (.o) (.s (.o) (.s (.s (.o) (.c (.j [(6, .bool)] (.o) (.o)) (.o))) (.s (.j [(63, .bool)] (.o) (.c (.j [(6, .bool)] (.o) (.o)) (.o))) (.s (.o) (.o))))))))
theorem eq_law01_CharSpells (r0 : Int) (ahead1p : Option Addr) (ahead1l : Nat) (ahead1c : Nat) (behind2p : Option Addr) (behind2l : Nat) (behind2c : Nat) (w : World) (J : Bool → World → Prop) : vcFun Tryd.prog Tryd.f6 ann_law01_CharSpells [.one .bool] [.int .i32 r0, .slice ahead1p ahead1l ahead1c, .slice behind2p behind2l behind2c] w J = VC_law01_CharSpells r0 ahead1p ahead1l ahead1c behind2p behind2l behind2c w J := by kernel_rfl
theorem c_law01_CharSpells {r0 : Int} {ahead1p : Option Addr} {ahead1l : Nat} {ahead1c : Nat} {behind2p : Option Addr} {behind2l : Nat} {behind2c : Nat} {w : World} {J : Bool → World → Prop} (h : VC_law01_CharSpells r0 ahead1p ahead1l ahead1c behind2p behind2l behind2c w J) : callJ Tryd.prog fn_law01_CharSpells #[.int .i32 r0, .slice ahead1p ahead1l ahead1c, .slice behind2p behind2l behind2c] w [.one .bool] J := vc_calls Tryd.func6 ann_law01_CharSpells (Eq.mpr (eq_law01_CharSpells r0 ahead1p ahead1l ahead1c behind2p behind2l behind2c w J) h)

/-- lectern/lecternlaw01.CharParts -/
def VC_law01_CharParts (p0 : ByteArray) (l1 : ByteArray) (r2 : Int) (w : World) (J : Bool → World → Prop) : Prop :=
  callJ Tryd.prog fn_law01_awake #[] w [.one .bool] fun (r11 : Bool) (w1 : World) =>
  condB (!r11) (
  J false w1) (
  ((p0.size + (⟨#[58]⟩ : ByteArray).size : Nat) : Int) ≤ 9223372036854775807 ∧
  (((p0 ++ (⟨#[58]⟩ : ByteArray)).size + l1.size : Nat) : Int) ≤ 9223372036854775807 ∧
  callJ Tryd.prog fn_char_Split #[.string ((p0 ++ (⟨#[58]⟩ : ByteArray)) ++ l1)] w1 [.one .str, .one .str, .one .bool] fun (r18_0 : ByteArray) (r18_1 : ByteArray) (r18_2 : Bool) (w2 : World) =>
  withJ (fun (x54 : Bool) (w3 : World) =>
  condB x54 (
  J false w3) (
  cvStrJ Tryd.prog T_int32 T_string (.int .i32 r2) w3 fun q57 w4 =>
  ((p0.size + q57.size : Nat) : Int) ≤ 9223372036854775807 ∧
  withJ (fun (x6 : Bool) (w5 : World) =>
  J x6 w5) fun J_6 =>
  callJ Tryd.prog fn_char_Name #[.string p0] w4 [.one .bool] fun (r60 : Bool) (w6 : World) =>
  condB (!r60) (
  J_6 true w6) (
  callJ Tryd.prog fn_char_IsPart #[.int .i32 r2] w6 [.one .bool] fun (r64 : Bool) (w7 : World) =>
  condB (!r64) (
  J_6 true w7) (
  callJ Tryd.prog fn_char_Name #[.string (p0 ++ q57)] w7 [.one .bool] fun (r69 : Bool) (w8 : World) =>
  J_6 (r69 == (decide (((p0 ++ q57).size : Int) ≤ (100 : Int)))) w8)))) fun J_54 =>
  callJ Tryd.prog fn_char_Name #[.string p0] w2 [.one .bool] fun (r24 : Bool) (w9 : World) =>
  condB r24 (
  callJ Tryd.prog fn_char_Name #[.string l1] w9 [.one .bool] fun (r27 : Bool) (w10 : World) =>
  condB (!(r18_2 == r27)) (
  J_54 true w10) (
  condB r18_2 (
  condB (!(r18_0.toList == p0.toList)) (
  J_54 true w10) (
  condB (!(r18_1.toList == l1.toList)) (
  J_54 true w10) (
  condB (!r18_2) (
  condB (!(r18_0.toList == (⟨#[]⟩ : ByteArray).toList)) (
  J_54 true w10) (
  J_54 (!(r18_1.toList == (⟨#[]⟩ : ByteArray).toList)) w10)) (
  J_54 false w10)))) (
  condB (!r18_2) (
  condB (!(r18_0.toList == (⟨#[]⟩ : ByteArray).toList)) (
  J_54 true w10) (
  J_54 (!(r18_1.toList == (⟨#[]⟩ : ByteArray).toList)) w10)) (
  J_54 false w10)))) (
  condB (!(r18_2 == false)) (
  J_54 true w9) (
  condB r18_2 (
  condB (!(r18_0.toList == p0.toList)) (
  J_54 true w9) (
  condB (!(r18_1.toList == l1.toList)) (
  J_54 true w9) (
  condB (!r18_2) (
  condB (!(r18_0.toList == (⟨#[]⟩ : ByteArray).toList)) (
  J_54 true w9) (
  J_54 (!(r18_1.toList == (⟨#[]⟩ : ByteArray).toList)) w9)) (
  J_54 false w9)))) (
  condB (!r18_2) (
  condB (!(r18_0.toList == (⟨#[]⟩ : ByteArray).toList)) (
  J_54 true w9) (
  J_54 (!(r18_1.toList == (⟨#[]⟩ : ByteArray).toList)) w9)) (
  J_54 false w9)))))
def ann_law01_CharParts : Ann := .s (.o) (.s (.s (.o) (.c (.s (.o) (.o)) (.o))) (.s (.o) (.s (.j [(54, .bool)] (.o) (.c (.s (.o) (.o)) (.o))) (.s (.o) (.j [(6, .bool)] (.o) (.o))))))
theorem eq_law01_CharParts (p0 : ByteArray) (l1 : ByteArray) (r2 : Int) (w : World) (J : Bool → World → Prop) : vcFun Tryd.prog Tryd.f7 ann_law01_CharParts [.one .bool] [.string p0, .string l1, .int .i32 r2] w J = VC_law01_CharParts p0 l1 r2 w J := by kernel_rfl
theorem c_law01_CharParts {p0 : ByteArray} {l1 : ByteArray} {r2 : Int} {w : World} {J : Bool → World → Prop} (h : VC_law01_CharParts p0 l1 r2 w J) : callJ Tryd.prog fn_law01_CharParts #[.string p0, .string l1, .int .i32 r2] w [.one .bool] J := vc_calls Tryd.func7 ann_law01_CharParts (Eq.mpr (eq_law01_CharParts p0 l1 r2 w J) h)

/-- lectern/lecternlaw01.CharFaults -/
def VC_law01_CharFaults (b0p : Option Addr) (b0l : Nat) (b0c : Nat) (w : World) (J : Bool → World → Prop) : Prop :=
  callJ Tryd.prog fn_law01_awake #[] w [.one .bool] fun (r7 : Bool) (w1 : World) =>
  condB (!r7) (
  J false w1) (
  callJ Tryd.prog fn_char_Fault #[.slice b0p b0l b0c] w1 [.one (.int .i64), .one (.int .i64)] fun (r11_0 : Int) (r11_1 : Int) (w2 : World) =>
  callJ Tryd.prog fn_ref01_Fault #[.slice b0p b0l b0c] w2 [.one (.int .i64), .one (.int .i64)] fun (r16_0 : Int) (r16_1 : Int) (w3 : World) =>
  withJ (fun (x2 : Bool) (w4 : World) =>
  J x2 w4) fun J_2 =>
  condB (r11_0 == r16_0) (
  J_2 (r11_1 == r16_1) w3) (
  J_2 false w3))
def ann_law01_CharFaults : Ann := .s (.o) (.s (.s (.o) (.c (.s (.o) (.o)) (.o))) (.s (.o) (.s (.o) (.j [(2, .bool)] (.o) (.o)))))
theorem eq_law01_CharFaults (b0p : Option Addr) (b0l : Nat) (b0c : Nat) (w : World) (J : Bool → World → Prop) : vcFun Tryd.prog Tryd.f8 ann_law01_CharFaults [.one .bool] [.slice b0p b0l b0c] w J = VC_law01_CharFaults b0p b0l b0c w J := by kernel_rfl
theorem c_law01_CharFaults {b0p : Option Addr} {b0l : Nat} {b0c : Nat} {w : World} {J : Bool → World → Prop} (h : VC_law01_CharFaults b0p b0l b0c w J) : callJ Tryd.prog fn_law01_CharFaults #[.slice b0p b0l b0c] w [.one .bool] J := vc_calls Tryd.func8 ann_law01_CharFaults (Eq.mpr (eq_law01_CharFaults b0p b0l b0c w J) h)

/-- lectern/lecternlaw01.CharJoins -/
def VC_law01_CharJoins (a0p : Option Addr) (a0l : Nat) (a0c : Nat) (b1p : Option Addr) (b1l : Nat) (b1c : Nat) (w : World) (J : Bool → World → Prop) : Prop :=
  callJ Tryd.prog fn_law01_awake #[] w [.one .bool] fun (r11 : Bool) (w1 : World) =>
  condB (!r11) (
  J false w1) (
  callJ Tryd.prog fn_char_Fault #[.slice a0p a0l a0c] w1 [.one (.int .i64), .one (.int .i64)] fun (r15_0 : Int) (r15_1 : Int) (w2 : World) =>
  callJ Tryd.prog fn_char_Fault #[.slice b1p b1l b1c] w2 [.one (.int .i64), .one (.int .i64)] fun (r20_0 : Int) (r20_1 : Int) (w3 : World) =>
  newB w3 (.cells ⟨[]⟩ T_uint8) fun b24 w4 =>
  appJ Tryd.prog T_sl_uint8 T_sl_uint8 (.slice (some ⟨b24, 0, none⟩) 0 0) (.slice a0p a0l a0c) w4 fun q26p q26l q26c w5 =>
  appJ Tryd.prog T_sl_uint8 T_sl_uint8 (.slice q26p q26l q26c) (.slice b1p b1l b1c) w5 fun q28p q28l q28c w6 =>
  callJ Tryd.prog fn_char_Fault #[.slice q28p q28l q28c] w6 [.one (.int .i64), .one (.int .i64)] fun (r29_0 : Int) (r29_1 : Int) (w7 : World) =>
  condB (r15_1 == (21 : Int)) (
  withJ (fun (x4 : Bool) (w8 : World) =>
  J x4 w8) fun J_4 =>
  condB (r29_0 == r15_0) (
  J_4 (r29_1 == r15_1) w7) (
  J_4 false w7)) (
  condB (r15_1 != (0 : Int)) (
  withJ (fun (x4_1 : Bool) (w9 : World) =>
  J x4_1 w9) fun J_4_1 =>
  condB (r29_1 == (0 : Int)) (
  J_4_1 true w7) (
  J_4_1 (decide (r29_0 ≥ r15_0)) w7)) (
  condB (r20_1 != (0 : Int)) (
  withJ (fun (x4_2 : Bool) (w10 : World) =>
  J x4_2 w10) fun J_4_2 =>
  condB (r29_0 == (w64 (((a0l : Nat) : Int) + r20_0))) (
  J_4_2 (r29_1 == r20_1) w7) (
  J_4_2 false w7)) (
  withJ (fun (x4_3 : Bool) (w11 : World) =>
  J x4_3 w11) fun J_4_3 =>
  condB (r29_0 == (0 : Int)) (
  J_4_3 (r29_1 == (0 : Int)) w7) (
  J_4_3 false w7)))))
def ann_law01_CharJoins : Ann := .s (.o) (.s (.s (.o) (.c (.s (.o) (.o)) (.o))) (.s (.o) (.s (.o) (.s (.o) (.s (.b (.s (.o) (.c (.j [(4, .bool)] (.o) (.o)) (.s (.o) (.c (.j [(4, .bool)] (.o) (.o)) (.s (.o) (.c (.j [(4, .bool)] (.o) (.o)) (.o)))))))) (.j [(4, .bool)] (.o) (.o)))))))
theorem eq_law01_CharJoins (a0p : Option Addr) (a0l : Nat) (a0c : Nat) (b1p : Option Addr) (b1l : Nat) (b1c : Nat) (w : World) (J : Bool → World → Prop) : vcFun Tryd.prog Tryd.f9 ann_law01_CharJoins [.one .bool] [.slice a0p a0l a0c, .slice b1p b1l b1c] w J = VC_law01_CharJoins a0p a0l a0c b1p b1l b1c w J := by kernel_rfl
theorem c_law01_CharJoins {a0p : Option Addr} {a0l : Nat} {a0c : Nat} {b1p : Option Addr} {b1l : Nat} {b1c : Nat} {w : World} {J : Bool → World → Prop} (h : VC_law01_CharJoins a0p a0l a0c b1p b1l b1c w J) : callJ Tryd.prog fn_law01_CharJoins #[.slice a0p a0l a0c, .slice b1p b1l b1c] w [.one .bool] J := vc_calls Tryd.func9 ann_law01_CharJoins (Eq.mpr (eq_law01_CharJoins a0p a0l a0c b1p b1l b1c w J) h)

/-- lectern/lecternlaw01.CharLines -/
def VC_law01_CharLines (b0p : Option Addr) (b0l : Nat) (b0c : Nat) (w : World) (J : Bool → World → Prop) : Prop :=
  callJ Tryd.prog fn_law01_awake #[] w [.one .bool] fun (r7 : Bool) (w1 : World) =>
  condB (!r7) (
  J false w1) (
  callJ Tryd.prog fn_ref01_Spare #[.slice b0p b0l b0c] w1 [.one .slice] fun (r10p : Option Addr) (r10l : Nat) (r10c : Nat) (w2 : World) =>
  callJ Tryd.prog fn_char_Lines #[.slice r10p r10l r10c] w2 [.one .slice] fun (r12p : Option Addr) (r12l : Nat) (r12c : Nat) (w3 : World) =>
  callJ Tryd.prog fn_char_Lines #[.slice r10p r10l r10c] w3 [.one .slice] fun (r14p : Option Addr) (r14l : Nat) (r14c : Nat) (w4 : World) =>
  withJ (fun (x25 : Bool) (w5 : World) =>
  condB x25 (
  J false w5) (
  ∃ I_28 : Int → World → Nat → Prop, (∃ m : Nat, I_28 (0 : Int) w5 m) ∧ ∀ (x28 : Int) (w6 : World) (m : Nat), I_28 x28 w6 m → (
  condB (decide (x28 < ((r12l : Nat) : Int))) (
  idxA r12p r12l x28 fun a33 =>
  stV w6 ((a33.add (x28.toNat * 1))) (.int .u8 (7 : Int)) fun w7 =>
  ∃ m' : Nat, m' < m ∧ I_28 (w64 (x28 + (1 : Int))) w7 m') (
  withJ (fun (x2 : Bool) (w8 : World) =>
  J x2 w8) fun J_2 =>
  callJ Tryd.prog fn_ref01_Kept #[.slice r10p r10l r10c, .slice b0p b0l b0c] w6 [.one .bool] fun (r37 : Bool) (w9 : World) =>
  condB r37 (
  callJ Tryd.prog fn_ref01_Lines #[.slice b0p b0l b0c] w9 [.one .slice] fun (r41p : Option Addr) (r41l : Nat) (r41c : Nat) (w10 : World) =>
  callJ Tryd.prog fn_ref01_Same #[.slice r14p r14l r14c, .slice r41p r41l r41c] w10 [.one .bool] fun (r42 : Bool) (w11 : World) =>
  J_2 r42 w11) (
  J_2 false w9))))) fun J_25 =>
  callJ Tryd.prog fn_ref01_Lines #[.slice b0p b0l b0c] w4 [.one .slice] fun (r17p : Option Addr) (r17l : Nat) (r17c : Nat) (w12 : World) =>
  callJ Tryd.prog fn_ref01_Same #[.slice r12p r12l r12c, .slice r17p r17l r17c] w12 [.one .bool] fun (r18 : Bool) (w13 : World) =>
  condB (!r18) (
  J_25 true w13) (
  callJ Tryd.prog fn_ref01_Kept #[.slice r10p r10l r10c, .slice b0p b0l b0c] w13 [.one .bool] fun (r23 : Bool) (w14 : World) =>
  J_25 (!r23) w14))
def ann_law01_CharLines : Ann := .s (.o) (.s (.s (.o) (.c (.s (.o) (.o)) (.o))) (.s (.o) (.s (.o) (.s (.o) (.s (.j [(25, .bool)] (.o) (.c (.s (.o) (.o)) (.o))) (.s (.s (.o) (.b (.l [(28, .int .i64)] (.s (.o) (.s (.c (.o) (.o)) (.s (.b (.s (.o) (.o))) (.o))))))) (.j [(2, .bool)] (.o) (.o))))))))
theorem eq_law01_CharLines (b0p : Option Addr) (b0l : Nat) (b0c : Nat) (w : World) (J : Bool → World → Prop) : vcFun Tryd.prog Tryd.f10 ann_law01_CharLines [.one .bool] [.slice b0p b0l b0c] w J = VC_law01_CharLines b0p b0l b0c w J := by kernel_rfl
theorem c_law01_CharLines {b0p : Option Addr} {b0l : Nat} {b0c : Nat} {w : World} {J : Bool → World → Prop} (h : VC_law01_CharLines b0p b0l b0c w J) : callJ Tryd.prog fn_law01_CharLines #[.slice b0p b0l b0c] w [.one .bool] J := vc_calls Tryd.func10 ann_law01_CharLines (Eq.mpr (eq_law01_CharLines b0p b0l b0c w J) h)

/-- lectern/lecternlaw01.CharEnds -/
def VC_law01_CharEnds (a0p : Option Addr) (a0l : Nat) (a0c : Nat) (b1p : Option Addr) (b1l : Nat) (b1c : Nat) (w : World) (J : Bool → World → Prop) : Prop :=
  callJ Tryd.prog fn_law01_awake #[] w [.one .bool] fun (r8 : Bool) (w1 : World) =>
  condB (!r8) (
  J false w1) (
  callJ Tryd.prog fn_char_Lines #[.slice a0p a0l a0c] w1 [.one .slice] fun (r11p : Option Addr) (r11l : Nat) (r11c : Nat) (w2 : World) =>
  ∃ I_14 : Int → World → Nat → Prop, (∃ m : Nat, I_14 (0 : Int) w2 m) ∧ ∀ (x14 : Int) (w3 : World) (m : Nat), I_14 x14 w3 m → (
  condB (decide (x14 < ((r11l : Nat) : Int))) (
  idxA r11p r11l x14 fun a16 =>
  ldI .u8 w3 ((a16.add (x14.toNat * 1))) fun x17 =>
  condB (x17 == (13 : Int)) (
  J false w3) (
  ∃ m' : Nat, m' < m ∧ I_14 (w64 (x14 + (1 : Int))) w3 m')) (
  withJ (fun (x40 : Bool) (w4 : World) =>
  condB x40 (
  J false w4) (
  withJ (fun (x63 : Bool) (w5 : World) =>
  condB x63 (
  J true w5) (
  newB w5 (.cells ⟨[]⟩ T_uint8) fun b64 w6 =>
  appJ Tryd.prog T_sl_uint8 T_sl_uint8 (.slice (some ⟨b64, 0, none⟩) 0 0) (.slice a0p a0l a0c) w6 fun q66p q66l q66c w7 =>
  appJ Tryd.prog T_sl_uint8 T_sl_uint8 (.slice q66p q66l q66c) (.slice b1p b1l b1c) w7 fun q68p q68l q68c w8 =>
  callJ Tryd.prog fn_char_Lines #[.slice q68p q68l q68c] w8 [.one .slice] fun (r69p : Option Addr) (r69l : Nat) (r69c : Nat) (w9 : World) =>
  callJ Tryd.prog fn_char_Lines #[.slice b1p b1l b1c] w9 [.one .slice] fun (r72p : Option Addr) (r72l : Nat) (r72c : Nat) (w10 : World) =>
  appJ Tryd.prog T_sl_uint8 T_sl_uint8 (.slice r11p r11l r11c) (.slice r72p r72l r72c) w10 fun q73p q73l q73c w11 =>
  callJ Tryd.prog fn_ref01_Same #[.slice r69p r69l r69c, .slice q73p q73l q73c] w11 [.one .bool] fun (r74 : Bool) (w12 : World) =>
  J r74 w12)) fun J_63 =>
  condB (decide (((a0l : Nat) : Int) > (0 : Int))) (
  condB (decide (((b1l : Nat) : Int) > (0 : Int))) (
  idxA a0p a0l (w64 (((a0l : Nat) : Int) - (1 : Int))) fun a54 =>
  ldI .u8 w4 ((a54.add ((w64 (((a0l : Nat) : Int) - (1 : Int))).toNat * 1))) fun x55 =>
  condB (x55 == (13 : Int)) (
  idxA b1p b1l (0 : Int) fun a60 =>
  ldI .u8 w4 ((a60.add ((0 : Int).toNat * 1))) fun x61 =>
  J_63 (x61 == (10 : Int)) w4) (
  J_63 false w4)) (
  J_63 false w4)) (
  J_63 false w4))) fun J_40 =>
  callJ Tryd.prog fn_char_Lines #[.slice r11p r11l r11c] w3 [.one .slice] fun (r22p : Option Addr) (r22l : Nat) (r22c : Nat) (w13 : World) =>
  callJ Tryd.prog fn_ref01_Same #[.slice r22p r22l r22c, .slice r11p r11l r11c] w13 [.one .bool] fun (r24 : Bool) (w14 : World) =>
  condB (!r24) (
  J_40 true w14) (
  condB (decide (((r11l : Nat) : Int) > ((a0l : Nat) : Int))) (
  J_40 true w14) (
  J_40 (decide ((w64 ((2 : Int) * ((r11l : Nat) : Int))) < ((a0l : Nat) : Int))) w14)))))
def ann_law01_CharEnds : Ann := .s (.o) (.s (.s (.o) (.c (.s (.o) (.o)) (.o))) (.s (.o) (.s (.s (.o) (.b (.l [(14, .int .i64)] (.s (.o) (.s (.c (.o) (.o)) (.s (.b (.s (.o) (.s (.o) (.c (.s (.o) (.o)) (.o))))) (.o))))))) (.s (.j [(40, .bool)] (.o) (.c (.s (.o) (.o)) (.o))) (.s (.j [(63, .bool)] (.o) (.c (.s (.o) (.o)) (.o))) (.s (.o) (.o)))))))
theorem eq_law01_CharEnds (a0p : Option Addr) (a0l : Nat) (a0c : Nat) (b1p : Option Addr) (b1l : Nat) (b1c : Nat) (w : World) (J : Bool → World → Prop) : vcFun Tryd.prog Tryd.f11 ann_law01_CharEnds [.one .bool] [.slice a0p a0l a0c, .slice b1p b1l b1c] w J = VC_law01_CharEnds a0p a0l a0c b1p b1l b1c w J := by kernel_rfl
theorem c_law01_CharEnds {a0p : Option Addr} {a0l : Nat} {a0c : Nat} {b1p : Option Addr} {b1l : Nat} {b1c : Nat} {w : World} {J : Bool → World → Prop} (h : VC_law01_CharEnds a0p a0l a0c b1p b1l b1c w J) : callJ Tryd.prog fn_law01_CharEnds #[.slice a0p a0l a0c, .slice b1p b1l b1c] w [.one .bool] J := vc_calls Tryd.func11 ann_law01_CharEnds (Eq.mpr (eq_law01_CharEnds a0p a0l a0c b1p b1l b1c w J) h)

end Go.Proofs.YtpcoekemdgmicaaDoor
