/- What the conditions of these functions are, reckoned by the reading; printed by program. -/
import Derived.Test.YtkgfbphdmnapdaaGreatDoorNm
import Derived.KernelRfl
set_option maxRecDepth 100000
set_option linter.unusedVariables false
namespace Go.Proofs.YtkgfbphdmnapdaaGreatDoor
open Go Go.Vc

/-- lectern/lecternref01.Char -/
def VC_ref01_Char (r0 : Int) (w : World) (J : Bool → World → Prop) : Prop :=
  withJ (fun (x2 : Bool) (w1 : World) =>
  J x2 w1) fun J_2 =>
  condB (r0 == (9 : Int)) (
  J_2 true w) (
  condB (r0 == (10 : Int)) (
  J_2 true w) (
  condB (r0 == (13 : Int)) (
  J_2 true w) (
  condB (decide (r0 ≥ (32 : Int))) (
  condB (decide (r0 ≤ (55295 : Int))) (
  J_2 true w) (
  condB (decide (r0 ≥ (57344 : Int))) (
  condB (decide (r0 ≤ (65533 : Int))) (
  J_2 true w) (
  condB (decide (r0 ≥ (65536 : Int))) (
  J_2 (decide (r0 ≤ (1114111 : Int))) w) (
  J_2 false w))) (
  condB (decide (r0 ≥ (65536 : Int))) (
  J_2 (decide (r0 ≤ (1114111 : Int))) w) (
  J_2 false w)))) (
  condB (decide (r0 ≥ (57344 : Int))) (
  condB (decide (r0 ≤ (65533 : Int))) (
  J_2 true w) (
  condB (decide (r0 ≥ (65536 : Int))) (
  J_2 (decide (r0 ≤ (1114111 : Int))) w) (
  J_2 false w))) (
  condB (decide (r0 ≥ (65536 : Int))) (
  J_2 (decide (r0 ≤ (1114111 : Int))) w) (
  J_2 false w))))))
def ann_ref01_Char : Ann := .s (.o) (.j [(2, .bool)] (.o) (.o))
theorem eq_ref01_Char (r0 : Int) (w : World) (J : Bool → World → Prop) : vcFun Tryz.prog Tryz.f111 ann_ref01_Char [.one .bool] [.int .i64 r0] w J = VC_ref01_Char r0 w J := by kernel_rfl
theorem c_ref01_Char {r0 : Int} {w : World} {J : Bool → World → Prop} (h : VC_ref01_Char r0 w J) : callJ Tryz.prog fn_ref01_Char #[.int .i64 r0] w [.one .bool] J := vc_calls Tryz.func111 ann_ref01_Char (Eq.mpr (eq_ref01_Char r0 w J) h)

/-- lectern/lecternref01.Part -/
def VC_ref01_Part (r0 : Int) (w : World) (J : Bool → World → Prop) : Prop :=
  withJ (fun (x2 : Bool) (w1 : World) =>
  J x2 w1) fun J_2 =>
  callJ Tryz.prog fn_ref01_Start #[.int .i64 r0] w [.one .bool] fun (r4 : Bool) (w2 : World) =>
  condB r4 (
  J_2 true w2) (
  condB (r0 == (45 : Int)) (
  J_2 true w2) (
  condB (r0 == (46 : Int)) (
  J_2 true w2) (
  condB (decide (r0 ≥ (48 : Int))) (
  condB (decide (r0 ≤ (57 : Int))) (
  J_2 true w2) (
  condB (r0 == (183 : Int)) (
  J_2 true w2) (
  condB (decide (r0 ≥ (768 : Int))) (
  condB (decide (r0 ≤ (879 : Int))) (
  J_2 true w2) (
  condB (r0 == (8255 : Int)) (
  J_2 true w2) (
  J_2 (r0 == (8256 : Int)) w2))) (
  condB (r0 == (8255 : Int)) (
  J_2 true w2) (
  J_2 (r0 == (8256 : Int)) w2))))) (
  condB (r0 == (183 : Int)) (
  J_2 true w2) (
  condB (decide (r0 ≥ (768 : Int))) (
  condB (decide (r0 ≤ (879 : Int))) (
  J_2 true w2) (
  condB (r0 == (8255 : Int)) (
  J_2 true w2) (
  J_2 (r0 == (8256 : Int)) w2))) (
  condB (r0 == (8255 : Int)) (
  J_2 true w2) (
  J_2 (r0 == (8256 : Int)) w2)))))))
def ann_ref01_Part : Ann := .s (.o) (.j [(2, .bool)] (.o) (.o))
theorem eq_ref01_Part (r0 : Int) (w : World) (J : Bool → World → Prop) : vcFun Tryz.prog Tryz.f96 ann_ref01_Part [.one .bool] [.int .i64 r0] w J = VC_ref01_Part r0 w J := by kernel_rfl
theorem c_ref01_Part {r0 : Int} {w : World} {J : Bool → World → Prop} (h : VC_ref01_Part r0 w J) : callJ Tryz.prog fn_ref01_Part #[.int .i64 r0] w [.one .bool] J := vc_calls Tryz.func96 ann_ref01_Part (Eq.mpr (eq_ref01_Part r0 w J) h)

/-- lectern/lecternref01.Start -/
def VC_ref01_Start (r0 : Int) (w : World) (J : Bool → World → Prop) : Prop :=
  withJ (fun (x3 : Bool) (w1 : World) =>
  condB x3 (
  J true w1) (
  withJ (fun (x18 : Bool) (w2 : World) =>
  condB x18 (
  withJ (fun (x2 : Bool) (w3 : World) =>
  J x2 w3) fun J_2 =>
  condB (r0 != (215 : Int)) (
  J_2 (r0 != (247 : Int)) w2) (
  J_2 false w2)) (
  withJ (fun (x31 : Bool) (w4 : World) =>
  condB x31 (
  J (r0 != (894 : Int)) w4) (
  withJ (fun (x40 : Bool) (w5 : World) =>
  condB x40 (
  J true w5) (
  withJ (fun (x45 : Bool) (w6 : World) =>
  condB x45 (
  J true w6) (
  withJ (fun (x64 : Bool) (w7 : World) =>
  condB x64 (
  withJ (fun (x2_1 : Bool) (w8 : World) =>
  J x2_1 w8) fun J_2_1 =>
  condB (decide (r0 < (64976 : Int))) (
  J_2_1 true w7) (
  J_2_1 (decide (r0 ≥ (65008 : Int))) w7)) (
  withJ (fun (x2_2 : Bool) (w9 : World) =>
  J x2_2 w9) fun J_2_2 =>
  condB (decide (r0 ≥ (65536 : Int))) (
  J_2_2 (decide (r0 ≤ (983039 : Int))) w7) (
  J_2_2 false w7))) fun J_64 =>
  condB (decide (r0 ≥ (63744 : Int))) (
  J_64 (decide (r0 ≤ (65533 : Int))) w6) (
  J_64 false w6))) fun J_45 =>
  withJ (fun (x45_1 : Bool) (w10 : World) =>
  condB x45_1 (
  J_45 x45_1 w10) (
  withJ (fun (x45_2 : Bool) (w11 : World) =>
  condB x45_2 (
  J_45 x45_2 w11) (
  condB (decide (r0 ≥ (12289 : Int))) (
  J_45 (decide (r0 ≤ (55295 : Int))) w11) (
  J_45 false w11))) fun J_45_2 =>
  condB (decide (r0 ≥ (11264 : Int))) (
  J_45_2 (decide (r0 ≤ (12271 : Int))) w10) (
  J_45_2 false w10))) fun J_45_1 =>
  condB (decide (r0 ≥ (8304 : Int))) (
  J_45_1 (decide (r0 ≤ (8591 : Int))) w5) (
  J_45_1 false w5))) fun J_40 =>
  condB (r0 == (8204 : Int)) (
  J_40 (r0 == (8204 : Int)) w4) (
  J_40 (r0 == (8205 : Int)) w4))) fun J_31 =>
  condB (decide (r0 ≥ (880 : Int))) (
  J_31 (decide (r0 ≤ (8191 : Int))) w2) (
  J_31 false w2))) fun J_18 =>
  condB (decide (r0 ≥ (192 : Int))) (
  J_18 (decide (r0 ≤ (767 : Int))) w1) (
  J_18 false w1))) fun J_3 =>
  withJ (fun (x3_1 : Bool) (w12 : World) =>
  condB x3_1 (
  J_3 x3_1 w12) (
  condB (r0 == (95 : Int)) (
  J_3 (r0 == (95 : Int)) w12) (
  condB (decide (r0 ≥ (97 : Int))) (
  J_3 (decide (r0 ≤ (122 : Int))) w12) (
  J_3 false w12)))) fun J_3_1 =>
  condB (decide (r0 ≥ (65 : Int))) (
  J_3_1 (decide (r0 ≤ (90 : Int))) w) (
  J_3_1 false w)
def ann_ref01_Start : Ann := .s (.o) (.s (.b (.j [(3, .bool)] (.j [(3, .bool)] (.o) (.c (.o) (.s (.o) (.c (.o) (.o))))) (.c (.s (.o) (.o)) (.j [(18, .bool)] (.o) (.c (.j [(2, .bool)] (.o) (.o)) (.j [(31, .bool)] (.o) (.c (.s (.o) (.o)) (.j [(40, .bool)] (.s (.o) (.c (.o) (.o))) (.c (.s (.o) (.o)) (.j [(45, .bool)] (.j [(45, .bool)] (.o) (.c (.o) (.j [(45, .bool)] (.o) (.c (.o) (.o))))) (.c (.s (.o) (.o)) (.j [(64, .bool)] (.o) (.c (.j [(2, .bool)] (.o) (.o)) (.o)))))))))))))) (.j [(2, .bool)] (.o) (.o)))
theorem eq_ref01_Start (r0 : Int) (w : World) (J : Bool → World → Prop) : vcFun Tryz.prog Tryz.f97 ann_ref01_Start [.one .bool] [.int .i64 r0] w J = VC_ref01_Start r0 w J := by kernel_rfl
theorem c_ref01_Start {r0 : Int} {w : World} {J : Bool → World → Prop} (h : VC_ref01_Start r0 w J) : callJ Tryz.prog fn_ref01_Start #[.int .i64 r0] w [.one .bool] J := vc_calls Tryz.func97 ann_ref01_Start (Eq.mpr (eq_ref01_Start r0 w J) h)

/-- lectern/lecternref01.Read -/
def VC_ref01_Read (b0p : Option Addr) (b0l : Nat) (b0c : Nat) (at1 : Int) (w : World) (J : Int → Int → World → Prop) : Prop :=
  idxA b0p b0l at1 fun a14 =>
  ldI .u8 w ((a14.add (at1.toNat * 1))) fun x15 =>
  withJ (fun (n7 : Int) (r8 : Int) (least9 : Int) (w1 : World) =>
  condB (decide ((w64 (at1 + n7)) > ((b0l : Nat) : Int))) (
  J (0 : Int) (0 : Int) w1) (
  ∃ I_8 : Int → Int → World → Nat → Prop, (∃ m : Nat, I_8 r8 (1 : Int) w1 m) ∧ ∀ (r8_1 : Int) (i10 : Int) (w2 : World) (m : Nat), I_8 r8_1 i10 w2 m → (
  condB (decide (i10 < n7)) (
  idxA b0p b0l (w64 (at1 + i10)) fun a64 =>
  ldI .u8 w2 ((a64.add ((w64 (at1 + i10)).toNat * 1))) fun x65 =>
  withJ (fun (x72 : Bool) (w3 : World) =>
  condB x72 (
  J (0 : Int) (0 : Int) w3) (
  ∃ m' : Nat, m' < m ∧ I_8 (w64 ((w64 ((w64 ((64 : Int) * r8_1)) + (w64 x65))) - (128 : Int))) (w64 (i10 + (1 : Int))) w3 m')) fun J_72 =>
  condB (decide ((w64 x65) < (128 : Int))) (
  J_72 true w2) (
  J_72 (decide ((w64 x65) > (191 : Int))) w2)) (
  withJ (fun (x92 : Bool) (w4 : World) =>
  condB x92 (
  J (0 : Int) (0 : Int) w4) (
  J r8_1 n7 w4)) fun J_92 =>
  condB (decide (r8_1 < least9)) (
  J_92 true w2) (
  condB (decide (r8_1 > (1114111 : Int))) (
  J_92 true w2) (
  condB (decide (r8_1 ≥ (55296 : Int))) (
  J_92 (decide (r8_1 ≤ (57343 : Int))) w2) (
  J_92 false w2))))))) fun J_7 =>
  condB (decide ((w64 x15) < (128 : Int))) (
  J (w64 x15) (1 : Int) w) (
  withJ (fun (x22 : Bool) (w5 : World) =>
  condB x22 (
  J_7 (2 : Int) (w64 ((w64 x15) - (192 : Int))) (128 : Int) w5) (
  withJ (fun (x31 : Bool) (w6 : World) =>
  condB x31 (
  J_7 (3 : Int) (w64 ((w64 x15) - (224 : Int))) (2048 : Int) w6) (
  withJ (fun (x40 : Bool) (w7 : World) =>
  condB x40 (
  J_7 (4 : Int) (w64 ((w64 x15) - (240 : Int))) (65536 : Int) w7) (
  J (0 : Int) (0 : Int) w7)) fun J_40 =>
  condB (decide ((w64 x15) ≥ (240 : Int))) (
  J_40 (decide ((w64 x15) < (248 : Int))) w6) (
  J_40 false w6))) fun J_31 =>
  condB (decide ((w64 x15) ≥ (224 : Int))) (
  J_31 (decide ((w64 x15) < (240 : Int))) w5) (
  J_31 false w5))) fun J_22 =>
  condB (decide ((w64 x15) ≥ (192 : Int))) (
  J_22 (decide ((w64 x15) < (224 : Int))) w) (
  J_22 false w))
def ann_ref01_Read : Ann := .s (.o) (.s (.o) (.s (.o) (.j [(7, .int .i64), (8, .int .i64), (9, .int .i64)] (.b (.s (.o) (.c (.s (.o) (.o)) (.j [(22, .bool)] (.o) (.c (.o) (.j [(31, .bool)] (.o) (.c (.o) (.j [(40, .bool)] (.o) (.c (.o) (.s (.o) (.o))))))))))) (.s (.s (.o) (.c (.s (.o) (.o)) (.o))) (.s (.s (.o) (.b (.l [(8, .int .i64), (10, .int .i64)] (.s (.s (.o) (.c (.o) (.o))) (.s (.b (.s (.o) (.s (.j [(72, .bool)] (.o) (.c (.s (.o) (.o)) (.o))) (.o)))) (.o)))))) (.s (.j [(92, .bool)] (.o) (.c (.s (.o) (.o)) (.o))) (.s (.o) (.o))))))))
theorem eq_ref01_Read (b0p : Option Addr) (b0l : Nat) (b0c : Nat) (at1 : Int) (w : World) (J : Int → Int → World → Prop) : vcFun Tryz.prog Tryz.f95 ann_ref01_Read [.one (.int .i64), .one (.int .i64)] [.slice b0p b0l b0c, .int .i64 at1] w J = VC_ref01_Read b0p b0l b0c at1 w J := by kernel_rfl
theorem c_ref01_Read {b0p : Option Addr} {b0l : Nat} {b0c : Nat} {at1 : Int} {w : World} {J : Int → Int → World → Prop} (h : VC_ref01_Read b0p b0l b0c at1 w J) : callJ Tryz.prog fn_ref01_Read #[.slice b0p b0l b0c, .int .i64 at1] w [.one (.int .i64), .one (.int .i64)] J := vc_calls Tryz.func95 ann_ref01_Read (Eq.mpr (eq_ref01_Read b0p b0l b0c at1 w J) h)

/-- lectern/lecternref01.Name -/
def VC_ref01_Name (s0 : ByteArray) (w : World) (J : Bool → World → Prop) : Prop :=
  cvJ Tryz.prog T_string T_sl_uint8 (.string s0) w fun q8p q8l q8c w1 =>
  withJ (fun (x16 : Bool) (w2 : World) =>
  condB x16 (
  J false w2) (
  ∃ I_4 : Int → World → Nat → Prop, (∃ m : Nat, I_4 (0 : Int) w2 m) ∧ ∀ (at4 : Int) (w3 : World) (m : Nat), I_4 at4 w3 m → (
  condB (decide (at4 < ((q8l : Nat) : Int))) (
  callJ Tryz.prog fn_ref01_Read #[.slice q8p q8l q8c, .int .i64 at4] w3 [.one (.int .i64), .one (.int .i64)] fun (r24_0 : Int) (r24_1 : Int) (w4 : World) =>
  withJ (fun (x42 : Bool) (w5 : World) =>
  condB x42 (
  J false w5) (
  ∃ m' : Nat, m' < m ∧ I_4 (w64 (at4 + r24_1)) w5 m')) fun J_42 =>
  condB (r24_1 == (0 : Int)) (
  J_42 true w4) (
  callJ Tryz.prog fn_ref01_Part #[.int .i64 r24_0] w4 [.one .bool] fun (r31 : Bool) (w6 : World) =>
  condB (!r31) (
  J_42 true w6) (
  condB (at4 == (0 : Int)) (
  callJ Tryz.prog fn_ref01_Start #[.int .i64 r24_0] w6 [.one .bool] fun (r39 : Bool) (w7 : World) =>
  J_42 (!r39) w7) (
  J_42 false w6)))) (
  J true w3)))) fun J_16 =>
  condB (((q8l : Nat) : Int) == (0 : Int)) (
  J_16 true w1) (
  J_16 (decide (((q8l : Nat) : Int) > (100 : Int))) w1)
def ann_ref01_Name : Ann := .s (.o) (.s (.o) (.s (.j [(16, .bool)] (.o) (.c (.s (.o) (.o)) (.o))) (.s (.s (.o) (.b (.l [(4, .int .i64)] (.s (.s (.o) (.c (.o) (.o))) (.b (.s (.o) (.s (.j [(42, .bool)] (.o) (.c (.s (.o) (.o)) (.o))) (.o)))))))) (.s (.o) (.o)))))
theorem eq_ref01_Name (s0 : ByteArray) (w : World) (J : Bool → World → Prop) : vcFun Tryz.prog Tryz.f73 ann_ref01_Name [.one .bool] [.string s0] w J = VC_ref01_Name s0 w J := by kernel_rfl
theorem c_ref01_Name {s0 : ByteArray} {w : World} {J : Bool → World → Prop} (h : VC_ref01_Name s0 w J) : callJ Tryz.prog fn_ref01_Name #[.string s0] w [.one .bool] J := vc_calls Tryz.func73 ann_ref01_Name (Eq.mpr (eq_ref01_Name s0 w J) h)

/-- lectern/lecternref01.Fault -/
def VC_ref01_Fault (b0p : Option Addr) (b0l : Nat) (b0c : Nat) (w : World) (J : Int → Int → World → Prop) : Prop :=
  ∃ I_4 : Int → World → Nat → Prop, (∃ m : Nat, I_4 (0 : Int) w m) ∧ ∀ (at4 : Int) (w1 : World) (m : Nat), I_4 at4 w1 m → (
  condB (decide (at4 < ((b0l : Nat) : Int))) (
  callJ Tryz.prog fn_ref01_Read #[.slice b0p b0l b0c, .int .i64 at4] w1 [.one (.int .i64), .one (.int .i64)] fun (r14_0 : Int) (r14_1 : Int) (w2 : World) =>
  condB (r14_1 == (0 : Int)) (
  J at4 (20 : Int) w2) (
  callJ Tryz.prog fn_ref01_Char #[.int .i64 r14_0] w2 [.one .bool] fun (r21 : Bool) (w3 : World) =>
  condB (!r21) (
  J at4 (21 : Int) w3) (
  ∃ m' : Nat, m' < m ∧ I_4 (w64 (at4 + r14_1)) w3 m'))) (
  J (0 : Int) (0 : Int) w1))
def ann_ref01_Fault : Ann := .s (.o) (.s (.s (.o) (.b (.l [(4, .int .i64)] (.s (.s (.o) (.c (.o) (.o))) (.b (.s (.o) (.s (.s (.o) (.c (.s (.o) (.o)) (.o))) (.s (.s (.o) (.c (.s (.o) (.o)) (.o))) (.o))))))))) (.s (.o) (.o)))
theorem eq_ref01_Fault (b0p : Option Addr) (b0l : Nat) (b0c : Nat) (w : World) (J : Int → Int → World → Prop) : vcFun Tryz.prog Tryz.f98 ann_ref01_Fault [.one (.int .i64), .one (.int .i64)] [.slice b0p b0l b0c] w J = VC_ref01_Fault b0p b0l b0c w J := by kernel_rfl
theorem c_ref01_Fault {b0p : Option Addr} {b0l : Nat} {b0c : Nat} {w : World} {J : Int → Int → World → Prop} (h : VC_ref01_Fault b0p b0l b0c w J) : callJ Tryz.prog fn_ref01_Fault #[.slice b0p b0l b0c] w [.one (.int .i64), .one (.int .i64)] J := vc_calls Tryz.func98 ann_ref01_Fault (Eq.mpr (eq_ref01_Fault b0p b0l b0c w J) h)

end Go.Proofs.YtkgfbphdmnapdaaGreatDoor
