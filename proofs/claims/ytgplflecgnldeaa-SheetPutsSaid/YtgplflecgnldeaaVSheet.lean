/- What the conditions of these functions are, reckoned by the reading; printed by program. -/
import Derived.Test.YtgplflecgnldeaaNm
import Derived.KernelRfl
set_option maxRecDepth 100000
set_option linter.unusedVariables false
namespace Go.Proofs.Ytgplflecgnldeaa
open Go Go.Vc

/-- lectern/sheet.Draft -/
def VC_sheet_Draft (sectors0 : Int) (w : World) (J : Int → Int → Int → Int → World → Prop) : Prop :=
  newB w (.cells (zeroC Try.prog T_sheet_Plan) T_sheet_Plan) fun b2 w1 =>
  withJ (fun (x10 : Bool) (w2 : World) =>
  condB x10 (
  stN w2 ⟨b2, 0, none⟩ ⟨[.int .i64 (0 : Int), .int .i64 (0 : Int), .int .i64 (0 : Int)]⟩ 3 fun w3 =>
  ldI .i64 w3 ⟨b2, 0, none⟩ fun r_0 =>
  ldI .i64 w3 ⟨b2, 1, none⟩ fun r_1 =>
  ldI .i64 w3 ⟨b2, 2, none⟩ fun r_2 =>
  J r_0 r_1 r_2 (1 : Int) w3) (
  (4 : Int) ≠ 0 ∧
  newB w2 (.cells (zeroC Try.prog T_sheet_Plan) T_sheet_Plan) fun b4 w4 =>
  stN w4 ⟨b4, 0, none⟩ ⟨[.int .i64 (w64 (Int.tdiv sectors0 (4 : Int))), .int .i64 (0 : Int), .int .i64 (0 : Int)]⟩ 3 fun w5 =>
  ldI .i64 w5 ⟨b4, 0, none⟩ fun x16 =>
  stV w5 ⟨b4, 1, none⟩ (.int .i64 (w64 ((2 : Int) + x16))) fun w6 =>
  ldI .i64 w6 ⟨b4, 1, none⟩ fun x21 =>
  (8 : Int) ≠ 0 ∧
  stV w6 ⟨b4, 2, none⟩ (.int .i64 (w64 (Int.tdiv (w64 (sectors0 - x21)) (8 : Int)))) fun w7 =>
  ldI .i64 w7 ⟨b4, 0, none⟩ fun x25_0 =>
  ldI .i64 w7 ⟨b4, 1, none⟩ fun x25_1 =>
  ldI .i64 w7 ⟨b4, 2, none⟩ fun x25_2 =>
  stN w7 ⟨b2, 0, none⟩ ⟨[.int .i64 x25_0, .int .i64 x25_1, .int .i64 x25_2]⟩ 3 fun w8 =>
  ldI .i64 w8 ⟨b2, 0, none⟩ fun r_0_1 =>
  ldI .i64 w8 ⟨b2, 1, none⟩ fun r_1_1 =>
  ldI .i64 w8 ⟨b2, 2, none⟩ fun r_2_1 =>
  J r_0_1 r_1_1 r_2_1 (0 : Int) w8)) fun J_10 =>
  condB (decide (sectors0 < (64 : Int))) (
  J_10 true w1) (
  J_10 (decide (sectors0 > (16384 : Int))) w1)
def ann_sheet_Draft : Ann := .s (.o) (.s (.j [(10, .bool)] (.o) (.c (.s (.o) (.o)) (.o))) (.s (.o) (.s (.o) (.s (.o) (.s (.o) (.o))))))
theorem eq_sheet_Draft (sectors0 : Int) (w : World) (J : Int → Int → Int → Int → World → Prop) : vcFun Try.prog Try.f10 ann_sheet_Draft [.agg [.int .i64, .int .i64, .int .i64], .one (.int .i64)] [.int .i64 sectors0] w J = VC_sheet_Draft sectors0 w J := by kernel_rfl
theorem c_sheet_Draft {sectors0 : Int} {w : World} {J : Int → Int → Int → Int → World → Prop} (h : VC_sheet_Draft sectors0 w J) : callJ Try.prog fn_sheet_Draft #[.int .i64 sectors0] w [.agg [.int .i64, .int .i64, .int .i64], .one (.int .i64)] J := vc_calls Try.func10 ann_sheet_Draft (Eq.mpr (eq_sheet_Draft sectors0 w J) h)

/-- lectern/sheet.Lay -/
def VC_sheet_Lay (n0 : Int) (stamp1 : Int) (p2p : Option Addr) (p2l : Nat) (p2c : Nat) (w : World) (J : Option Addr → Nat → Nat → Int → World → Prop) : Prop :=
  withJ (fun (x9 : Bool) (w1 : World) =>
  condB x9 (
  J none 0 0 (1 : Int) w1) (
  condB (decide (((p2l : Nat) : Int) > (496 : Int))) (
  J none 0 0 (6 : Int) w1) (
  mkS w1 T_uint8 (zeroC Try.prog T_uint8) 1 1 (4 : Int) (512 : Int) fun b20 w2 =>
  callJ Try.prog fn_num_Put #[.slice (some ⟨b20, 0, none⟩) 4 512, .int .u64 (IntKind.u64.wrap n0), .int .i64 (4 : Int)] w2 [.one .slice] fun (r24p : Option Addr) (r24l : Nat) (r24c : Nat) (w3 : World) =>
  callJ Try.prog fn_num_Put #[.slice r24p r24l r24c, .int .u64 stamp1, .int .i64 (8 : Int)] w3 [.one .slice] fun (r27p : Option Addr) (r27l : Nat) (r27c : Nat) (w4 : World) =>
  appJ Try.prog T_sl_uint8 T_sl_uint8 (.slice r27p r27l r27c) (.slice p2p p2l p2c) w4 fun q30p q30l q30c w5 =>
  slS q30p q30l q30c 1 none (some (512 : Int)) none fun q31p q31l q31c =>
  slS q31p q31l q31c 1 (some (4 : Int)) none none fun q34p q34l q34c =>
  callJ Try.prog fn_tape_Sum #[.slice q34p q34l q34c] w5 [.one (.int .u32)] fun (r35 : Int) (w6 : World) =>
  callJ Try.prog fn_num_Put #[.slice none 0 0, .int .u64 (IntKind.u64.wrap r35), .int .i64 (4 : Int)] w6 [.one .slice] fun (r37p : Option Addr) (r37l : Nat) (r37c : Nat) (w7 : World) =>
  cpyJ Try.prog T_sl_uint8 T_sl_uint8 (.slice q31p q31l q31c) (.slice r37p r37l r37c) w7 fun x38 w8 =>
  J q31p q31l q31c (0 : Int) w8))) fun J_9 =>
  condB (decide (n0 < (0 : Int))) (
  J_9 true w) (
  J_9 (decide (n0 > (4294967295 : Int))) w)
def ann_sheet_Lay : Ann := .s (.o) (.s (.b (.j [(9, .bool)] (.o) (.c (.s (.o) (.o)) (.s (.o) (.c (.s (.o) (.o)) (.o)))))) (.s (.o) (.s (.o) (.s (.o) (.s (.o) (.s (.o) (.s (.o) (.o))))))))
theorem eq_sheet_Lay (n0 : Int) (stamp1 : Int) (p2p : Option Addr) (p2l : Nat) (p2c : Nat) (w : World) (J : Option Addr → Nat → Nat → Int → World → Prop) : vcFun Try.prog Try.f13 ann_sheet_Lay [.one .slice, .one (.int .i64)] [.int .i64 n0, .int .u64 stamp1, .slice p2p p2l p2c] w J = VC_sheet_Lay n0 stamp1 p2p p2l p2c w J := by kernel_rfl
theorem c_sheet_Lay {n0 : Int} {stamp1 : Int} {p2p : Option Addr} {p2l : Nat} {p2c : Nat} {w : World} {J : Option Addr → Nat → Nat → Int → World → Prop} (h : VC_sheet_Lay n0 stamp1 p2p p2l p2c w J) : callJ Try.prog fn_sheet_Lay #[.int .i64 n0, .int .u64 stamp1, .slice p2p p2l p2c] w [.one .slice, .one (.int .i64)] J := vc_calls Try.func13 ann_sheet_Lay (Eq.mpr (eq_sheet_Lay n0 stamp1 p2p p2l p2c w J) h)

/-- lectern/sheet.Take -/
def VC_sheet_Take (n0 : Int) (b1p : Option Addr) (b1l : Nat) (b1c : Nat) (w : World) (J : Option Addr → Nat → Nat → Int → Int → World → Prop) : Prop :=
  withJ (fun (x7 : Bool) (w1 : World) =>
  condB x7 (
  J none 0 0 (0 : Int) (1 : Int) w1) (
  condB (((b1l : Nat) : Int) != (512 : Int)) (
  J none 0 0 (0 : Int) (6 : Int) w1) (
  newB w1 (.cells ⟨[.int .u8 (0 : Int)]⟩ T_uint8) fun b20 w2 =>
  callJ Try.prog fn_bytes_Count #[.slice b1p b1l b1c, .slice (some ⟨b20, 0, none⟩) 1 1] w2 [.one (.int .i64)] fun (r21 : Int) (w3 : World) =>
  condB (r21 == (512 : Int)) (
  mkS w3 T_uint8 (zeroC Try.prog T_uint8) 1 1 (496 : Int) (496 : Int) fun b23 w4 =>
  J (some ⟨b23, 0, none⟩) 496 496 (0 : Int) (0 : Int) w4) (
  slS b1p b1l b1c 1 (some (4 : Int)) none none fun q28p q28l q28c =>
  callJ Try.prog fn_num_Of #[.slice b1p b1l b1c, .int .i64 (4 : Int)] w3.drew [.one (.int .u64)] fun (r26 : Int) (w5 : World) =>
  callJ Try.prog fn_tape_Sum #[.slice q28p q28l q28c] w5 [.one (.int .u32)] fun (r29 : Int) (w6 : World) =>
  condB (r26 != (IntKind.u64.wrap r29)) (
  J none 0 0 (0 : Int) (10 : Int) w6) (
  slS b1p b1l b1c 1 (some (4 : Int)) none none fun q34p q34l q34c =>
  callJ Try.prog fn_num_Of #[.slice q34p q34l q34c, .int .i64 (4 : Int)] w6 [.one (.int .u64)] fun (r35 : Int) (w7 : World) =>
  condB (r35 != (IntKind.u64.wrap n0)) (
  J none 0 0 (0 : Int) (11 : Int) w7) (
  slS b1p b1l b1c 1 (some (16 : Int)) none none fun q40p q40l q40c =>
  slS b1p b1l b1c 1 (some (8 : Int)) none none fun q43p q43l q43c =>
  callJ Try.prog fn_bytes_Clone #[.slice q40p q40l q40c] w7.drew [.one .slice] fun (r41p : Option Addr) (r41l : Nat) (r41c : Nat) (w8 : World) =>
  callJ Try.prog fn_num_Of #[.slice q43p q43l q43c, .int .i64 (8 : Int)] w8 [.one (.int .u64)] fun (r44 : Int) (w9 : World) =>
  J r41p r41l r41c r44 (0 : Int) w9)))))) fun J_7 =>
  condB (decide (n0 < (0 : Int))) (
  J_7 true w) (
  J_7 (decide (n0 > (4294967295 : Int))) w)
def ann_sheet_Take : Ann := .s (.o) (.s (.b (.j [(7, .bool)] (.o) (.c (.s (.o) (.o)) (.s (.o) (.c (.s (.o) (.o)) (.s (.o) (.c (.s (.o) (.o)) (.s (.d (.take 0 (.take 2 (.take 3 (.eff 1 (.eff 4 (.take 5 (.take 6 (.take 7 (.done)))) (.none)) (.none)))))) (.c (.s (.o) (.o)) (.s (.o) (.c (.s (.o) (.o)) (.o)))))))))))) (.s (.d (.take 0 (.take 1 (.take 3 (.take 4 (.eff 2 (.eff 5 (.take 6 (.take 7 (.take 8 (.done)))) (.none)) (.none))))))) (.o)))
theorem eq_sheet_Take (n0 : Int) (b1p : Option Addr) (b1l : Nat) (b1c : Nat) (w : World) (J : Option Addr → Nat → Nat → Int → Int → World → Prop) : vcFun Try.prog Try.f22 ann_sheet_Take [.one .slice, .one (.int .u64), .one (.int .i64)] [.int .i64 n0, .slice b1p b1l b1c] w J = VC_sheet_Take n0 b1p b1l b1c w J := by kernel_rfl
theorem c_sheet_Take {n0 : Int} {b1p : Option Addr} {b1l : Nat} {b1c : Nat} {w : World} {J : Option Addr → Nat → Nat → Int → Int → World → Prop} (h : VC_sheet_Take n0 b1p b1l b1c w J) : callJ Try.prog fn_sheet_Take #[.int .i64 n0, .slice b1p b1l b1c] w [.one .slice, .one (.int .u64), .one (.int .i64)] J := vc_calls Try.func22 ann_sheet_Take (Eq.mpr (eq_sheet_Take n0 b1p b1l b1c w J) h)

/-- lectern/sheet.LayHead -/
def VC_sheet_LayHead (h0_0 : Int) (h0_1 : Int) (w : World) (J : Option Addr → Nat → Nat → Int → World → Prop) : Prop :=
  newB w (.cells ⟨[.int .i64 h0_0, .int .u64 h0_1]⟩ T_sheet_Head) fun b1 w1 =>
  withJ (fun (x12 : Bool) (w2 : World) =>
  condB x12 (
  J none 0 0 (1 : Int) w2) (
  mkS w2 T_uint8 (zeroC Try.prog T_uint8) 1 1 (4 : Int) (64 : Int) fun b13 w3 =>
  appJ Try.prog T_sl_uint8 T_string (.slice (some ⟨b13, 0, none⟩) 4 64) (.string ⟨#[76, 69, 67, 84]⟩) w3 fun q14p q14l q14c w4 =>
  ldI .i64 w4 ⟨b1, 0, none⟩ fun x17 =>
  callJ Try.prog fn_num_Put #[.slice q14p q14l q14c, .int .u64 (IntKind.u64.wrap x17), .int .i64 (4 : Int)] w4 [.one .slice] fun (r19p : Option Addr) (r19l : Nat) (r19c : Nat) (w5 : World) =>
  ldI .u64 w5 ⟨b1, 1, none⟩ fun x22 =>
  callJ Try.prog fn_num_Put #[.slice r19p r19l r19c, .int .u64 x22, .int .i64 (8 : Int)] w5 [.one .slice] fun (r23p : Option Addr) (r23l : Nat) (r23c : Nat) (w6 : World) =>
  slS r23p r23l r23c 1 none (some (64 : Int)) none fun q24p q24l q24c =>
  slS q24p q24l q24c 1 (some (4 : Int)) none none fun q27p q27l q27c =>
  callJ Try.prog fn_tape_Sum #[.slice q27p q27l q27c] w6 [.one (.int .u32)] fun (r28 : Int) (w7 : World) =>
  callJ Try.prog fn_num_Put #[.slice none 0 0, .int .u64 (IntKind.u64.wrap r28), .int .i64 (4 : Int)] w7 [.one .slice] fun (r30p : Option Addr) (r30l : Nat) (r30c : Nat) (w8 : World) =>
  cpyJ Try.prog T_sl_uint8 T_sl_uint8 (.slice q24p q24l q24c) (.slice r30p r30l r30c) w8 fun x31 w9 =>
  J q24p q24l q24c (0 : Int) w9)) fun J_12 =>
  ldI .i64 w1 ⟨b1, 0, none⟩ fun x6 =>
  condB (decide (x6 < (1 : Int))) (
  J_12 true w1) (
  ldI .i64 w1 ⟨b1, 0, none⟩ fun x10 =>
  J_12 (decide (x10 > (4294967295 : Int))) w1)
def ann_sheet_LayHead : Ann := .s (.o) (.s (.j [(12, .bool)] (.o) (.c (.s (.o) (.o)) (.o))) (.s (.o) (.s (.o) (.s (.o) (.s (.o) (.s (.o) (.o)))))))
theorem eq_sheet_LayHead (h0_0 : Int) (h0_1 : Int) (w : World) (J : Option Addr → Nat → Nat → Int → World → Prop) : vcFun Try.prog Try.f18 ann_sheet_LayHead [.one .slice, .one (.int .i64)] [.agg ⟨[.int .i64 h0_0, .int .u64 h0_1]⟩] w J = VC_sheet_LayHead h0_0 h0_1 w J := by kernel_rfl
theorem c_sheet_LayHead {h0_0 : Int} {h0_1 : Int} {w : World} {J : Option Addr → Nat → Nat → Int → World → Prop} (h : VC_sheet_LayHead h0_0 h0_1 w J) : callJ Try.prog fn_sheet_LayHead #[.agg ⟨[.int .i64 h0_0, .int .u64 h0_1]⟩] w [.one .slice, .one (.int .i64)] J := vc_calls Try.func18 ann_sheet_LayHead (Eq.mpr (eq_sheet_LayHead h0_0 h0_1 w J) h)

/-- lectern/sheet.TakeHead -/
def VC_sheet_TakeHead (b0p : Option Addr) (b0l : Nat) (b0c : Nat) (w : World) (J : Int → Int → Int → World → Prop) : Prop :=
  newB w (.cells (zeroC Try.prog T_sheet_Head) T_sheet_Head) fun b2 w1 =>
  condB (((b0l : Nat) : Int) != (64 : Int)) (
  stN w1 ⟨b2, 0, none⟩ ⟨[.int .i64 (0 : Int), .int .u64 (0 : Int)]⟩ 2 fun w2 =>
  ldI .i64 w2 ⟨b2, 0, none⟩ fun r_0 =>
  ldI .u64 w2 ⟨b2, 1, none⟩ fun r_1 =>
  J r_0 r_1 (6 : Int) w2) (
  slS b0p b0l b0c 1 (some (4 : Int)) none none fun q16p q16l q16c =>
  callJ Try.prog fn_num_Of #[.slice b0p b0l b0c, .int .i64 (4 : Int)] w1.drew [.one (.int .u64)] fun (r14 : Int) (w3 : World) =>
  callJ Try.prog fn_tape_Sum #[.slice q16p q16l q16c] w3 [.one (.int .u32)] fun (r17 : Int) (w4 : World) =>
  condB (r14 != (IntKind.u64.wrap r17)) (
  stN w4 ⟨b2, 0, none⟩ ⟨[.int .i64 (0 : Int), .int .u64 (0 : Int)]⟩ 2 fun w5 =>
  ldI .i64 w5 ⟨b2, 0, none⟩ fun r_0_1 =>
  ldI .u64 w5 ⟨b2, 1, none⟩ fun r_1_1 =>
  J r_0_1 r_1_1 (10 : Int) w5) (
  withJ (fun (h4 : Option Addr) (w6 : World) =>
  nonNil h4 fun a30 =>
  ldI .i64 w6 a30 fun x30_0 =>
  ldI .u64 w6 ((a30.add 1)) fun x30_1 =>
  callJ Try.prog fn_sheet_LayHead #[.agg ⟨[.int .i64 x30_0, .int .u64 x30_1]⟩] w6 [.one .slice, .one (.int .i64)] fun (r31_0p : Option Addr) (r31_0l : Nat) (r31_0c : Nat) (r31_1 : Int) (w7 : World) =>
  withJ (fun (x41 : Bool) (w8 : World) =>
  condB x41 (
  stN w8 ⟨b2, 0, none⟩ ⟨[.int .i64 (0 : Int), .int .u64 (0 : Int)]⟩ 2 fun w9 =>
  ldI .i64 w9 ⟨b2, 0, none⟩ fun r_0_2 =>
  ldI .u64 w9 ⟨b2, 1, none⟩ fun r_1_2 =>
  J r_0_2 r_1_2 (11 : Int) w9) (
  nonNil h4 fun a43 =>
  ldI .i64 w8 a43 fun x43_0 =>
  ldI .u64 w8 ((a43.add 1)) fun x43_1 =>
  stN w8 ⟨b2, 0, none⟩ ⟨[.int .i64 x43_0, .int .u64 x43_1]⟩ 2 fun w10 =>
  ldI .i64 w10 ⟨b2, 0, none⟩ fun r_0_3 =>
  ldI .u64 w10 ⟨b2, 1, none⟩ fun r_1_3 =>
  J r_0_3 r_1_3 (0 : Int) w10)) fun J_41 =>
  condB (r31_1 != (0 : Int)) (
  J_41 true w7) (
  callJ Try.prog fn_bytes_Equal #[.slice r31_0p r31_0l r31_0c, .slice b0p b0l b0c] w7 [.one .bool] fun (r39 : Bool) (w11 : World) =>
  J_41 (!r39) w11)) fun J_4 =>
  slS b0p b0l b0c 1 (some (8 : Int)) none none fun q22p q22l q22c =>
  slS b0p b0l b0c 1 (some (12 : Int)) none none fun q26p q26l q26c =>
  (
  callJ Try.prog fn_num_Of #[.slice q22p q22l q22c, .int .i64 (4 : Int)] w4.drew [.one (.int .u64)] fun (r23 : Int) (w12 : World) =>
  (
  callJ Try.prog fn_num_Of #[.slice q26p q26l q26c, .int .i64 (8 : Int)] w12 [.one (.int .u64)] fun (r27 : Int) (w13 : World) =>
  newB w13 (.cells (zeroC Try.prog T_sheet_Head) T_sheet_Head) fun b4 w14 =>
  stN w14 ⟨b4, 0, none⟩ ⟨[.int .i64 (w64 r23), .int .u64 r27]⟩ 2 fun w15 =>
  J_4 (some ⟨b4, 0, none⟩) w15) ∧ (
  newB w12 (.cells (zeroC Try.prog T_sheet_Head) T_sheet_Head) fun b4_1 w16 =>
  callJ Try.prog fn_num_Of #[.slice q26p q26l q26c, .int .i64 (8 : Int)] w16 [.one (.int .u64)] fun (r27_1 : Int) (w17 : World) =>
  stN w17 ⟨b4_1, 0, none⟩ ⟨[.int .i64 (w64 r23), .int .u64 r27_1]⟩ 2 fun w18 =>
  J_4 (some ⟨b4_1, 0, none⟩) w18)) ∧ (
  newB w4.drew (.cells (zeroC Try.prog T_sheet_Head) T_sheet_Head) fun b4_2 w19 =>
  callJ Try.prog fn_num_Of #[.slice q22p q22l q22c, .int .i64 (4 : Int)] w19 [.one (.int .u64)] fun (r23_1 : Int) (w20 : World) =>
  callJ Try.prog fn_num_Of #[.slice q26p q26l q26c, .int .i64 (8 : Int)] w20 [.one (.int .u64)] fun (r27_2 : Int) (w21 : World) =>
  stN w21 ⟨b4_2, 0, none⟩ ⟨[.int .i64 (w64 r23_1), .int .u64 r27_2]⟩ 2 fun w22 =>
  J_4 (some ⟨b4_2, 0, none⟩) w22)))
def ann_sheet_TakeHead : Ann := .s (.o) (.s (.b (.s (.o) (.c (.s (.o) (.o)) (.s (.d (.take 0 (.take 2 (.take 3 (.eff 1 (.eff 4 (.take 5 (.take 6 (.take 7 (.done)))) (.none)) (.none)))))) (.c (.s (.o) (.o)) (.o)))))) (.j [(4, .ptr)] (.d (.take 0 (.take 1 (.take 4 (.take 5 (.eff 2 (.take 3 (.eff 6 (.take 7 (.eff 8 (.eff 9 (.done) (.none)) (.none))) (.eff 8 (.eff 6 (.take 7 (.eff 9 (.done) (.none))) (.none)) (.none)))) (.eff 8 (.eff 2 (.take 3 (.eff 6 (.take 7 (.eff 9 (.done) (.none))) (.none))) (.none)) (.none)))))))) (.s (.s (.o) (.j [(41, .bool)] (.o) (.c (.s (.o) (.o)) (.o)))) (.s (.o) (.o)))))
theorem eq_sheet_TakeHead (b0p : Option Addr) (b0l : Nat) (b0c : Nat) (w : World) (J : Int → Int → Int → World → Prop) : vcFun Try.prog Try.f20 ann_sheet_TakeHead [.agg [.int .i64, .int .u64], .one (.int .i64)] [.slice b0p b0l b0c] w J = VC_sheet_TakeHead b0p b0l b0c w J := by kernel_rfl
theorem c_sheet_TakeHead {b0p : Option Addr} {b0l : Nat} {b0c : Nat} {w : World} {J : Int → Int → Int → World → Prop} (h : VC_sheet_TakeHead b0p b0l b0c w J) : callJ Try.prog fn_sheet_TakeHead #[.slice b0p b0l b0c] w [.agg [.int .i64, .int .u64], .one (.int .i64)] J := vc_calls Try.func20 ann_sheet_TakeHead (Eq.mpr (eq_sheet_TakeHead b0p b0l b0c w J) h)

/-- lectern/sheet.where -/
def VC_sheet_where (d0 : Option Addr) (n1 : Int) (w : World) (J : Int → Int → World → Prop) : Prop :=
  condB d0.isNone (
  J (0 : Int) (2 : Int) w) (
  callJ Try.prog fn_drum_Drum_Sectors #[.pointer d0] w [.one (.int .i64)] fun (r12 : Int) (w1 : World) =>
  callJ Try.prog fn_sheet_Draft #[.int .i64 r12] w1 [.agg [.int .i64, .int .i64, .int .i64], .one (.int .i64)] fun (r13_0_0 : Int) (r13_0_1 : Int) (r13_0_2 : Int) (r13_1 : Int) (w2 : World) =>
  newB w2 (.cells (zeroC Try.prog T_sheet_Plan) T_sheet_Plan) fun b6 w3 =>
  stN w3 ⟨b6, 0, none⟩ ⟨[.int .i64 r13_0_0, .int .i64 r13_0_1, .int .i64 r13_0_2]⟩ 3 fun w4 =>
  condB (r13_1 != (0 : Int)) (
  J (0 : Int) r13_1 w4) (
  withJ (fun (x26 : Bool) (w5 : World) =>
  condB x26 (
  J (0 : Int) (1 : Int) w5) (
  ldI .i64 w5 ⟨b6, 1, none⟩ fun x28 =>
  J (w64 (x28 + (w64 (n1 * (8 : Int))))) (0 : Int) w5)) fun J_26 =>
  condB (decide (n1 < (0 : Int))) (
  J_26 true w4) (
  ldI .i64 w4 ⟨b6, 2, none⟩ fun x24 =>
  J_26 (decide (n1 ≥ x24)) w4)))
def ann_sheet_where : Ann := .s (.o) (.s (.s (.o) (.c (.s (.o) (.o)) (.o))) (.s (.o) (.s (.s (.o) (.c (.s (.o) (.o)) (.o))) (.s (.j [(26, .bool)] (.o) (.c (.s (.o) (.o)) (.o))) (.s (.o) (.o))))))
theorem eq_sheet_where (d0 : Option Addr) (n1 : Int) (w : World) (J : Int → Int → World → Prop) : vcFun Try.prog Try.f44 ann_sheet_where [.one (.int .i64), .one (.int .i64)] [.pointer d0, .int .i64 n1] w J = VC_sheet_where d0 n1 w J := by kernel_rfl
theorem c_sheet_where {d0 : Option Addr} {n1 : Int} {w : World} {J : Int → Int → World → Prop} (h : VC_sheet_where d0 n1 w J) : callJ Try.prog fn_sheet_where #[.pointer d0, .int .i64 n1] w [.one (.int .i64), .one (.int .i64)] J := vc_calls Try.func44 ann_sheet_where (Eq.mpr (eq_sheet_where d0 n1 w J) h)

/-- lectern/sheet.Put -/
def VC_sheet_Put (d0 : Option Addr) (n1 : Int) (stamp2 : Int) (p3p : Option Addr) (p3l : Nat) (p3c : Nat) (w : World) (J : Int → World → Prop) : Prop :=
  callJ Try.prog fn_sheet_where #[.pointer d0, .int .i64 n1] w [.one (.int .i64), .one (.int .i64)] fun (r16_0 : Int) (r16_1 : Int) (w1 : World) =>
  condB (r16_1 != (0 : Int)) (
  J r16_1 w1) (
  callJ Try.prog fn_sheet_Lay #[.int .i64 n1, .int .u64 stamp2, .slice p3p p3l p3c] w1 [.one .slice, .one (.int .i64)] fun (r26_0p : Option Addr) (r26_0l : Nat) (r26_0c : Nat) (r26_1 : Int) (w2 : World) =>
  ∃ I_10 : Int → Int → World → Nat → Prop, (∃ m : Nat, I_10 r26_1 (0 : Int) w2 m) ∧ ∀ (e10 : Int) (i12 : Int) (w3 : World) (m : Nat), I_10 e10 i12 w3 m → (
  withJ (fun (x34 : Bool) (w4 : World) =>
  condB x34 (
  slS r26_0p r26_0l r26_0c 1 (some (w64 (i12 * (64 : Int)))) (some (w64 ((w64 (i12 + (1 : Int))) * (64 : Int)))) none fun q47p q47l q47c =>
  callJ Try.prog fn_drum_Drum_Write #[.pointer d0, .int .i64 (w64 (r16_0 + i12)), .slice q47p q47l q47c] w4 [.one (.int .i64)] fun (r48 : Int) (w5 : World) =>
  ∃ m' : Nat, m' < m ∧ I_10 r48 (w64 (i12 + (1 : Int))) w5 m') (
  J e10 w4)) fun J_34 =>
  condB (decide (i12 < (8 : Int))) (
  J_34 (e10 == (0 : Int)) w3) (
  J_34 false w3)))
def ann_sheet_Put : Ann := .s (.o) (.s (.o) (.s (.s (.o) (.c (.s (.o) (.o)) (.o))) (.s (.o) (.s (.s (.o) (.b (.l [(10, .int .i64), (12, .int .i64)] (.s (.j [(34, .bool)] (.o) (.c (.o) (.o))) (.s (.b (.o)) (.o)))))) (.s (.o) (.o))))))
theorem eq_sheet_Put (d0 : Option Addr) (n1 : Int) (stamp2 : Int) (p3p : Option Addr) (p3l : Nat) (p3c : Nat) (w : World) (J : Int → World → Prop) : vcFun Try.prog Try.f24 ann_sheet_Put [.one (.int .i64)] [.pointer d0, .int .i64 n1, .int .u64 stamp2, .slice p3p p3l p3c] w J = VC_sheet_Put d0 n1 stamp2 p3p p3l p3c w J := by kernel_rfl
theorem c_sheet_Put {d0 : Option Addr} {n1 : Int} {stamp2 : Int} {p3p : Option Addr} {p3l : Nat} {p3c : Nat} {w : World} {J : Int → World → Prop} (h : VC_sheet_Put d0 n1 stamp2 p3p p3l p3c w J) : callJ Try.prog fn_sheet_Put #[.pointer d0, .int .i64 n1, .int .u64 stamp2, .slice p3p p3l p3c] w [.one (.int .i64)] J := vc_calls Try.func24 ann_sheet_Put (Eq.mpr (eq_sheet_Put d0 n1 stamp2 p3p p3l p3c w J) h)

/-- lectern/sheet.Get -/
def VC_sheet_Get (d0 : Option Addr) (n1 : Int) (w : World) (J : Option Addr → Nat → Nat → Int → Int → World → Prop) : Prop :=
  callJ Try.prog fn_sheet_where #[.pointer d0, .int .i64 n1] w [.one (.int .i64), .one (.int .i64)] fun (r15_0 : Int) (r15_1 : Int) (w1 : World) =>
  condB (r15_1 != (0 : Int)) (
  J none 0 0 (0 : Int) r15_1 w1) (
  ∃ I_8 : Option Addr → Nat → Nat → Int → World → Nat → Prop, (∃ m : Nat, I_8 none 0 0 (0 : Int) w1 m) ∧ ∀ (b8p : Option Addr) (b8l : Nat) (b8c : Nat) (x21 : Int) (w2 : World) (m : Nat), I_8 b8p b8l b8c x21 w2 m → (
  condB (decide (x21 < (8 : Int))) (
  callJ Try.prog fn_drum_Drum_Read #[.pointer d0, .int .i64 (w64 (r15_0 + x21))] w2 [.one .slice, .one (.int .i64)] fun (r29_0p : Option Addr) (r29_0l : Nat) (r29_0c : Nat) (r29_1 : Int) (w3 : World) =>
  condB (r29_1 != (0 : Int)) (
  J none 0 0 (0 : Int) r29_1 w3) (
  appJ Try.prog T_sl_uint8 T_sl_uint8 (.slice b8p b8l b8c) (.slice r29_0p r29_0l r29_0c) w3 fun q37p q37l q37c w4 =>
  ∃ m' : Nat, m' < m ∧ I_8 q37p q37l q37c (w64 (x21 + (1 : Int))) w4 m')) (
  callJ Try.prog fn_sheet_Take #[.int .i64 n1, .slice b8p b8l b8c] w2 [.one .slice, .one (.int .u64), .one (.int .i64)] fun (r41_0p : Option Addr) (r41_0l : Nat) (r41_0c : Nat) (r41_1 : Int) (r41_2 : Int) (w5 : World) =>
  J r41_0p r41_0l r41_0c r41_1 r41_2 w5)))
def ann_sheet_Get : Ann := .s (.o) (.s (.o) (.s (.s (.o) (.c (.s (.o) (.o)) (.o))) (.s (.o) (.s (.s (.o) (.b (.l [(8, .slice), (21, .int .i64)] (.s (.o) (.s (.c (.o) (.o)) (.s (.b (.s (.o) (.s (.o) (.s (.s (.o) (.c (.s (.o) (.o)) (.o))) (.o))))) (.o))))))) (.s (.o) (.o))))))
theorem eq_sheet_Get (d0 : Option Addr) (n1 : Int) (w : World) (J : Option Addr → Nat → Nat → Int → Int → World → Prop) : vcFun Try.prog Try.f28 ann_sheet_Get [.one .slice, .one (.int .u64), .one (.int .i64)] [.pointer d0, .int .i64 n1] w J = VC_sheet_Get d0 n1 w J := by kernel_rfl
theorem c_sheet_Get {d0 : Option Addr} {n1 : Int} {w : World} {J : Option Addr → Nat → Nat → Int → Int → World → Prop} (h : VC_sheet_Get d0 n1 w J) : callJ Try.prog fn_sheet_Get #[.pointer d0, .int .i64 n1] w [.one .slice, .one (.int .u64), .one (.int .i64)] J := vc_calls Try.func28 ann_sheet_Get (Eq.mpr (eq_sheet_Get d0 n1 w J) h)

/-- lectern/sheet.PutHead -/
def VC_sheet_PutHead (d0 : Option Addr) (h1_0 : Int) (h1_1 : Int) (w : World) (J : Int → World → Prop) : Prop :=
  newB w (.cells ⟨[.int .i64 h1_0, .int .u64 h1_1]⟩ T_sheet_Head) fun b3 w1 =>
  callJ Try.prog fn_sheet_where #[.pointer d0, .int .i64 (0 : Int)] w1 [.one (.int .i64), .one (.int .i64)] fun (r11_0 : Int) (r11_1 : Int) (w2 : World) =>
  condB (r11_1 != (0 : Int)) (
  J r11_1 w2) (
  ldI .i64 w2 ⟨b3, 0, none⟩ fun x18_0 =>
  ldI .u64 w2 ⟨b3, 1, none⟩ fun x18_1 =>
  callJ Try.prog fn_sheet_LayHead #[.agg ⟨[.int .i64 x18_0, .int .u64 x18_1]⟩] w2 [.one .slice, .one (.int .i64)] fun (r19_0p : Option Addr) (r19_0l : Nat) (r19_0c : Nat) (r19_1 : Int) (w3 : World) =>
  condB (r19_1 != (0 : Int)) (
  J r19_1 w3) (
  ldI .i64 w3 ⟨b3, 0, none⟩ fun x27 =>
  (2 : Int) ≠ 0 ∧
  callJ Try.prog fn_drum_Drum_Write #[.pointer d0, .int .i64 (Int.tmod x27 (2 : Int)), .slice r19_0p r19_0l r19_0c] w3 [.one (.int .i64)] fun (r30 : Int) (w4 : World) =>
  J r30 w4))
def ann_sheet_PutHead : Ann := .s (.o) (.s (.s (.o) (.s (.o) (.c (.s (.o) (.o)) (.o)))) (.s (.o) (.s (.s (.o) (.c (.s (.o) (.o)) (.o))) (.s (.o) (.o)))))
theorem eq_sheet_PutHead (d0 : Option Addr) (h1_0 : Int) (h1_1 : Int) (w : World) (J : Int → World → Prop) : vcFun Try.prog Try.f26 ann_sheet_PutHead [.one (.int .i64)] [.pointer d0, .agg ⟨[.int .i64 h1_0, .int .u64 h1_1]⟩] w J = VC_sheet_PutHead d0 h1_0 h1_1 w J := by kernel_rfl
theorem c_sheet_PutHead {d0 : Option Addr} {h1_0 : Int} {h1_1 : Int} {w : World} {J : Int → World → Prop} (h : VC_sheet_PutHead d0 h1_0 h1_1 w J) : callJ Try.prog fn_sheet_PutHead #[.pointer d0, .agg ⟨[.int .i64 h1_0, .int .u64 h1_1]⟩] w [.one (.int .i64)] J := vc_calls Try.func26 ann_sheet_PutHead (Eq.mpr (eq_sheet_PutHead d0 h1_0 h1_1 w J) h)

/-- lectern/sheet.GetHead -/
def VC_sheet_GetHead (d0 : Option Addr) (w : World) (J : Int → Int → Int → World → Prop) : Prop :=
  newB w (.cells (zeroC Try.prog T_sheet_Head) T_sheet_Head) fun b2 w1 =>
  callJ Try.prog fn_sheet_where #[.pointer d0, .int .i64 (0 : Int)] w1 [.one (.int .i64), .one (.int .i64)] fun (r14_0 : Int) (r14_1 : Int) (w2 : World) =>
  condB (r14_1 != (0 : Int)) (
  stN w2 ⟨b2, 0, none⟩ ⟨[.int .i64 (0 : Int), .int .u64 (0 : Int)]⟩ 2 fun w3 =>
  ldI .i64 w3 ⟨b2, 0, none⟩ fun r_0 =>
  ldI .u64 w3 ⟨b2, 1, none⟩ fun r_1 =>
  J r_0 r_1 r14_1 w3) (
  newB w2 (.cells (zeroC Try.prog T_sheet_Head) T_sheet_Head) fun b6 w4 =>
  ∃ I_21 : Int → World → Nat → Prop, (∃ m : Nat, I_21 (0 : Int) w4 m) ∧ ∀ (x21 : Int) (w5 : World) (m : Nat), I_21 x21 w5 m → (
  condB (decide (x21 < (2 : Int))) (
  withJ (fun (w6 : World) =>
  ∃ m' : Nat, m' < m ∧ I_21 (w64 (x21 + (1 : Int))) w6 m') fun J_0 =>
  callJ Try.prog fn_drum_Drum_Read #[.pointer d0, .int .i64 x21] w5 [.one .slice, .one (.int .i64)] fun (r27_0p : Option Addr) (r27_0l : Nat) (r27_0c : Nat) (r27_1 : Int) (w7 : World) =>
  condB (r27_1 != (0 : Int)) (
  stN w7 ⟨b2, 0, none⟩ ⟨[.int .i64 (0 : Int), .int .u64 (0 : Int)]⟩ 2 fun w8 =>
  ldI .i64 w8 ⟨b2, 0, none⟩ fun r_0_1 =>
  ldI .u64 w8 ⟨b2, 1, none⟩ fun r_1_1 =>
  J r_0_1 r_1_1 r27_1 w8) (
  callJ Try.prog fn_sheet_TakeHead #[.slice r27_0p r27_0l r27_0c] w7 [.agg [.int .i64, .int .u64], .one (.int .i64)] fun (r36_0_0 : Int) (r36_0_1 : Int) (r36_1 : Int) (w9 : World) =>
  newB w9 (.cells (zeroC Try.prog T_sheet_Head) T_sheet_Head) fun b10 w10 =>
  stN w10 ⟨b10, 0, none⟩ ⟨[.int .i64 r36_0_0, .int .u64 r36_0_1]⟩ 2 fun w11 =>
  withJ (fun (x47 : Bool) (w12 : World) =>
  condB x47 (
  ldI .i64 w12 ⟨b10, 0, none⟩ fun x48_0 =>
  ldI .u64 w12 ⟨b10, 1, none⟩ fun x48_1 =>
  stN w12 ⟨b6, 0, none⟩ ⟨[.int .i64 x48_0, .int .u64 x48_1]⟩ 2 fun w13 =>
  J_0 w13) (
  J_0 w12)) fun J_47 =>
  condB (r36_1 == (0 : Int)) (
  ldI .i64 w11 ⟨b10, 0, none⟩ fun x43 =>
  ldI .i64 w11 ⟨b6, 0, none⟩ fun x45 =>
  J_47 (decide (x43 > x45)) w11) (
  J_47 false w11))) (
  ldI .i64 w5 ⟨b6, 0, none⟩ fun x51 =>
  condB (x51 == (0 : Int)) (
  stN w5 ⟨b2, 0, none⟩ ⟨[.int .i64 (0 : Int), .int .u64 (0 : Int)]⟩ 2 fun w14 =>
  ldI .i64 w14 ⟨b2, 0, none⟩ fun r_0_2 =>
  ldI .u64 w14 ⟨b2, 1, none⟩ fun r_1_2 =>
  J r_0_2 r_1_2 (11 : Int) w14) (
  ldI .i64 w5 ⟨b6, 0, none⟩ fun x54_0 =>
  ldI .u64 w5 ⟨b6, 1, none⟩ fun x54_1 =>
  stN w5 ⟨b2, 0, none⟩ ⟨[.int .i64 x54_0, .int .u64 x54_1]⟩ 2 fun w15 =>
  ldI .i64 w15 ⟨b2, 0, none⟩ fun r_0_3 =>
  ldI .u64 w15 ⟨b2, 1, none⟩ fun r_1_3 =>
  J r_0_3 r_1_3 (0 : Int) w15))))
def ann_sheet_GetHead : Ann := .s (.o) (.s (.s (.o) (.s (.o) (.c (.s (.o) (.o)) (.o)))) (.s (.o) (.s (.s (.o) (.b (.l [(21, .int .i64)] (.s (.o) (.s (.c (.o) (.o)) (.j [] (.b (.s (.o) (.s (.o) (.s (.s (.o) (.c (.s (.o) (.o)) (.o))) (.s (.o) (.j [(47, .bool)] (.o) (.c (.o) (.o)))))))) (.o))))))) (.s (.s (.o) (.c (.s (.o) (.o)) (.o))) (.s (.o) (.o))))))
theorem eq_sheet_GetHead (d0 : Option Addr) (w : World) (J : Int → Int → Int → World → Prop) : vcFun Try.prog Try.f27 ann_sheet_GetHead [.agg [.int .i64, .int .u64], .one (.int .i64)] [.pointer d0] w J = VC_sheet_GetHead d0 w J := by kernel_rfl
theorem c_sheet_GetHead {d0 : Option Addr} {w : World} {J : Int → Int → Int → World → Prop} (h : VC_sheet_GetHead d0 w J) : callJ Try.prog fn_sheet_GetHead #[.pointer d0] w [.agg [.int .i64, .int .u64], .one (.int .i64)] J := vc_calls Try.func27 ann_sheet_GetHead (Eq.mpr (eq_sheet_GetHead d0 w J) h)

end Go.Proofs.Ytgplflecgnldeaa
