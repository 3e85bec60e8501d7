/- What the conditions of these functions are, reckoned by the reading; printed by program. -/
import Derived.Test.YtgplflecgnldeaaNm
import Derived.KernelRfl
set_option maxRecDepth 100000
set_option linter.unusedVariables false
namespace Go.Proofs.Ytgplflecgnldeaa
open Go Go.Vc

/-- lectern/lecternref15.Draft -/
def VC_ref15_Draft (n0 : Int) (w : World) (J : Int → Int → Int → Bool → World → Prop) : Prop :=
  withJ (fun (x13 : Bool) (w1 : World) =>
  condB x13 (
  J (0 : Int) (0 : Int) (0 : Int) false w1) (
  (4 : Int) ≠ 0 ∧
  ∃ I_7 : Int → World → Nat → Prop, (∃ m : Nat, I_7 (0 : Int) w1 m) ∧ ∀ (pages7 : Int) (w2 : World) (m : Nat), I_7 pages7 w2 m → (
  condB (decide ((w64 ((w64 ((2 : Int) + (w64 (Int.tdiv n0 (4 : Int))))) + (w64 ((8 : Int) * (w64 (pages7 + (1 : Int))))))) ≤ n0)) (
  ∃ m' : Nat, m' < m ∧ I_7 (w64 (pages7 + (1 : Int))) w2 m') (
  J (w64 (Int.tdiv n0 (4 : Int))) (w64 ((2 : Int) + (w64 (Int.tdiv n0 (4 : Int))))) pages7 true w2)))) fun J_13 =>
  condB (decide (n0 < (64 : Int))) (
  J_13 true w) (
  J_13 (decide (n0 > (16384 : Int))) w)
def ann_ref15_Draft : Ann := .s (.o) (.s (.j [(13, .bool)] (.o) (.c (.s (.o) (.o)) (.o))) (.s (.o) (.s (.o) (.s (.b (.l [(7, .int .i64)] (.s (.s (.o) (.c (.o) (.o))) (.b (.o))))) (.s (.o) (.o))))))
theorem eq_ref15_Draft (n0 : Int) (w : World) (J : Int → Int → Int → Bool → World → Prop) : vcFun Try.prog Try.f11 ann_ref15_Draft [.one (.int .i64), .one (.int .i64), .one (.int .i64), .one .bool] [.int .i64 n0] w J = VC_ref15_Draft n0 w J := by kernel_rfl
theorem c_ref15_Draft {n0 : Int} {w : World} {J : Int → Int → Int → Bool → World → Prop} (h : VC_ref15_Draft n0 w J) : callJ Try.prog fn_ref15_Draft #[.int .i64 n0] w [.one (.int .i64), .one (.int .i64), .one (.int .i64), .one .bool] J := vc_calls Try.func11 ann_ref15_Draft (Eq.mpr (eq_ref15_Draft n0 w J) h)

/-- lectern/lecternref15.Lay -/
def VC_ref15_Lay (n0 : Int) (stamp1 : Int) (p2p : Option Addr) (p2l : Nat) (p2c : Nat) (w : World) (J : Option Addr → Nat → Nat → Int → World → Prop) : Prop :=
  withJ (fun (x14 : Bool) (w1 : World) =>
  condB x14 (
  J none 0 0 (1 : Int) w1) (
  condB (decide (((p2l : Nat) : Int) > (496 : Int))) (
  J none 0 0 (6 : Int) w1) (
  callJ Try.prog fn_ref14_Number #[.int .u64 (IntKind.u64.wrap n0), .int .i64 (4 : Int)] w1 [.one .slice] fun (r20p : Option Addr) (r20l : Nat) (r20c : Nat) (w2 : World) =>
  callJ Try.prog fn_ref14_Number #[.int .u64 stamp1, .int .i64 (8 : Int)] w2 [.one .slice] fun (r22p : Option Addr) (r22l : Nat) (r22c : Nat) (w3 : World) =>
  appJ Try.prog T_sl_uint8 T_sl_uint8 (.slice r20p r20l r20c) (.slice r22p r22l r22c) w3 fun q23p q23l q23c w4 =>
  callJ Try.prog fn_ref14_Fill #[.slice p2p p2l p2c, .int .i64 (496 : Int)] w4 [.one .slice] fun (r26p : Option Addr) (r26l : Nat) (r26c : Nat) (w5 : World) =>
  appJ Try.prog T_sl_uint8 T_sl_uint8 (.slice q23p q23l q23c) (.slice r26p r26l r26c) w5 fun q27p q27l q27c w6 =>
  callJ Try.prog fn_ref15_summed #[.slice q27p q27l q27c] w6 [.one .slice] fun (r28p : Option Addr) (r28l : Nat) (r28c : Nat) (w7 : World) =>
  J r28p r28l r28c (0 : Int) w7))) fun J_14 =>
  condB (decide (n0 < (0 : Int))) (
  J_14 true w) (
  J_14 (decide (n0 > (4294967295 : Int))) w)
def ann_ref15_Lay : Ann := .s (.o) (.s (.j [(14, .bool)] (.o) (.c (.s (.o) (.o)) (.o))) (.s (.s (.o) (.c (.s (.o) (.o)) (.o))) (.s (.o) (.s (.o) (.o)))))
theorem eq_ref15_Lay (n0 : Int) (stamp1 : Int) (p2p : Option Addr) (p2l : Nat) (p2c : Nat) (w : World) (J : Option Addr → Nat → Nat → Int → World → Prop) : vcFun Try.prog Try.f14 ann_ref15_Lay [.one .slice, .one (.int .i64)] [.int .i64 n0, .int .u64 stamp1, .slice p2p p2l p2c] w J = VC_ref15_Lay n0 stamp1 p2p p2l p2c w J := by kernel_rfl
theorem c_ref15_Lay {n0 : Int} {stamp1 : Int} {p2p : Option Addr} {p2l : Nat} {p2c : Nat} {w : World} {J : Option Addr → Nat → Nat → Int → World → Prop} (h : VC_ref15_Lay n0 stamp1 p2p p2l p2c w J) : callJ Try.prog fn_ref15_Lay #[.int .i64 n0, .int .u64 stamp1, .slice p2p p2l p2c] w [.one .slice, .one (.int .i64)] J := vc_calls Try.func14 ann_ref15_Lay (Eq.mpr (eq_ref15_Lay n0 stamp1 p2p p2l p2c w J) h)

/-- lectern/lecternref15.LayHead -/
def VC_ref15_LayHead (h0_0 : Int) (h0_1 : Int) (w : World) (J : Option Addr → Nat → Nat → Int → World → Prop) : Prop :=
  newB w (.cells ⟨[.int .i64 h0_0, .int .u64 h0_1]⟩ T_ref15_Head) fun b1 w1 =>
  withJ (fun (x12 : Bool) (w2 : World) =>
  condB x12 (
  J none 0 0 (1 : Int) w2) (
  newB w2 (.cells ⟨[.int .u8 (76 : Int), .int .u8 (69 : Int), .int .u8 (67 : Int), .int .u8 (84 : Int)]⟩ T_uint8) fun b13 w3 =>
  ldI .i64 w3 ⟨b1, 0, none⟩ fun x15 =>
  callJ Try.prog fn_ref14_Number #[.int .u64 (IntKind.u64.wrap x15), .int .i64 (4 : Int)] w3 [.one .slice] fun (r17p : Option Addr) (r17l : Nat) (r17c : Nat) (w4 : World) =>
  appJ Try.prog T_sl_uint8 T_sl_uint8 (.slice (some ⟨b13, 0, none⟩) 4 4) (.slice r17p r17l r17c) w4 fun q18p q18l q18c w5 =>
  ldI .u64 w5 ⟨b1, 1, none⟩ fun x21 =>
  callJ Try.prog fn_ref14_Number #[.int .u64 x21, .int .i64 (8 : Int)] w5 [.one .slice] fun (r22p : Option Addr) (r22l : Nat) (r22c : Nat) (w6 : World) =>
  appJ Try.prog T_sl_uint8 T_sl_uint8 (.slice q18p q18l q18c) (.slice r22p r22l r22c) w6 fun q23p q23l q23c w7 =>
  callJ Try.prog fn_ref14_Fill #[.slice q23p q23l q23c, .int .i64 (60 : Int)] w7 [.one .slice] fun (r24p : Option Addr) (r24l : Nat) (r24c : Nat) (w8 : World) =>
  callJ Try.prog fn_ref15_summed #[.slice r24p r24l r24c] w8 [.one .slice] fun (r25p : Option Addr) (r25l : Nat) (r25c : Nat) (w9 : World) =>
  J r25p r25l r25c (0 : Int) w9)) fun J_12 =>
  ldI .i64 w1 ⟨b1, 0, none⟩ fun x6 =>
  condB (decide (x6 < (1 : Int))) (
  J_12 true w1) (
  ldI .i64 w1 ⟨b1, 0, none⟩ fun x10 =>
  J_12 (decide (x10 > (4294967295 : Int))) w1)
def ann_ref15_LayHead : Ann := .s (.o) (.s (.j [(12, .bool)] (.o) (.c (.s (.o) (.o)) (.o))) (.s (.o) (.s (.o) (.o))))
theorem eq_ref15_LayHead (h0_0 : Int) (h0_1 : Int) (w : World) (J : Option Addr → Nat → Nat → Int → World → Prop) : vcFun Try.prog Try.f19 ann_ref15_LayHead [.one .slice, .one (.int .i64)] [.agg ⟨[.int .i64 h0_0, .int .u64 h0_1]⟩] w J = VC_ref15_LayHead h0_0 h0_1 w J := by kernel_rfl
theorem c_ref15_LayHead {h0_0 : Int} {h0_1 : Int} {w : World} {J : Option Addr → Nat → Nat → Int → World → Prop} (h : VC_ref15_LayHead h0_0 h0_1 w J) : callJ Try.prog fn_ref15_LayHead #[.agg ⟨[.int .i64 h0_0, .int .u64 h0_1]⟩] w [.one .slice, .one (.int .i64)] J := vc_calls Try.func19 ann_ref15_LayHead (Eq.mpr (eq_ref15_LayHead h0_0 h0_1 w J) h)

/-- lectern/lecternref15.Take -/
def VC_ref15_Take (n0 : Int) (b1p : Option Addr) (b1l : Nat) (b1c : Nat) (w : World) (J : Option Addr → Nat → Nat → Int → Int → World → Prop) : Prop :=
  withJ (fun (x15 : Bool) (w1 : World) =>
  condB x15 (
  J none 0 0 (0 : Int) (1 : Int) w1) (
  condB (((b1l : Nat) : Int) != (512 : Int)) (
  J none 0 0 (0 : Int) (6 : Int) w1) (
  ∃ I_7 : Bool → Int → World → Nat → Prop, (∃ m : Nat, I_7 true (0 : Int) w1 m) ∧ ∀ (blank7 : Bool) (x21 : Int) (w2 : World) (m : Nat), I_7 blank7 x21 w2 m → (
  condB (decide (x21 < ((b1l : Nat) : Int))) (
  withJ (fun (blank7_1 : Bool) (w3 : World) =>
  ∃ m' : Nat, m' < m ∧ I_7 blank7_1 (w64 (x21 + (1 : Int))) w3 m') fun J_7 =>
  idxA b1p b1l x21 fun a23 =>
  ldI .u8 w2 ((a23.add (x21.toNat * 1))) fun x24 =>
  condB blank7 (
  J_7 (x24 == (0 : Int)) w2) (
  J_7 false w2)) (
  condB blank7 (
  mkS w2 T_uint8 (zeroC Try.prog T_uint8) 1 1 (496 : Int) (496 : Int) fun b32 w4 =>
  J (some ⟨b32, 0, none⟩) 496 496 (0 : Int) (0 : Int) w4) (
  slS b1p b1l b1c 1 (some (4 : Int)) none none fun q34p q34l q34c =>
  bytesOf w2.drew b1p b1l fun bs38 =>
  callJ Try.prog fn_ref15_summed #[.slice q34p q34l q34c] w2.drew [.one .slice] fun (r35p : Option Addr) (r35l : Nat) (r35c : Nat) (w5 : World) =>
  bytesAt w5 b1p b1l bs38 ∧
  bytesOf w5 r35p r35l fun bs36 =>
  condB (!((⟨bs36.toArray⟩ : ByteArray).toList == (⟨bs38.toArray⟩ : ByteArray).toList)) (
  J none 0 0 (0 : Int) (10 : Int) w5) (
  slS b1p b1l b1c 1 (some (4 : Int)) (some (8 : Int)) none fun q41p q41l q41c =>
  callJ Try.prog fn_ref14_Value #[.slice q41p q41l q41c] w5 [.one (.int .i64)] fun (r42 : Int) (w6 : World) =>
  condB (r42 != n0) (
  J none 0 0 (0 : Int) (11 : Int) w6) (
  slS b1p b1l b1c 1 (some (16 : Int)) none none fun q47p q47l q47c =>
  slS b1p b1l b1c 1 (some (8 : Int)) (some (16 : Int)) none fun q50p q50l q50c =>
  newB w6.drew (.cells ⟨[]⟩ T_uint8) fun b45 w7 =>
  appJ Try.prog T_sl_uint8 T_sl_uint8 (.slice (some ⟨b45, 0, none⟩) 0 0) (.slice q47p q47l q47c) w7 fun q48p q48l q48c w8 =>
  callJ Try.prog fn_ref15_wide #[.slice q50p q50l q50c] w8 [.one (.int .u64)] fun (r51 : Int) (w9 : World) =>
  J q48p q48l q48c r51 (0 : Int) w9)))))))) fun J_15 =>
  condB (decide (n0 < (0 : Int))) (
  J_15 true w) (
  J_15 (decide (n0 > (4294967295 : Int))) w)
def ann_ref15_Take : Ann := .s (.o) (.s (.j [(15, .bool)] (.o) (.c (.s (.o) (.o)) (.o))) (.s (.s (.o) (.c (.s (.o) (.o)) (.o))) (.s (.o) (.s (.s (.o) (.b (.l [(7, .bool), (21, .int .i64)] (.s (.o) (.s (.c (.o) (.o)) (.j [(7, .bool)] (.b (.s (.o) (.o))) (.o))))))) (.s (.s (.o) (.c (.s (.o) (.o)) (.o))) (.s (.s (.d (.take 0 (.take 1 (.take 4 (.take 5 (.eff 2 (.take 3 (.take 6 (.done))) (.none))))))) (.c (.s (.o) (.o)) (.o))) (.s (.s (.o) (.c (.s (.o) (.o)) (.o))) (.s (.d (.take 1 (.take 2 (.take 4 (.take 5 (.eff 0 (.eff 3 (.eff 6 (.take 7 (.take 8 (.take 9 (.done)))) (.none)) (.none)) (.none))))))) (.o)))))))))
theorem eq_ref15_Take (n0 : Int) (b1p : Option Addr) (b1l : Nat) (b1c : Nat) (w : World) (J : Option Addr → Nat → Nat → Int → Int → World → Prop) : vcFun Try.prog Try.f29 ann_ref15_Take [.one .slice, .one (.int .u64), .one (.int .i64)] [.int .i64 n0, .slice b1p b1l b1c] w J = VC_ref15_Take n0 b1p b1l b1c w J := by kernel_rfl
theorem c_ref15_Take {n0 : Int} {b1p : Option Addr} {b1l : Nat} {b1c : Nat} {w : World} {J : Option Addr → Nat → Nat → Int → Int → World → Prop} (h : VC_ref15_Take n0 b1p b1l b1c w J) : callJ Try.prog fn_ref15_Take #[.int .i64 n0, .slice b1p b1l b1c] w [.one .slice, .one (.int .u64), .one (.int .i64)] J := vc_calls Try.func29 ann_ref15_Take (Eq.mpr (eq_ref15_Take n0 b1p b1l b1c w J) h)

/-- lectern/lecternref15.TakeHead -/
def VC_ref15_TakeHead (b0p : Option Addr) (b0l : Nat) (b0c : Nat) (w : World) (J : Int → Int → Int → World → Prop) : Prop :=
  newB w (.cells (zeroC Try.prog T_ref15_Head) T_ref15_Head) fun b2 w1 =>
  condB (((b0l : Nat) : Int) != (64 : Int)) (
  stN w1 ⟨b2, 0, none⟩ ⟨[.int .i64 (0 : Int), .int .u64 (0 : Int)]⟩ 2 fun w2 =>
  ldI .i64 w2 ⟨b2, 0, none⟩ fun r_0 =>
  ldI .u64 w2 ⟨b2, 1, none⟩ fun r_1 =>
  J r_0 r_1 (6 : Int) w2) (
  slS b0p b0l b0c 1 (some (4 : Int)) none none fun q12p q12l q12c =>
  bytesOf w1.drew b0p b0l fun bs16 =>
  callJ Try.prog fn_ref15_summed #[.slice q12p q12l q12c] w1.drew [.one .slice] fun (r13p : Option Addr) (r13l : Nat) (r13c : Nat) (w3 : World) =>
  bytesAt w3 b0p b0l bs16 ∧
  bytesOf w3 r13p r13l fun bs14 =>
  condB (!((⟨bs14.toArray⟩ : ByteArray).toList == (⟨bs16.toArray⟩ : ByteArray).toList)) (
  stN w3 ⟨b2, 0, none⟩ ⟨[.int .i64 (0 : Int), .int .u64 (0 : Int)]⟩ 2 fun w4 =>
  ldI .i64 w4 ⟨b2, 0, none⟩ fun r_0_1 =>
  ldI .u64 w4 ⟨b2, 1, none⟩ fun r_1_1 =>
  J r_0_1 r_1_1 (10 : Int) w4) (
  withJ (fun (h4 : Option Addr) (w5 : World) =>
  nonNil h4 fun a27 =>
  ldI .i64 w5 a27 fun x27_0 =>
  ldI .u64 w5 ((a27.add 1)) fun x27_1 =>
  callJ Try.prog fn_ref15_LayHead #[.agg ⟨[.int .i64 x27_0, .int .u64 x27_1]⟩] w5 [.one .slice, .one (.int .i64)] fun (r28_0p : Option Addr) (r28_0l : Nat) (r28_0c : Nat) (r28_1 : Int) (w6 : World) =>
  withJ (fun (x39 : Bool) (w7 : World) =>
  condB x39 (
  stN w7 ⟨b2, 0, none⟩ ⟨[.int .i64 (0 : Int), .int .u64 (0 : Int)]⟩ 2 fun w8 =>
  ldI .i64 w8 ⟨b2, 0, none⟩ fun r_0_2 =>
  ldI .u64 w8 ⟨b2, 1, none⟩ fun r_1_2 =>
  J r_0_2 r_1_2 (11 : Int) w8) (
  nonNil h4 fun a41 =>
  ldI .i64 w7 a41 fun x41_0 =>
  ldI .u64 w7 ((a41.add 1)) fun x41_1 =>
  stN w7 ⟨b2, 0, none⟩ ⟨[.int .i64 x41_0, .int .u64 x41_1]⟩ 2 fun w9 =>
  ldI .i64 w9 ⟨b2, 0, none⟩ fun r_0_3 =>
  ldI .u64 w9 ⟨b2, 1, none⟩ fun r_1_3 =>
  J r_0_3 r_1_3 (0 : Int) w9)) fun J_39 =>
  condB (r28_1 != (0 : Int)) (
  J_39 true w6) (
  bytesOf w6 r28_0p r28_0l fun bs35 =>
  bytesOf w6 b0p b0l fun bs37 =>
  J_39 (!((⟨bs35.toArray⟩ : ByteArray).toList == (⟨bs37.toArray⟩ : ByteArray).toList)) w6)) fun J_4 =>
  slS b0p b0l b0c 1 (some (8 : Int)) (some (12 : Int)) none fun q20p q20l q20c =>
  slS b0p b0l b0c 1 (some (12 : Int)) (some (20 : Int)) none fun q23p q23l q23c =>
  (
  callJ Try.prog fn_ref14_Value #[.slice q20p q20l q20c] w3.drew [.one (.int .i64)] fun (r21 : Int) (w10 : World) =>
  (
  callJ Try.prog fn_ref15_wide #[.slice q23p q23l q23c] w10 [.one (.int .u64)] fun (r24 : Int) (w11 : World) =>
  newB w11 (.cells (zeroC Try.prog T_ref15_Head) T_ref15_Head) fun b4 w12 =>
  stN w12 ⟨b4, 0, none⟩ ⟨[.int .i64 r21, .int .u64 r24]⟩ 2 fun w13 =>
  J_4 (some ⟨b4, 0, none⟩) w13) ∧ (
  newB w10 (.cells (zeroC Try.prog T_ref15_Head) T_ref15_Head) fun b4_1 w14 =>
  callJ Try.prog fn_ref15_wide #[.slice q23p q23l q23c] w14 [.one (.int .u64)] fun (r24_1 : Int) (w15 : World) =>
  stN w15 ⟨b4_1, 0, none⟩ ⟨[.int .i64 r21, .int .u64 r24_1]⟩ 2 fun w16 =>
  J_4 (some ⟨b4_1, 0, none⟩) w16)) ∧ (
  newB w3.drew (.cells (zeroC Try.prog T_ref15_Head) T_ref15_Head) fun b4_2 w17 =>
  callJ Try.prog fn_ref14_Value #[.slice q20p q20l q20c] w17 [.one (.int .i64)] fun (r21_1 : Int) (w18 : World) =>
  callJ Try.prog fn_ref15_wide #[.slice q23p q23l q23c] w18 [.one (.int .u64)] fun (r24_2 : Int) (w19 : World) =>
  stN w19 ⟨b4_2, 0, none⟩ ⟨[.int .i64 r21_1, .int .u64 r24_2]⟩ 2 fun w20 =>
  J_4 (some ⟨b4_2, 0, none⟩) w20)))
def ann_ref15_TakeHead : Ann := .s (.o) (.s (.s (.o) (.c (.s (.o) (.o)) (.o))) (.s (.s (.d (.take 0 (.take 1 (.take 4 (.take 5 (.eff 2 (.take 3 (.take 6 (.done))) (.none))))))) (.c (.s (.o) (.o)) (.o))) (.j [(4, .ptr)] (.d (.take 0 (.take 1 (.take 3 (.take 4 (.eff 2 (.eff 5 (.take 6 (.eff 7 (.eff 8 (.done) (.none)) (.none))) (.eff 7 (.eff 5 (.take 6 (.eff 8 (.done) (.none))) (.none)) (.none))) (.eff 7 (.eff 2 (.eff 5 (.take 6 (.eff 8 (.done) (.none))) (.none)) (.none)) (.none)))))))) (.s (.o) (.s (.j [(39, .bool)] (.o) (.c (.s (.o) (.o)) (.o))) (.s (.o) (.o)))))))
theorem eq_ref15_TakeHead (b0p : Option Addr) (b0l : Nat) (b0c : Nat) (w : World) (J : Int → Int → Int → World → Prop) : vcFun Try.prog Try.f21 ann_ref15_TakeHead [.agg [.int .i64, .int .u64], .one (.int .i64)] [.slice b0p b0l b0c] w J = VC_ref15_TakeHead b0p b0l b0c w J := by kernel_rfl
theorem c_ref15_TakeHead {b0p : Option Addr} {b0l : Nat} {b0c : Nat} {w : World} {J : Int → Int → Int → World → Prop} (h : VC_ref15_TakeHead b0p b0l b0c w J) : callJ Try.prog fn_ref15_TakeHead #[.slice b0p b0l b0c] w [.agg [.int .i64, .int .u64], .one (.int .i64)] J := vc_calls Try.func21 ann_ref15_TakeHead (Eq.mpr (eq_ref15_TakeHead b0p b0l b0c w J) h)

/-- lectern/lecternref15.summed -/
def VC_ref15_summed (b0p : Option Addr) (b0l : Nat) (b0c : Nat) (w : World) (J : Option Addr → Nat → Nat → World → Prop) : Prop :=
  callJ Try.prog fn_ref14_Sum #[.slice b0p b0l b0c] w [.one (.int .u32)] fun (r4 : Int) (w1 : World) =>
  callJ Try.prog fn_ref14_Number #[.int .u64 (IntKind.u64.wrap r4), .int .i64 (4 : Int)] w1 [.one .slice] fun (r6p : Option Addr) (r6l : Nat) (r6c : Nat) (w2 : World) =>
  appJ Try.prog T_sl_uint8 T_sl_uint8 (.slice r6p r6l r6c) (.slice b0p b0l b0c) w2 fun q8p q8l q8c w3 =>
  J q8p q8l q8c w3
def ann_ref15_summed : Ann := .s (.o) (.s (.o) (.o))
theorem eq_ref15_summed (b0p : Option Addr) (b0l : Nat) (b0c : Nat) (w : World) (J : Option Addr → Nat → Nat → World → Prop) : vcFun Try.prog Try.f37 ann_ref15_summed [.one .slice] [.slice b0p b0l b0c] w J = VC_ref15_summed b0p b0l b0c w J := by kernel_rfl
theorem c_ref15_summed {b0p : Option Addr} {b0l : Nat} {b0c : Nat} {w : World} {J : Option Addr → Nat → Nat → World → Prop} (h : VC_ref15_summed b0p b0l b0c w J) : callJ Try.prog fn_ref15_summed #[.slice b0p b0l b0c] w [.one .slice] J := vc_calls Try.func37 ann_ref15_summed (Eq.mpr (eq_ref15_summed b0p b0l b0c w J) h)

/-- lectern/lecternref15.wide -/
def VC_ref15_wide (b0p : Option Addr) (b0l : Nat) (b0c : Nat) (w : World) (J : Int → World → Prop) : Prop :=
  ∃ I_3 : Int → Int → World → Nat → Prop, (∃ m : Nat, I_3 (0 : Int) (0 : Int) w m) ∧ ∀ (n3 : Int) (x8 : Int) (w1 : World) (m : Nat), I_3 n3 x8 w1 m → (
  condB (decide (x8 < ((b0l : Nat) : Int))) (
  idxA b0p b0l x8 fun a10 =>
  ldI .u8 w1 ((a10.add (x8.toNat * 1))) fun x11 =>
  ∃ m' : Nat, m' < m ∧ I_3 (IntKind.u64.wrap ((IntKind.u64.wrap ((256 : Int) * n3)) + (IntKind.u64.wrap x11))) (w64 (x8 + (1 : Int))) w1 m') (
  J n3 w1))
def ann_ref15_wide : Ann := .s (.o) (.s (.o) (.s (.s (.o) (.b (.l [(3, .int .u64), (8, .int .i64)] (.s (.o) (.s (.c (.o) (.o)) (.s (.b (.s (.o) (.o))) (.o))))))) (.s (.o) (.o))))
theorem eq_ref15_wide (b0p : Option Addr) (b0l : Nat) (b0c : Nat) (w : World) (J : Int → World → Prop) : vcFun Try.prog Try.f41 ann_ref15_wide [.one (.int .u64)] [.slice b0p b0l b0c] w J = VC_ref15_wide b0p b0l b0c w J := by kernel_rfl
theorem c_ref15_wide {b0p : Option Addr} {b0l : Nat} {b0c : Nat} {w : World} {J : Int → World → Prop} (h : VC_ref15_wide b0p b0l b0c w J) : callJ Try.prog fn_ref15_wide #[.slice b0p b0l b0c] w [.one (.int .u64)] J := vc_calls Try.func41 ann_ref15_wide (Eq.mpr (eq_ref15_wide b0p b0l b0c w J) h)

end Go.Proofs.Ytgplflecgnldeaa
