/- What the conditions of these functions are, reckoned by the reading; printed by program. -/
import Derived.Test.YtgplflecgnldeaaNm
import Derived.KernelRfl
set_option maxRecDepth 100000
set_option linter.unusedVariables false
namespace Go.Proofs.Ytgplflecgnldeaa
open Go Go.Vc

/-- lectern/lecternlaw15.awake -/
def VC_law15_awake  (w : World) (J : Bool → World → Prop) : Prop :=
  callJ Try.prog fn_sheet_Draft #[.int .i64 (100 : Int)] w [.agg [.int .i64, .int .i64, .int .i64], .one (.int .i64)] fun (r9_0_0 : Int) (r9_0_1 : Int) (r9_0_2 : Int) (r9_1 : Int) (w1 : World) =>
  newB w1 (.cells (zeroC Try.prog T_sheet_Plan) T_sheet_Plan) fun b1 w2 =>
  stN w2 ⟨b1, 0, none⟩ ⟨[.int .i64 r9_0_0, .int .i64 r9_0_1, .int .i64 r9_0_2]⟩ 3 fun w3 =>
  newB w3 (.cells ⟨[.int .u8 (97 : Int)]⟩ T_uint8) fun b13 w4 =>
  cvJ Try.prog T_sl_uint8 T_sl_uint8 (.slice (some ⟨b13, 0, none⟩) 1 1) w4 fun q14p q14l q14c w5 =>
  callJ Try.prog fn_sheet_Lay #[.int .i64 (1 : Int), .int .u64 (7 : Int), .slice q14p q14l q14c] w5 [.one .slice, .one (.int .i64)] fun (r15_0p : Option Addr) (r15_0l : Nat) (r15_0c : Nat) (r15_1 : Int) (w6 : World) =>
  callJ Try.prog fn_sheet_Take #[.int .i64 (1 : Int), .slice r15_0p r15_0l r15_0c] w6 [.one .slice, .one (.int .u64), .one (.int .i64)] fun (r20_0p : Option Addr) (r20_0l : Nat) (r20_0c : Nat) (r20_1 : Int) (r20_2 : Int) (w7 : World) =>
  withJ (fun (x0 : Bool) (w8 : World) =>
  J x0 w8) fun J_0 =>
  condB (r9_1 == (0 : Int)) (
  condB (r15_1 == (0 : Int)) (
  condB (r20_2 == (0 : Int)) (
  ldI .i64 w7 ⟨b1, 0, none⟩ fun x35_0 =>
  ldI .i64 w7 ⟨b1, 1, none⟩ fun x35_1 =>
  ldI .i64 w7 ⟨b1, 2, none⟩ fun x35_2 =>
  condB ((x35_0 == (25 : Int)) && ((x35_1 == (27 : Int)) && ((x35_2 == (9 : Int)) && true))) (
  condB (((r15_0l : Nat) : Int) == (512 : Int)) (
  idxA r15_0p r15_0l (16 : Int) fun a46 =>
  ldI .u8 w7 ((a46.add ((16 : Int).toNat * 1))) fun x47 =>
  condB (x47 == (97 : Int)) (
  condB (((r20_0l : Nat) : Int) == (496 : Int)) (
  idxA r20_0p r20_0l (0 : Int) fun a57 =>
  ldI .u8 w7 ((a57.add ((0 : Int).toNat * 1))) fun x58 =>
  condB (x58 == (97 : Int)) (
  J_0 (r20_1 == (7 : Int)) w7) (
  J_0 false w7)) (
  J_0 false w7)) (
  J_0 false w7)) (
  J_0 false w7)) (
  J_0 false w7)) (
  J_0 false w7)) (
  J_0 false w7)) (
  J_0 false w7)
def ann_law15_awake : Ann := .s (.o) (.s (.o) (.s (.o) (.s (.o) (.j [(0, .bool)] (.o) (.o)))))
theorem eq_law15_awake  (w : World) (J : Bool → World → Prop) : vcFun Try.prog Try.f9 ann_law15_awake [.one .bool] [] w J = VC_law15_awake  w J := by kernel_rfl
theorem c_law15_awake {w : World} {J : Bool → World → Prop} (h : VC_law15_awake  w J) : callJ Try.prog fn_law15_awake #[] w [.one .bool] J := vc_calls Try.func9 ann_law15_awake (Eq.mpr (eq_law15_awake  w J) h)

/-- lectern/lecternlaw15.takes -/
def VC_law15_takes (n0 : Int) (b1p : Option Addr) (b1l : Nat) (b1c : Nat) (w : World) (J : Bool → World → Prop) : Prop :=
  callJ Try.prog fn_ref01_Spare #[.slice b1p b1l b1c] w [.one .slice] fun (r14p : Option Addr) (r14l : Nat) (r14c : Nat) (w1 : World) =>
  callJ Try.prog fn_sheet_Take #[.int .i64 n0, .slice r14p r14l r14c] w1 [.one .slice, .one (.int .u64), .one (.int .i64)] fun (r18_0p : Option Addr) (r18_0l : Nat) (r18_0c : Nat) (r18_1 : Int) (r18_2 : Int) (w2 : World) =>
  callJ Try.prog fn_ref15_Take #[.int .i64 n0, .slice b1p b1l b1c] w2 [.one .slice, .one (.int .u64), .one (.int .i64)] fun (r25_0p : Option Addr) (r25_0l : Nat) (r25_0c : Nat) (r25_1 : Int) (r25_2 : Int) (w3 : World) =>
  withJ (fun (x48 : Bool) (w4 : World) =>
  condB x48 (
  J false w4) (
  ∃ I_51 : Int → World → Nat → Prop, (∃ m : Nat, I_51 (0 : Int) w4 m) ∧ ∀ (x51 : Int) (w5 : World) (m : Nat), I_51 x51 w5 m → (
  condB (decide (x51 < ((r18_0l : Nat) : Int))) (
  idxA r18_0p r18_0l x51 fun a56 =>
  stV w5 ((a56.add (x51.toNat * 1))) (.int .u8 (4 : Int)) fun w6 =>
  ∃ m' : Nat, m' < m ∧ I_51 (w64 (x51 + (1 : Int))) w6 m') (
  callJ Try.prog fn_ref01_Kept #[.slice r14p r14l r14c, .slice b1p b1l b1c] w5 [.one .bool] fun (r60 : Bool) (w7 : World) =>
  J r60 w7)))) fun J_48 =>
  condB (r18_2 != r25_2) (
  J_48 true w3) (
  callJ Try.prog fn_ref01_Same #[.slice r18_0p r18_0l r18_0c, .slice r25_0p r25_0l r25_0c] w3 [.one .bool] fun (r35 : Bool) (w8 : World) =>
  condB (!r35) (
  J_48 true w8) (
  condB (r18_1 != r25_1) (
  J_48 true w8) (
  callJ Try.prog fn_ref01_Kept #[.slice r14p r14l r14c, .slice b1p b1l b1c] w8 [.one .bool] fun (r46 : Bool) (w9 : World) =>
  J_48 (!r46) w9)))
def ann_law15_takes : Ann := .s (.o) (.s (.o) (.s (.o) (.s (.o) (.s (.j [(48, .bool)] (.o) (.c (.s (.o) (.o)) (.o))) (.s (.s (.o) (.b (.l [(51, .int .i64)] (.s (.o) (.s (.c (.o) (.o)) (.s (.b (.s (.o) (.o))) (.o))))))) (.s (.o) (.o)))))))
theorem eq_law15_takes (n0 : Int) (b1p : Option Addr) (b1l : Nat) (b1c : Nat) (w : World) (J : Bool → World → Prop) : vcFun Try.prog Try.f17 ann_law15_takes [.one .bool] [.int .i64 n0, .slice b1p b1l b1c] w J = VC_law15_takes n0 b1p b1l b1c w J := by kernel_rfl
theorem c_law15_takes {n0 : Int} {b1p : Option Addr} {b1l : Nat} {b1c : Nat} {w : World} {J : Bool → World → Prop} (h : VC_law15_takes n0 b1p b1l b1c w J) : callJ Try.prog fn_law15_takes #[.int .i64 n0, .slice b1p b1l b1c] w [.one .bool] J := vc_calls Try.func17 ann_law15_takes (Eq.mpr (eq_law15_takes n0 b1p b1l b1c w J) h)

/-- lectern/lecternlaw15.SheetDrafts -/
def VC_law15_SheetDrafts (n0 : Int) (w : World) (J : Bool → World → Prop) : Prop :=
  callJ Try.prog fn_law15_awake #[] w [.one .bool] fun (r9 : Bool) (w1 : World) =>
  condB (!r9) (
  J false w1) (
  callJ Try.prog fn_sheet_Draft #[.int .i64 n0] w1 [.agg [.int .i64, .int .i64, .int .i64], .one (.int .i64)] fun (r13_0_0 : Int) (r13_0_1 : Int) (r13_0_2 : Int) (r13_1 : Int) (w2 : World) =>
  newB w2 (.cells (zeroC Try.prog T_sheet_Plan) T_sheet_Plan) fun b3 w3 =>
  stN w3 ⟨b3, 0, none⟩ ⟨[.int .i64 r13_0_0, .int .i64 r13_0_1, .int .i64 r13_0_2]⟩ 3 fun w4 =>
  callJ Try.prog fn_ref15_Draft #[.int .i64 n0] w4 [.one (.int .i64), .one (.int .i64), .one (.int .i64), .one .bool] fun (r18_0 : Int) (r18_1 : Int) (r18_2 : Int) (r18_3 : Bool) (w5 : World) =>
  condB (!r18_3) (
  withJ (fun (x2 : Bool) (w6 : World) =>
  J x2 w6) fun J_2 =>
  condB (r13_1 == (1 : Int)) (
  ldI .i64 w5 ⟨b3, 0, none⟩ fun x28_0 =>
  ldI .i64 w5 ⟨b3, 1, none⟩ fun x28_1 =>
  ldI .i64 w5 ⟨b3, 2, none⟩ fun x28_2 =>
  J_2 ((x28_0 == (0 : Int)) && ((x28_1 == (0 : Int)) && ((x28_2 == (0 : Int)) && true))) w5) (
  J_2 false w5)) (
  withJ (fun (x2_1 : Bool) (w7 : World) =>
  J x2_1 w7) fun J_2_1 =>
  condB (r13_1 == (0 : Int)) (
  ldI .i64 w5 ⟨b3, 0, none⟩ fun x36 =>
  condB (x36 == r18_0) (
  ldI .i64 w5 ⟨b3, 1, none⟩ fun x42 =>
  condB (x42 == r18_1) (
  ldI .i64 w5 ⟨b3, 2, none⟩ fun x48 =>
  condB (x48 == r18_2) (
  ldI .i64 w5 ⟨b3, 1, none⟩ fun x54 =>
  ldI .i64 w5 ⟨b3, 2, none⟩ fun x56 =>
  condB (decide ((w64 (x54 + (w64 ((8 : Int) * x56)))) ≤ n0)) (
  ldI .i64 w5 ⟨b3, 1, none⟩ fun x65 =>
  ldI .i64 w5 ⟨b3, 2, none⟩ fun x67 =>
  J_2_1 (decide (n0 < (w64 (x65 + (w64 ((8 : Int) * (w64 (x67 + (1 : Int))))))))) w5) (
  J_2_1 false w5)) (
  J_2_1 false w5)) (
  J_2_1 false w5)) (
  J_2_1 false w5)) (
  J_2_1 false w5)))
def ann_law15_SheetDrafts : Ann := .s (.o) (.s (.s (.o) (.c (.s (.o) (.o)) (.o))) (.s (.o) (.s (.o) (.s (.s (.o) (.c (.j [(2, .bool)] (.o) (.o)) (.o))) (.j [(2, .bool)] (.o) (.o))))))
theorem eq_law15_SheetDrafts (n0 : Int) (w : World) (J : Bool → World → Prop) : vcFun Try.prog Try.f3 ann_law15_SheetDrafts [.one .bool] [.int .i64 n0] w J = VC_law15_SheetDrafts n0 w J := by kernel_rfl
theorem c_law15_SheetDrafts {n0 : Int} {w : World} {J : Bool → World → Prop} (h : VC_law15_SheetDrafts n0 w J) : callJ Try.prog fn_law15_SheetDrafts #[.int .i64 n0] w [.one .bool] J := vc_calls Try.func3 ann_law15_SheetDrafts (Eq.mpr (eq_law15_SheetDrafts n0 w J) h)

/-- lectern/lecternlaw15.SheetLays -/
def VC_law15_SheetLays (n0 : Int) (stamp1 : Int) (p2p : Option Addr) (p2l : Nat) (p2c : Nat) (b3p : Option Addr) (b3l : Nat) (b3c : Nat) (w : World) (J : Bool → World → Prop) : Prop :=
  callJ Try.prog fn_law15_awake #[] w [.one .bool] fun (r14 : Bool) (w1 : World) =>
  condB (!r14) (
  J false w1) (
  callJ Try.prog fn_ref01_Spare #[.slice p2p p2l p2c] w1 [.one .slice] fun (r17p : Option Addr) (r17l : Nat) (r17c : Nat) (w2 : World) =>
  callJ Try.prog fn_sheet_Lay #[.int .i64 n0, .int .u64 stamp1, .slice r17p r17l r17c] w2 [.one .slice, .one (.int .i64)] fun (r22_0p : Option Addr) (r22_0l : Nat) (r22_0c : Nat) (r22_1 : Int) (w3 : World) =>
  callJ Try.prog fn_ref15_Lay #[.int .i64 n0, .int .u64 stamp1, .slice p2p p2l p2c] w3 [.one .slice, .one (.int .i64)] fun (r29_0p : Option Addr) (r29_0l : Nat) (r29_0c : Nat) (r29_1 : Int) (w4 : World) =>
  withJ (fun (x46 : Bool) (w5 : World) =>
  condB x46 (
  J false w5) (
  withJ (fun (x8 : Bool) (w6 : World) =>
  J x8 w6) fun J_8 =>
  callJ Try.prog fn_law15_takes #[.int .i64 n0, .slice b3p b3l b3c] w5 [.one .bool] fun (r49 : Bool) (w7 : World) =>
  condB r49 (
  callJ Try.prog fn_law15_takes #[.int .i64 n0, .slice r29_0p r29_0l r29_0c] w7 [.one .bool] fun (r53 : Bool) (w8 : World) =>
  condB r53 (
  callJ Try.prog fn_law15_takes #[.int .i64 (w64 (n0 + (1 : Int))), .slice r29_0p r29_0l r29_0c] w8 [.one .bool] fun (r59 : Bool) (w9 : World) =>
  J_8 r59 w9) (
  J_8 false w8)) (
  J_8 false w7))) fun J_46 =>
  condB (r22_1 != r29_1) (
  J_46 true w4) (
  callJ Try.prog fn_ref01_Same #[.slice r22_0p r22_0l r22_0c, .slice r29_0p r29_0l r29_0c] w4 [.one .bool] fun (r38 : Bool) (w10 : World) =>
  condB (!r38) (
  J_46 true w10) (
  callJ Try.prog fn_ref01_Kept #[.slice r17p r17l r17c, .slice p2p p2l p2c] w10 [.one .bool] fun (r44 : Bool) (w11 : World) =>
  J_46 (!r44) w11)))
def ann_law15_SheetLays : Ann := .s (.o) (.s (.s (.o) (.c (.s (.o) (.o)) (.o))) (.s (.o) (.s (.o) (.s (.o) (.s (.j [(46, .bool)] (.o) (.c (.s (.o) (.o)) (.o))) (.j [(8, .bool)] (.o) (.o)))))))
theorem eq_law15_SheetLays (n0 : Int) (stamp1 : Int) (p2p : Option Addr) (p2l : Nat) (p2c : Nat) (b3p : Option Addr) (b3l : Nat) (b3c : Nat) (w : World) (J : Bool → World → Prop) : vcFun Try.prog Try.f4 ann_law15_SheetLays [.one .bool] [.int .i64 n0, .int .u64 stamp1, .slice p2p p2l p2c, .slice b3p b3l b3c] w J = VC_law15_SheetLays n0 stamp1 p2p p2l p2c b3p b3l b3c w J := by kernel_rfl
theorem c_law15_SheetLays {n0 : Int} {stamp1 : Int} {p2p : Option Addr} {p2l : Nat} {p2c : Nat} {b3p : Option Addr} {b3l : Nat} {b3c : Nat} {w : World} {J : Bool → World → Prop} (h : VC_law15_SheetLays n0 stamp1 p2p p2l p2c b3p b3l b3c w J) : callJ Try.prog fn_law15_SheetLays #[.int .i64 n0, .int .u64 stamp1, .slice p2p p2l p2c, .slice b3p b3l b3c] w [.one .bool] J := vc_calls Try.func4 ann_law15_SheetLays (Eq.mpr (eq_law15_SheetLays n0 stamp1 p2p p2l p2c b3p b3l b3c w J) h)

/-- lectern/lecternlaw15.SheetHeads -/
def VC_law15_SheetHeads (gen0 : Int) (stamp1 : Int) (b2p : Option Addr) (b2l : Nat) (b2c : Nat) (w : World) (J : Bool → World → Prop) : Prop :=
  callJ Try.prog fn_law15_awake #[] w [.one .bool] fun (r17 : Bool) (w1 : World) =>
  condB (!r17) (
  J false w1) (
  callJ Try.prog fn_sheet_LayHead #[.agg ⟨[.int .i64 gen0, .int .u64 stamp1]⟩] w1 [.one .slice, .one (.int .i64)] fun (r23_0p : Option Addr) (r23_0l : Nat) (r23_0c : Nat) (r23_1 : Int) (w2 : World) =>
  callJ Try.prog fn_ref15_LayHead #[.agg ⟨[.int .i64 gen0, .int .u64 stamp1]⟩] w2 [.one .slice, .one (.int .i64)] fun (r30_0p : Option Addr) (r30_0l : Nat) (r30_0c : Nat) (r30_1 : Int) (w3 : World) =>
  withJ (fun (x41 : Bool) (w4 : World) =>
  condB x41 (
  J false w4) (
  newB w4 (.cells ⟨[.slice b2p b2l b2c, .slice r30_0p r30_0l r30_0c]⟩ T_sl_uint8) fun b44 w5 =>
  ∃ I_46 : Int → World → Nat → Prop, (∃ m : Nat, I_46 (0 : Int) w5 m) ∧ ∀ (x46 : Int) (w6 : World) (m : Nat), I_46 x46 w6 m → (
  condB (decide (x46 < ((2 : Nat) : Int))) (
  idxA (some ⟨b44, 0, none⟩) 2 x46 fun a48 =>
  ldS w6 ((a48.add (x46.toNat * 1))) fun x49p x49l x49c =>
  callJ Try.prog fn_sheet_TakeHead #[.slice x49p x49l x49c] w6 [.agg [.int .i64, .int .u64], .one (.int .i64)] fun (r52_0_0 : Int) (r52_0_1 : Int) (r52_1 : Int) (w7 : World) =>
  newB w7 (.cells (zeroC Try.prog T_sheet_Head) T_sheet_Head) fun b13 w8 =>
  stN w8 ⟨b13, 0, none⟩ ⟨[.int .i64 r52_0_0, .int .u64 r52_0_1]⟩ 2 fun w9 =>
  callJ Try.prog fn_ref15_TakeHead #[.slice x49p x49l x49c] w9 [.agg [.int .i64, .int .u64], .one (.int .i64)] fun (r57_0_0 : Int) (r57_0_1 : Int) (r57_1 : Int) (w10 : World) =>
  newB w10 (.cells (zeroC Try.prog T_ref15_Head) T_ref15_Head) fun b15 w11 =>
  stN w11 ⟨b15, 0, none⟩ ⟨[.int .i64 r57_0_0, .int .u64 r57_0_1]⟩ 2 fun w12 =>
  withJ (fun (x76 : Bool) (w13 : World) =>
  condB x76 (
  J false w13) (
  ∃ m' : Nat, m' < m ∧ I_46 (w64 (x46 + (1 : Int))) w13 m')) fun J_76 =>
  condB (r52_1 != r57_1) (
  J_76 true w12) (
  ldI .i64 w12 ⟨b13, 0, none⟩ fun x65 =>
  ldI .i64 w12 ⟨b15, 0, none⟩ fun x67 =>
  condB (x65 != x67) (
  J_76 true w12) (
  ldI .u64 w12 ⟨b13, 1, none⟩ fun x72 =>
  ldI .u64 w12 ⟨b15, 1, none⟩ fun x74 =>
  J_76 (x72 != x74) w12))) (
  J true w6)))) fun J_41 =>
  condB (r23_1 != r30_1) (
  J_41 true w3) (
  callJ Try.prog fn_ref01_Same #[.slice r23_0p r23_0l r23_0c, .slice r30_0p r30_0l r30_0c] w3 [.one .bool] fun (r39 : Bool) (w14 : World) =>
  J_41 (!r39) w14))
def ann_law15_SheetHeads : Ann := .s (.o) (.s (.s (.o) (.c (.s (.o) (.o)) (.o))) (.s (.o) (.s (.o) (.s (.j [(41, .bool)] (.o) (.c (.s (.o) (.o)) (.o))) (.s (.s (.o) (.b (.l [(46, .int .i64)] (.s (.o) (.s (.c (.o) (.o)) (.s (.b (.s (.o) (.s (.o) (.s (.o) (.j [(76, .bool)] (.o) (.c (.s (.o) (.o)) (.o))))))) (.o))))))) (.s (.o) (.o)))))))
theorem eq_law15_SheetHeads (gen0 : Int) (stamp1 : Int) (b2p : Option Addr) (b2l : Nat) (b2c : Nat) (w : World) (J : Bool → World → Prop) : vcFun Try.prog Try.f5 ann_law15_SheetHeads [.one .bool] [.int .i64 gen0, .int .u64 stamp1, .slice b2p b2l b2c] w J = VC_law15_SheetHeads gen0 stamp1 b2p b2l b2c w J := by kernel_rfl
theorem c_law15_SheetHeads {gen0 : Int} {stamp1 : Int} {b2p : Option Addr} {b2l : Nat} {b2c : Nat} {w : World} {J : Bool → World → Prop} (h : VC_law15_SheetHeads gen0 stamp1 b2p b2l b2c w J) : callJ Try.prog fn_law15_SheetHeads #[.int .i64 gen0, .int .u64 stamp1, .slice b2p b2l b2c] w [.one .bool] J := vc_calls Try.func5 ann_law15_SheetHeads (Eq.mpr (eq_law15_SheetHeads gen0 stamp1 b2p b2l b2c w J) h)

/-- lectern/lecternlaw15.SheetTurns -/
def VC_law15_SheetTurns (n0 : Int) (stamp1 : Int) (p2p : Option Addr) (p2l : Nat) (p2c : Nat) (at3 : Int) (by4 : Int) (w : World) (J : Bool → World → Prop) : Prop :=
  callJ Try.prog fn_law15_awake #[] w [.one .bool] fun (r20 : Bool) (w1 : World) =>
  condB (!r20) (
  J false w1) (
  callJ Try.prog fn_sheet_Lay #[.int .i64 n0, .int .u64 stamp1, .slice p2p p2l p2c] w1 [.one .slice, .one (.int .i64)] fun (r26_0p : Option Addr) (r26_0l : Nat) (r26_0c : Nat) (r26_1 : Int) (w2 : World) =>
  callJ Try.prog fn_sheet_LayHead #[.agg ⟨[.int .i64 n0, .int .u64 stamp1]⟩] w2 [.one .slice, .one (.int .i64)] fun (r33_0p : Option Addr) (r33_0l : Nat) (r33_0c : Nat) (r33_1 : Int) (w3 : World) =>
  withJ (fun (w4 : World) =>
  withJ (fun (w5 : World) =>
  J true w5) fun J_0_1 =>
  condB (r33_1 == (0 : Int)) (
  callJ Try.prog fn_sheet_TakeHead #[.slice r33_0p r33_0l r33_0c] w4 [.agg [.int .i64, .int .u64], .one (.int .i64)] fun (r85_0_0 : Int) (r85_0_1 : Int) (r85_1 : Int) (w6 : World) =>
  newB w6 (.cells (zeroC Try.prog T_sheet_Head) T_sheet_Head) fun b18 w7 =>
  stN w7 ⟨b18, 0, none⟩ ⟨[.int .i64 r85_0_0, .int .u64 r85_0_1]⟩ 2 fun w8 =>
  withJ (fun (x101 : Bool) (w9 : World) =>
  condB x101 (
  J false w9) (
  (64 : Int) ≠ 0 ∧
  idxA r33_0p r33_0l (Int.tmod (IntKind.u64.wrap at3) (64 : Int)) fun a106 =>
  ldI .u8 w9 ((a106.add ((Int.tmod (IntKind.u64.wrap at3) (64 : Int)).toNat * 1))) fun x107 =>
  idxA r33_0p r33_0l (Int.tmod (IntKind.u64.wrap at3) (64 : Int)) fun a110 =>
  stV w9 ((a110.add ((Int.tmod (IntKind.u64.wrap at3) (64 : Int)).toNat * 1))) (.int .u8 (bXor .u8 x107 by4)) fun w10 =>
  callJ Try.prog fn_sheet_TakeHead #[.slice r33_0p r33_0l r33_0c] w10 [.agg [.int .i64, .int .u64], .one (.int .i64)] fun (r113_0_0 : Int) (r113_0_1 : Int) (r113_1 : Int) (w11 : World) =>
  withJ (fun (x121 : Bool) (w12 : World) =>
  condB x121 (
  J false w12) (
  J_0_1 w12)) fun J_121 =>
  condB (by4 != (0 : Int)) (
  J_121 (r113_1 != (10 : Int)) w11) (
  J_121 false w11))) fun J_101 =>
  condB (r85_1 != (0 : Int)) (
  J_101 true w8) (
  ldI .i64 w8 ⟨b18, 0, none⟩ fun x92 =>
  condB (x92 != n0) (
  J_101 true w8) (
  ldI .u64 w8 ⟨b18, 1, none⟩ fun x98 =>
  J_101 (x98 != stamp1) w8))) (
  J_0_1 w4)) fun J_0 =>
  condB (r26_1 == (0 : Int)) (
  callJ Try.prog fn_sheet_Take #[.int .i64 n0, .slice r26_0p r26_0l r26_0c] w3 [.one .slice, .one (.int .u64), .one (.int .i64)] fun (r41_0p : Option Addr) (r41_0l : Nat) (r41_0c : Nat) (r41_1 : Int) (r41_2 : Int) (w13 : World) =>
  withJ (fun (x58 : Bool) (w14 : World) =>
  condB x58 (
  J false w14) (
  (512 : Int) ≠ 0 ∧
  idxA r26_0p r26_0l (Int.tmod (IntKind.u64.wrap at3) (512 : Int)) fun a63 =>
  ldI .u8 w14 ((a63.add ((Int.tmod (IntKind.u64.wrap at3) (512 : Int)).toNat * 1))) fun x64 =>
  idxA r26_0p r26_0l (Int.tmod (IntKind.u64.wrap at3) (512 : Int)) fun a67 =>
  stV w14 ((a67.add ((Int.tmod (IntKind.u64.wrap at3) (512 : Int)).toNat * 1))) (.int .u8 (bXor .u8 x64 by4)) fun w15 =>
  callJ Try.prog fn_sheet_Take #[.int .i64 n0, .slice r26_0p r26_0l r26_0c] w15 [.one .slice, .one (.int .u64), .one (.int .i64)] fun (r71_0p : Option Addr) (r71_0l : Nat) (r71_0c : Nat) (r71_1 : Int) (r71_2 : Int) (w16 : World) =>
  withJ (fun (x80 : Bool) (w17 : World) =>
  condB x80 (
  J false w17) (
  J_0 w17)) fun J_80 =>
  condB (by4 != (0 : Int)) (
  J_80 (r71_2 != (10 : Int)) w16) (
  J_80 false w16))) fun J_58 =>
  condB (r41_2 != (0 : Int)) (
  J_58 true w13) (
  condB (r41_1 != stamp1) (
  J_58 true w13) (
  callJ Try.prog fn_ref14_Fill #[.slice p2p p2l p2c, .int .i64 (496 : Int)] w13 [.one .slice] fun (r55p : Option Addr) (r55l : Nat) (r55c : Nat) (w18 : World) =>
  callJ Try.prog fn_ref01_Same #[.slice r41_0p r41_0l r41_0c, .slice r55p r55l r55c] w18 [.one .bool] fun (r56 : Bool) (w19 : World) =>
  J_58 (!r56) w19))) (
  J_0 w3))
def ann_law15_SheetTurns : Ann := .s (.o) (.s (.s (.o) (.c (.s (.o) (.o)) (.o))) (.s (.o) (.s (.o) (.j [] (.s (.o) (.c (.s (.o) (.s (.j [(58, .bool)] (.o) (.c (.s (.o) (.o)) (.o))) (.s (.o) (.s (.o) (.j [(80, .bool)] (.o) (.c (.s (.o) (.o)) (.o))))))) (.o))) (.j [] (.s (.o) (.c (.s (.o) (.s (.j [(101, .bool)] (.o) (.c (.s (.o) (.o)) (.o))) (.s (.o) (.s (.o) (.j [(121, .bool)] (.o) (.c (.s (.o) (.o)) (.o))))))) (.o))) (.s (.o) (.o)))))))
theorem eq_law15_SheetTurns (n0 : Int) (stamp1 : Int) (p2p : Option Addr) (p2l : Nat) (p2c : Nat) (at3 : Int) (by4 : Int) (w : World) (J : Bool → World → Prop) : vcFun Try.prog Try.f6 ann_law15_SheetTurns [.one .bool] [.int .i64 n0, .int .u64 stamp1, .slice p2p p2l p2c, .int .i64 at3, .int .u8 by4] w J = VC_law15_SheetTurns n0 stamp1 p2p p2l p2c at3 by4 w J := by kernel_rfl
theorem c_law15_SheetTurns {n0 : Int} {stamp1 : Int} {p2p : Option Addr} {p2l : Nat} {p2c : Nat} {at3 : Int} {by4 : Int} {w : World} {J : Bool → World → Prop} (h : VC_law15_SheetTurns n0 stamp1 p2p p2l p2c at3 by4 w J) : callJ Try.prog fn_law15_SheetTurns #[.int .i64 n0, .int .u64 stamp1, .slice p2p p2l p2c, .int .i64 at3, .int .u8 by4] w [.one .bool] J := vc_calls Try.func6 ann_law15_SheetTurns (Eq.mpr (eq_law15_SheetTurns n0 stamp1 p2p p2l p2c at3 by4 w J) h)

/-- lectern/lecternlaw15.SheetPuts -/
def VC_law15_SheetPuts (n0 : Int) (ops1p : Option Addr) (ops1l : Nat) (ops1c : Nat) (heads2p : Option Addr) (heads2l : Nat) (heads2c : Nat) (w : World) (J : Bool → World → Prop) : Prop :=
  callJ Try.prog fn_law15_awake #[] w [.one .bool] fun (r38 : Bool) (w1 : World) =>
  condB (!r38) (
  J false w1) (
  withJ (fun (x45 : Bool) (w2 : World) =>
  condB x45 (
  callJ Try.prog fn_sheet_Put #[.pointer none, .int .i64 n0, .int .u64 (1 : Int), .slice none 0 0] w2 [.one (.int .i64)] fun (r47 : Int) (w3 : World) =>
  J (r47 == (2 : Int)) w3) (
  callJ Try.prog fn_drum_New #[.int .i64 n0] w2 [.one .ptr, .one (.int .i64)] fun (r51_0 : Option Addr) (r51_1 : Int) (w4 : World) =>
  withJ (fun (x59 : Bool) (w5 : World) =>
  condB x59 (
  J false w5) (
  callJ Try.prog fn_ref15_Draft #[.int .i64 n0] w5 [.one (.int .i64), .one (.int .i64), .one (.int .i64), .one .bool] fun (r62_0 : Int) (r62_1 : Int) (r62_2 : Int) (r62_3 : Bool) (w6 : World) =>
  mkS w6 T_uint8 (zeroC Try.prog T_uint8) 1 1 (w64 ((64 : Int) * n0)) (w64 ((64 : Int) * n0)) fun b69 w7 =>
  newB w7 (.cells (zeroC Try.prog T_ref15_Head) T_ref15_Head) fun b14 w8 =>
  stN w8 ⟨b14, 0, none⟩ ⟨[.int .i64 (0 : Int), .int .u64 (0 : Int)]⟩ 2 fun w9 =>
  withJ (fun (w10 : World) =>
  withJ (fun (w11 : World) =>
  ∃ I_163 : Int → World → Nat → Prop, (∃ m : Nat, I_163 (0 : Int) w11 m) ∧ ∀ (x163 : Int) (w12 : World) (m : Nat), I_163 x163 w12 m → (
  condB (decide (x163 < (2 : Int))) (
  withJ (fun (w13 : World) =>
  ∃ m' : Nat, m' < m ∧ I_163 (w64 (x163 + (1 : Int))) w13 m') fun J_0_2 =>
  slS (some ⟨b69, 0, none⟩) ((w64 ((64 : Int) * n0)).toNat) ((w64 ((64 : Int) * n0)).toNat) 1 (some (w64 ((64 : Int) * (if (w64 (n0 - (1 : Int))) < x163 then (w64 (n0 - (1 : Int))) else x163)))) (some (w64 ((w64 ((64 : Int) * (if (w64 (n0 - (1 : Int))) < x163 then (w64 (n0 - (1 : Int))) else x163))) + (64 : Int)))) none fun q179p q179l q179c =>
  callJ Try.prog fn_ref15_TakeHead #[.slice q179p q179l q179c] w12 [.agg [.int .i64, .int .u64], .one (.int .i64)] fun (r180_0_0 : Int) (r180_0_1 : Int) (r180_1 : Int) (w14 : World) =>
  newB w14 (.cells (zeroC Try.prog T_ref15_Head) T_ref15_Head) fun b24 w15 =>
  stN w15 ⟨b24, 0, none⟩ ⟨[.int .i64 r180_0_0, .int .u64 r180_0_1]⟩ 2 fun w16 =>
  withJ (fun (x191 : Bool) (w17 : World) =>
  condB x191 (
  ldI .i64 w17 ⟨b24, 0, none⟩ fun x192_0 =>
  ldI .u64 w17 ⟨b24, 1, none⟩ fun x192_1 =>
  stN w17 ⟨b14, 0, none⟩ ⟨[.int .i64 x192_0, .int .u64 x192_1]⟩ 2 fun w18 =>
  J_0_2 w18) (
  J_0_2 w17)) fun J_191 =>
  condB (r180_1 == (0 : Int)) (
  ldI .i64 w16 ⟨b24, 0, none⟩ fun x187 =>
  ldI .i64 w16 ⟨b14, 0, none⟩ fun x189 =>
  J_191 (decide (x187 > x189)) w16) (
  J_191 false w16)) (
  callJ Try.prog fn_sheet_GetHead #[.pointer r51_0] w12 [.agg [.int .i64, .int .u64], .one (.int .i64)] fun (r196_0_0 : Int) (r196_0_1 : Int) (r196_1 : Int) (w19 : World) =>
  newB w19 (.cells (zeroC Try.prog T_sheet_Head) T_sheet_Head) fun b26 w20 =>
  stN w20 ⟨b26, 0, none⟩ ⟨[.int .i64 r196_0_0, .int .u64 r196_0_1]⟩ 2 fun w21 =>
  withJ (fun (x237 : Bool) (w22 : World) =>
  condB x237 (
  J false w22) (
  ∃ I_239 : Int → World → Nat → Prop, (∃ m : Nat, I_239 (0 : Int) w22 m) ∧ ∀ (x239 : Int) (w23 : World) (m_1 : Nat), I_239 x239 w23 m_1 → (
  condB (decide (x239 < r62_2)) (
  callJ Try.prog fn_sheet_Get #[.pointer r51_0, .int .i64 x239] w23 [.one .slice, .one (.int .u64), .one (.int .i64)] fun (r245_0p : Option Addr) (r245_0l : Nat) (r245_0c : Nat) (r245_1 : Int) (r245_2 : Int) (w24 : World) =>
  slS (some ⟨b69, 0, none⟩) ((w64 ((64 : Int) * n0)).toNat) ((w64 ((64 : Int) * n0)).toNat) 1 (some (w64 ((64 : Int) * (w64 (r62_1 + (w64 ((8 : Int) * x239))))))) (some (w64 ((w64 ((64 : Int) * (w64 (r62_1 + (w64 ((8 : Int) * x239)))))) + (512 : Int)))) none fun q263p q263l q263c =>
  callJ Try.prog fn_ref15_Take #[.int .i64 x239, .slice q263p q263l q263c] w24 [.one .slice, .one (.int .u64), .one (.int .i64)] fun (r264_0p : Option Addr) (r264_0l : Nat) (r264_0c : Nat) (r264_1 : Int) (r264_2 : Int) (w25 : World) =>
  withJ (fun (x281 : Bool) (w26 : World) =>
  condB x281 (
  J false w26) (
  ∃ m' : Nat, m' < m_1 ∧ I_239 (w64 (x239 + (1 : Int))) w26 m')) fun J_281 =>
  condB (r245_2 != r264_2) (
  J_281 true w25) (
  condB (r245_1 != r264_1) (
  J_281 true w25) (
  callJ Try.prog fn_ref01_Same #[.slice r245_0p r245_0l r245_0c, .slice r264_0p r264_0l r264_0c] w25 [.one .bool] fun (r279 : Bool) (w27 : World) =>
  J_281 (!r279) w27))) (
  ∃ I_284 : Int → World → Nat → Prop, (∃ m : Nat, I_284 (0 : Int) w23 m) ∧ ∀ (x284 : Int) (w28 : World) (m_2 : Nat), I_284 x284 w28 m_2 → (
  condB (decide (x284 < n0)) (
  callJ Try.prog fn_drum_Drum_Read #[.pointer r51_0, .int .i64 x284] w28 [.one .slice, .one (.int .i64)] fun (r290_0p : Option Addr) (r290_0l : Nat) (r290_0c : Nat) (r290_1 : Int) (w29 : World) =>
  withJ (fun (x306 : Bool) (w30 : World) =>
  condB x306 (
  J false w30) (
  ∃ m' : Nat, m' < m_2 ∧ I_284 (w64 (x284 + (1 : Int))) w30 m')) fun J_306 =>
  condB (r290_1 != (0 : Int)) (
  J_306 true w29) (
  slS (some ⟨b69, 0, none⟩) ((w64 ((64 : Int) * n0)).toNat) ((w64 ((64 : Int) * n0)).toNat) 1 (some (w64 ((64 : Int) * x284))) (some (w64 ((w64 ((64 : Int) * x284)) + (64 : Int)))) none fun q303p q303l q303c =>
  callJ Try.prog fn_ref01_Same #[.slice r290_0p r290_0l r290_0c, .slice q303p q303l q303c] w29 [.one .bool] fun (r304 : Bool) (w31 : World) =>
  J_306 (!r304) w31)) (
  J true w28)))))) fun J_237 =>
  condB r62_3 (
  ldI .i64 w21 ⟨b26, 0, none⟩ fun x202 =>
  ldI .i64 w21 ⟨b14, 0, none⟩ fun x204 =>
  condB (x202 != x204) (
  J_237 true w21) (
  ldI .u64 w21 ⟨b26, 1, none⟩ fun x208 =>
  ldI .u64 w21 ⟨b14, 1, none⟩ fun x210 =>
  condB (x208 != x210) (
  J_237 true w21) (
  ldI .i64 w21 ⟨b14, 0, none⟩ fun x217 =>
  condB (!((r196_1 == (0 : Int)) == (decide (x217 > (0 : Int))))) (
  J_237 true w21) (
  condB (r196_1 != (0 : Int)) (
  condB (r196_1 != (11 : Int)) (
  J_237 true w21) (
  condB (!r62_3) (
  J_237 (r196_1 != (1 : Int)) w21) (
  J_237 false w21))) (
  condB (!r62_3) (
  J_237 (r196_1 != (1 : Int)) w21) (
  J_237 false w21)))))) (
  condB (!r62_3) (
  J_237 (r196_1 != (1 : Int)) w21) (
  J_237 false w21))))) fun J_0_1 =>
  ∃ I_128 : Int → World → Nat → Prop, (∃ m : Nat, I_128 (0 : Int) w10 m) ∧ ∀ (x128 : Int) (w32 : World) (m_3 : Nat), I_128 x128 w32 m_3 → (
  condB (decide (x128 < ((heads2l : Nat) : Int))) (
  withJ (fun (w33 : World) =>
  ∃ m' : Nat, m' < m_3 ∧ I_128 (w64 (x128 + (1 : Int))) w33 m') fun J_0_3 =>
  idxA heads2p heads2l x128 fun a131 =>
  ldI .i64 w32 ((a131.add (x128.toNat * 1))) fun x132 =>
  condB (decide (x128 ≥ (10 : Int))) (
  J_0_1 w32) (
  callJ Try.prog fn_ref15_LayHead #[.agg ⟨[.int .i64 x132, .int .u64 (IntKind.u64.wrap x128)]⟩] w32 [.one .slice, .one (.int .i64)] fun (r140_0p : Option Addr) (r140_0l : Nat) (r140_0c : Nat) (r140_1 : Int) (w34 : World) =>
  withJ (fun (f22 : Int) (w35 : World) =>
  callJ Try.prog fn_sheet_PutHead #[.pointer r51_0, .agg ⟨[.int .i64 x132, .int .u64 (IntKind.u64.wrap x128)]⟩] w35 [.one (.int .i64)] fun (r150 : Int) (w36 : World) =>
  condB (r150 != f22) (
  J false w36) (
  condB (f22 == (0 : Int)) (
  (2 : Int) ≠ 0 ∧
  slS (some ⟨b69, 0, none⟩) ((w64 ((64 : Int) * n0)).toNat) ((w64 ((64 : Int) * n0)).toNat) 1 (some (w64 ((64 : Int) * (Int.tmod x132 (2 : Int))))) none none fun q159p q159l q159c =>
  cpyJ Try.prog T_sl_uint8 T_sl_uint8 (.slice q159p q159l q159c) (.slice r140_0p r140_0l r140_0c) w36 fun x161 w37 =>
  J_0_3 w37) (
  J_0_3 w36))) fun J_22 =>
  condB (!r62_3) (
  J_22 (1 : Int) w34) (
  J_22 r140_1 w34))) (
  J_0_1 w32))) fun J_0 =>
  ∃ I_73 : Int → World → Nat → Prop, (∃ m : Nat, I_73 (0 : Int) w9 m) ∧ ∀ (x73 : Int) (w38 : World) (m_4 : Nat), I_73 x73 w38 m_4 → (
  condB (decide (x73 < ((ops1l : Nat) : Int))) (
  withJ (fun (w39 : World) =>
  ∃ m' : Nat, m' < m_4 ∧ I_73 (w64 (x73 + (1 : Int))) w39 m') fun J_0_4 =>
  idxA ops1p ops1l x73 fun a76 =>
  ldI .i64 w38 ((a76.add (x73.toNat * 3))) fun x77_0 =>
  ldI .u64 w38 (((a76.add (x73.toNat * 3)).add 1)) fun x77_1 =>
  ldS w38 (((a76.add (x73.toNat * 3)).add 2)) fun x77_2p x77_2l x77_2c =>
  newB w38 (.cells (zeroC Try.prog T_law15_Op) T_law15_Op) fun b16 w40 =>
  stN w40 ⟨b16, 0, none⟩ ⟨[.int .i64 x77_0, .int .u64 x77_1, .slice x77_2p x77_2l x77_2c]⟩ 3 fun w41 =>
  condB (decide (x73 ≥ (40 : Int))) (
  J_0 w41) (
  ldI .i64 w41 ⟨b16, 0, none⟩ fun x82 =>
  ldI .u64 w41 ⟨b16, 1, none⟩ fun x84 =>
  ldS w41 ⟨b16, 2, none⟩ fun x86p x86l x86c =>
  callJ Try.prog fn_ref15_Lay #[.int .i64 x82, .int .u64 x84, .slice x86p x86l x86c] w41 [.one .slice, .one (.int .i64)] fun (r87_0p : Option Addr) (r87_0l : Nat) (r87_0c : Nat) (r87_1 : Int) (w42 : World) =>
  withJ (fun (b17p : Option Addr) (b17l : Nat) (b17c : Nat) (f18 : Int) (w43 : World) =>
  ldI .i64 w43 ⟨b16, 0, none⟩ fun x105 =>
  ldI .u64 w43 ⟨b16, 1, none⟩ fun x107 =>
  ldS w43 ⟨b16, 2, none⟩ fun x109p x109l x109c =>
  callJ Try.prog fn_sheet_Put #[.pointer r51_0, .int .i64 x105, .int .u64 x107, .slice x109p x109l x109c] w43 [.one (.int .i64)] fun (r110 : Int) (w44 : World) =>
  condB (r110 != f18) (
  J false w44) (
  condB (f18 == (0 : Int)) (
  ldI .i64 w44 ⟨b16, 0, none⟩ fun x118 =>
  slS (some ⟨b69, 0, none⟩) ((w64 ((64 : Int) * n0)).toNat) ((w64 ((64 : Int) * n0)).toNat) 1 (some (w64 ((64 : Int) * (w64 (r62_1 + (w64 ((8 : Int) * x118))))))) none none fun q122p q122l q122c =>
  cpyJ Try.prog T_sl_uint8 T_sl_uint8 (.slice q122p q122l q122c) (.slice b17p b17l b17c) w44 fun x124 w45 =>
  J_0_4 w45) (
  J_0_4 w44))) fun J_17 =>
  withJ (fun (x102 : Bool) (w46 : World) =>
  condB x102 (
  J_17 none 0 0 (1 : Int) w46) (
  J_17 r87_0p r87_0l r87_0c r87_1 w46)) fun J_102 =>
  condB (!r62_3) (
  J_102 true w42) (
  ldI .i64 w42 ⟨b16, 0, none⟩ fun x94 =>
  condB (decide (x94 < (0 : Int))) (
  J_102 true w42) (
  ldI .i64 w42 ⟨b16, 0, none⟩ fun x99 =>
  J_102 (decide (x99 ≥ r62_2)) w42)))) (
  J_0 w38)))) fun J_59 =>
  condB (r51_1 != (0 : Int)) (
  J_59 true w4) (
  J_59 r51_0.isNone w4))) fun J_45 =>
  condB (decide (n0 < (1 : Int))) (
  J_45 true w1) (
  J_45 (decide (n0 > (400 : Int))) w1))
def ann_law15_SheetPuts : Ann := .s (.o) (.s (.s (.o) (.c (.s (.o) (.o)) (.o))) (.s (.j [(45, .bool)] (.o) (.c (.s (.o) (.o)) (.o))) (.s (.o) (.s (.j [(59, .bool)] (.o) (.c (.s (.o) (.o)) (.o))) (.s (.o) (.s (.o) (.s (.o) (.j [] (.s (.o) (.b (.l [(73, .int .i64)] (.s (.o) (.s (.c (.o) (.o)) (.j [] (.b (.s (.o) (.s (.s (.o) (.c (.o) (.o))) (.s (.o) (.j [(17, .slice), (18, .int .i64)] (.j [(102, .bool)] (.o) (.c (.o) (.o))) (.s (.s (.o) (.c (.s (.o) (.o)) (.o))) (.s (.o) (.c (.o) (.o))))))))) (.o))))))) (.j [] (.s (.o) (.b (.l [(128, .int .i64)] (.s (.o) (.s (.c (.o) (.o)) (.j [] (.b (.s (.o) (.s (.s (.o) (.c (.o) (.o))) (.s (.o) (.j [(22, .int .i64)] (.s (.o) (.c (.o) (.o))) (.s (.s (.o) (.c (.s (.o) (.o)) (.o))) (.s (.o) (.c (.o) (.o))))))))) (.o))))))) (.s (.s (.o) (.b (.l [(163, .int .i64)] (.s (.o) (.s (.c (.o) (.o)) (.j [] (.b (.s (.o) (.s (.o) (.j [(191, .bool)] (.o) (.c (.o) (.o)))))) (.o))))))) (.s (.o) (.s (.j [(237, .bool)] (.o) (.c (.s (.o) (.o)) (.o))) (.s (.s (.o) (.b (.l [(239, .int .i64)] (.s (.o) (.s (.c (.o) (.o)) (.s (.b (.s (.o) (.s (.o) (.s (.o) (.j [(281, .bool)] (.o) (.c (.s (.o) (.o)) (.o))))))) (.o))))))) (.s (.s (.o) (.b (.l [(284, .int .i64)] (.s (.o) (.s (.c (.o) (.o)) (.s (.b (.s (.o) (.s (.o) (.j [(306, .bool)] (.o) (.c (.s (.o) (.o)) (.o)))))) (.o))))))) (.s (.o) (.o))))))))))))))))
theorem eq_law15_SheetPuts (n0 : Int) (ops1p : Option Addr) (ops1l : Nat) (ops1c : Nat) (heads2p : Option Addr) (heads2l : Nat) (heads2c : Nat) (w : World) (J : Bool → World → Prop) : vcFun Try.prog Try.f7 ann_law15_SheetPuts [.one .bool] [.int .i64 n0, .slice ops1p ops1l ops1c, .slice heads2p heads2l heads2c] w J = VC_law15_SheetPuts n0 ops1p ops1l ops1c heads2p heads2l heads2c w J := by kernel_rfl
theorem c_law15_SheetPuts {n0 : Int} {ops1p : Option Addr} {ops1l : Nat} {ops1c : Nat} {heads2p : Option Addr} {heads2l : Nat} {heads2c : Nat} {w : World} {J : Bool → World → Prop} (h : VC_law15_SheetPuts n0 ops1p ops1l ops1c heads2p heads2l heads2c w J) : callJ Try.prog fn_law15_SheetPuts #[.int .i64 n0, .slice ops1p ops1l ops1c, .slice heads2p heads2l heads2c] w [.one .bool] J := vc_calls Try.func7 ann_law15_SheetPuts (Eq.mpr (eq_law15_SheetPuts n0 ops1p ops1l ops1c heads2p heads2l heads2c w J) h)

/-- lectern/lecternlaw15.SheetLasts -/
def VC_law15_SheetLasts (gen0 : Int) (a1 : Int) (b2 : Int) (fuse3 : Int) (keep4p : Option Addr) (keep4l : Nat) (keep4c : Nat) (w : World) (J : Bool → World → Prop) : Prop :=
  callJ Try.prog fn_law15_awake #[] w [.one .bool] fun (r20 : Bool) (w1 : World) =>
  condB (!r20) (
  J false w1) (
  withJ (fun (x27 : Bool) (w2 : World) =>
  condB x27 (
  J true w2) (
  callJ Try.prog fn_drum_New #[.int .i64 (64 : Int)] w2 [.one .ptr, .one (.int .i64)] fun (r29_0 : Option Addr) (r29_1 : Int) (w3 : World) =>
  withJ (fun (x50 : Bool) (w4 : World) =>
  condB x50 (
  J false w4) (
  (3 : Int) ≠ 0 ∧
  callJ Try.prog fn_drum_Drum_Fuse #[.pointer r29_0, .int .i64 (w64 (Int.tmod (IntKind.u64.wrap fuse3) (3 : Int)))] w4 [.one (.int .i64)] fun (r57 : Int) (w5 : World) =>
  callJ Try.prog fn_sheet_PutHead #[.pointer r29_0, .agg ⟨[.int .i64 (w64 (gen0 + (1 : Int))), .int .u64 b2]⟩] w5 [.one (.int .i64)] fun (r63 : Int) (w6 : World) =>
  callJ Try.prog fn_drum_Drum_Flush #[.pointer r29_0] w6 [.one (.int .i64)] fun (r65 : Int) (w7 : World) =>
  withJ (fun (x85 : Bool) (w8 : World) =>
  condB x85 (
  J false w8) (
  callJ Try.prog fn_sheet_GetHead #[.pointer r29_0] w8 [.agg [.int .i64, .int .u64], .one (.int .i64)] fun (r88_0_0 : Int) (r88_0_1 : Int) (r88_1 : Int) (w9 : World) =>
  newB w9 (.cells (zeroC Try.prog T_sheet_Head) T_sheet_Head) fun b16 w10 =>
  stN w10 ⟨b16, 0, none⟩ ⟨[.int .i64 r88_0_0, .int .u64 r88_0_1]⟩ 2 fun w11 =>
  newB w11 (.cells (zeroC Try.prog T_sheet_Head) T_sheet_Head) fun b18 w12 =>
  newB w12 (.cells (zeroC Try.prog T_sheet_Head) T_sheet_Head) fun b19 w13 =>
  stN w13 ⟨b18, 0, none⟩ ⟨[.int .i64 gen0, .int .u64 a1]⟩ 2 fun w14 =>
  stN w14 ⟨b19, 0, none⟩ ⟨[.int .i64 (w64 (gen0 + (1 : Int))), .int .u64 b2]⟩ 2 fun w15 =>
  withJ (fun (x10 : Bool) (w16 : World) =>
  J x10 w16) fun J_10 =>
  condB (r88_1 == (0 : Int)) (
  ldI .i64 w15 ⟨b16, 0, none⟩ fun x101_0 =>
  ldI .u64 w15 ⟨b16, 1, none⟩ fun x101_1 =>
  ldI .i64 w15 ⟨b19, 0, none⟩ fun x102_0 =>
  ldI .u64 w15 ⟨b19, 1, none⟩ fun x102_1 =>
  condB ((x101_0 == x102_0) && ((x101_1 == x102_1) && true)) (
  J_10 true w15) (
  ldI .i64 w15 ⟨b16, 0, none⟩ fun x105_0 =>
  ldI .u64 w15 ⟨b16, 1, none⟩ fun x105_1 =>
  ldI .i64 w15 ⟨b18, 0, none⟩ fun x106_0 =>
  ldI .u64 w15 ⟨b18, 1, none⟩ fun x106_1 =>
  condB ((x105_0 == x106_0) && ((x105_1 == x106_1) && true)) (
  J_10 (r65 != (0 : Int)) w15) (
  J_10 false w15))) (
  J_10 false w15))) fun J_85 =>
  condB (!((r63 == (0 : Int)) == (decide ((w64 (Int.tmod (IntKind.u64.wrap fuse3) (3 : Int))) > (0 : Int))))) (
  J_85 true w7) (
  condB (!((r65 == (0 : Int)) == (decide ((w64 (Int.tmod (IntKind.u64.wrap fuse3) (3 : Int))) > (1 : Int))))) (
  J_85 true w7) (
  newB w7 (.cells ⟨[]⟩ T_bool) fun b80 w17 =>
  appJ Try.prog T_sl_bool T_sl_bool (.slice (some ⟨b80, 0, none⟩) 0 0) (.slice keep4p keep4l keep4c) w17 fun q82p q82l q82c w18 =>
  callJ Try.prog fn_drum_Drum_Crash #[.pointer r29_0, .slice q82p q82l q82c] w18 [.one (.int .i64)] fun (r83 : Int) (w19 : World) =>
  J_85 (r83 != (0 : Int)) w19)))) fun J_50 =>
  condB (r29_1 != (0 : Int)) (
  J_50 true w3) (
  condB r29_0.isNone (
  J_50 true w3) (
  callJ Try.prog fn_sheet_PutHead #[.pointer r29_0, .agg ⟨[.int .i64 gen0, .int .u64 a1]⟩] w3 [.one (.int .i64)] fun (r43 : Int) (w20 : World) =>
  condB (r43 != (0 : Int)) (
  J_50 true w20) (
  callJ Try.prog fn_drum_Drum_Flush #[.pointer r29_0] w20 [.one (.int .i64)] fun (r48 : Int) (w21 : World) =>
  J_50 (r48 != (0 : Int)) w21))))) fun J_27 =>
  condB (decide (gen0 < (1 : Int))) (
  J_27 true w1) (
  J_27 (decide (gen0 ≥ (4294967295 : Int))) w1))
def ann_law15_SheetLasts : Ann := .s (.o) (.s (.s (.o) (.c (.s (.o) (.o)) (.o))) (.s (.j [(27, .bool)] (.o) (.c (.s (.o) (.o)) (.o))) (.s (.o) (.s (.j [(50, .bool)] (.o) (.c (.s (.o) (.o)) (.o))) (.s (.o) (.s (.o) (.s (.o) (.s (.o) (.s (.j [(85, .bool)] (.o) (.c (.s (.o) (.o)) (.o))) (.s (.o) (.s (.o) (.j [(10, .bool)] (.o) (.o)))))))))))))
theorem eq_law15_SheetLasts (gen0 : Int) (a1 : Int) (b2 : Int) (fuse3 : Int) (keep4p : Option Addr) (keep4l : Nat) (keep4c : Nat) (w : World) (J : Bool → World → Prop) : vcFun Try.prog Try.f8 ann_law15_SheetLasts [.one .bool] [.int .i64 gen0, .int .u64 a1, .int .u64 b2, .int .i64 fuse3, .slice keep4p keep4l keep4c] w J = VC_law15_SheetLasts gen0 a1 b2 fuse3 keep4p keep4l keep4c w J := by kernel_rfl
theorem c_law15_SheetLasts {gen0 : Int} {a1 : Int} {b2 : Int} {fuse3 : Int} {keep4p : Option Addr} {keep4l : Nat} {keep4c : Nat} {w : World} {J : Bool → World → Prop} (h : VC_law15_SheetLasts gen0 a1 b2 fuse3 keep4p keep4l keep4c w J) : callJ Try.prog fn_law15_SheetLasts #[.int .i64 gen0, .int .u64 a1, .int .u64 b2, .int .i64 fuse3, .slice keep4p keep4l keep4c] w [.one .bool] J := vc_calls Try.func8 ann_law15_SheetLasts (Eq.mpr (eq_law15_SheetLasts gen0 a1 b2 fuse3 keep4p keep4l keep4c w J) h)

end Go.Proofs.Ytgplflecgnldeaa
