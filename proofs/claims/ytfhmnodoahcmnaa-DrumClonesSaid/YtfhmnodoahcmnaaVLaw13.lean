/- What the conditions of these functions are, reckoned by the reading; printed by program. -/
import Derived.Test.YtfhmnodoahcmnaaNm
import Derived.KernelRfl
set_option maxRecDepth 100000
set_option linter.unusedVariables false
namespace Go.Proofs.Ytfhmnodoahcmnaa
open Go Go.Vc

/-- lectern/lecternlaw13.awake -/
def VC_law13_awake  (w : World) (J : Bool → World → Prop) : Prop :=
  callJ Try.prog fn_drum_New #[.int .i64 (2 : Int)] w [.one .ptr, .one (.int .i64)] fun (r11_0 : Option Addr) (r11_1 : Int) (w1 : World) =>
  withJ (fun (x19 : Bool) (w2 : World) =>
  condB x19 (
  J false w2) (
  newB w2 (.cells ⟨[.int .u8 (97 : Int)]⟩ T_uint8) fun b21 w3 =>
  cvJ Try.prog T_sl_uint8 T_sl_uint8 (.slice (some ⟨b21, 0, none⟩) 1 1) w3 fun q22p q22l q22c w4 =>
  callJ Try.prog fn_drum_Drum_Write #[.pointer r11_0, .int .i64 (0 : Int), .slice q22p q22l q22c] w4 [.one (.int .i64)] fun (r23 : Int) (w5 : World) =>
  callJ Try.prog fn_drum_Drum_Flush #[.pointer r11_0] w5 [.one (.int .i64)] fun (r25 : Int) (w6 : World) =>
  newB w6 (.cells ⟨[.int .u8 (98 : Int)]⟩ T_uint8) fun b27 w7 =>
  cvJ Try.prog T_sl_uint8 T_sl_uint8 (.slice (some ⟨b27, 0, none⟩) 1 1) w7 fun q28p q28l q28c w8 =>
  callJ Try.prog fn_drum_Drum_Write #[.pointer r11_0, .int .i64 (0 : Int), .slice q28p q28l q28c] w8 [.one (.int .i64)] fun (r29 : Int) (w9 : World) =>
  newB w9 (.cells ⟨[.int .u8 (99 : Int)]⟩ T_uint8) fun b31 w10 =>
  cvJ Try.prog T_sl_uint8 T_sl_uint8 (.slice (some ⟨b31, 0, none⟩) 1 1) w10 fun q32p q32l q32c w11 =>
  callJ Try.prog fn_drum_Drum_Write #[.pointer r11_0, .int .i64 (1 : Int), .slice q32p q32l q32c] w11 [.one (.int .i64)] fun (r33 : Int) (w12 : World) =>
  newB w12 (.cells ⟨[.bool false, .bool true]⟩ T_bool) fun b35 w13 =>
  callJ Try.prog fn_drum_Drum_Crash #[.pointer r11_0, .slice (some ⟨b35, 0, none⟩) 2 2] w13 [.one (.int .i64)] fun (r36 : Int) (w14 : World) =>
  callJ Try.prog fn_drum_Drum_Read #[.pointer r11_0, .int .i64 (0 : Int)] w14 [.one .slice, .one (.int .i64)] fun (r39_0p : Option Addr) (r39_0l : Nat) (r39_0c : Nat) (r39_1 : Int) (w15 : World) =>
  callJ Try.prog fn_drum_Drum_Read #[.pointer r11_0, .int .i64 (1 : Int)] w15 [.one .slice, .one (.int .i64)] fun (r44_0p : Option Addr) (r44_0l : Nat) (r44_0c : Nat) (r44_1 : Int) (w16 : World) =>
  withJ (fun (x0 : Bool) (w17 : World) =>
  J x0 w17) fun J_0 =>
  condB (r23 == (0 : Int)) (
  condB (r25 == (0 : Int)) (
  condB (r36 == (0 : Int)) (
  condB (r39_1 == (0 : Int)) (
  condB (r44_1 == (0 : Int)) (
  condB (((r39_0l : Nat) : Int) == (64 : Int)) (
  idxA r39_0p r39_0l (0 : Int) fun a72 =>
  ldI .u8 w16 ((a72.add ((0 : Int).toNat * 1))) fun x73 =>
  condB (x73 == (97 : Int)) (
  condB (((r44_0l : Nat) : Int) == (64 : Int)) (
  idxA r44_0p r44_0l (0 : Int) fun a83 =>
  ldI .u8 w16 ((a83.add ((0 : Int).toNat * 1))) fun x84 =>
  condB (x84 == (99 : Int)) (
  callJ Try.prog fn_drum_Drum_Steps #[.pointer r11_0] w16 [.one (.int .i64)] fun (r89 : Int) (w18 : World) =>
  J_0 (r89 == (6 : Int)) w18) (
  J_0 false w16)) (
  J_0 false w16)) (
  J_0 false w16)) (
  J_0 false w16)) (
  J_0 false w16)) (
  J_0 false w16)) (
  J_0 false w16)) (
  J_0 false w16)) (
  J_0 false w16))) fun J_19 =>
  condB (r11_1 != (0 : Int)) (
  J_19 true w1) (
  J_19 r11_0.isNone w1)
def ann_law13_awake : Ann := .s (.o) (.s (.o) (.s (.j [(19, .bool)] (.o) (.c (.s (.o) (.o)) (.o))) (.s (.o) (.s (.o) (.s (.o) (.s (.o) (.s (.o) (.s (.o) (.s (.o) (.j [(0, .bool)] (.o) (.o)))))))))))
theorem eq_law13_awake  (w : World) (J : Bool → World → Prop) : vcFun Try.prog Try.f14 ann_law13_awake [.one .bool] [] w J = VC_law13_awake  w J := by kernel_rfl
theorem c_law13_awake {w : World} {J : Bool → World → Prop} (h : VC_law13_awake  w J) : callJ Try.prog fn_law13_awake #[] w [.one .bool] J := vc_calls Try.func14 ann_law13_awake (Eq.mpr (eq_law13_awake  w J) h)

/-- lectern/lecternlaw13.plays -/
def VC_law13_plays (d0 : Option Addr) (r1 : Option Addr) (o2_0 : Int) (o2_1 : Int) (o2_2p : Option Addr) (o2_2l : Nat) (o2_2c : Nat) (o2_3p : Option Addr) (o2_3l : Nat) (o2_3c : Nat) (w : World) (J : Bool → World → Prop) : Prop :=
  newB w (.cells ⟨[.int .i64 o2_0, .int .i64 o2_1, .slice o2_2p o2_2l o2_2c, .slice o2_3p o2_3l o2_3c]⟩ T_law13_Op) fun b5 w1 =>
  withJ (fun (w2 : World) =>
  withJ (fun (x6 : Bool) (w3 : World) =>
  J x6 w3) fun J_6 =>
  nonNil r1 fun a137 =>
  ldS w2.drew ((a137.add 1)) fun x139p x139l x139c =>
  callJ Try.prog fn_drum_Drum_Loose #[.pointer d0] w2.drew [.one (.int .i64)] fun (r135 : Int) (w4 : World) =>
  w4.cell? ((a137.add 1)) = some (.slice x139p x139l x139c) ∧
  condB (r135 == ((x139l : Nat) : Int)) (
  nonNil r1 fun a146 =>
  ldI .i64 w4 ((a146.add 2)) fun x148 =>
  callJ Try.prog fn_drum_Drum_Steps #[.pointer d0] w4 [.one (.int .i64)] fun (r144 : Int) (w5 : World) =>
  w5.cell? ((a146.add 2)) = some (.int .i64 x148) ∧
  condB (r144 == x148) (
  nonNil r1 fun a155 =>
  ldB w5 ((a155.add 4)) fun x157 =>
  callJ Try.prog fn_drum_Drum_Down #[.pointer d0] w5 [.one .bool] fun (r153 : Bool) (w6 : World) =>
  w6.cell? ((a155.add 4)) = some (.bool x157) ∧
  condB (r153 == x157) (
  nonNil r1 fun a164 =>
  ldS w6 a164 fun x166p x166l x166c =>
  callJ Try.prog fn_drum_Drum_Sectors #[.pointer d0] w6 [.one (.int .i64)] fun (r162 : Int) (w7 : World) =>
  w7.cell? a164 = some (.slice x166p x166l x166c) ∧
  J_6 (r162 == ((x166l : Nat) : Int)) w7) (
  J_6 false w6)) (
  J_6 false w5)) (
  J_6 false w4)) fun J_0 =>
  ldI .i64 w1 ⟨b5, 0, none⟩ fun x16 =>
  condB (x16 == (0 : Int)) (
  ldI .i64 w1 ⟨b5, 1, none⟩ fun x22 =>
  callJ Try.prog fn_drum_Drum_Read #[.pointer d0, .int .i64 x22] w1 [.one .slice, .one (.int .i64)] fun (r23_0p : Option Addr) (r23_0l : Nat) (r23_0c : Nat) (r23_1 : Int) (w8 : World) =>
  ldI .i64 w8 ⟨b5, 1, none⟩ fun x29 =>
  callJ Try.prog fn_ref13_Drum_Read #[.pointer r1, .int .i64 x29] w8 [.one .slice, .one (.int .i64)] fun (r30_0p : Option Addr) (r30_0l : Nat) (r30_0c : Nat) (r30_1 : Int) (w9 : World) =>
  withJ (fun (x41 : Bool) (w10 : World) =>
  condB x41 (
  J false w10) (
  ∃ I_44 : Int → World → Nat → Prop, (∃ m : Nat, I_44 (0 : Int) w10 m) ∧ ∀ (x44 : Int) (w11 : World) (m : Nat), I_44 x44 w11 m → (
  condB (decide (x44 < ((r23_0l : Nat) : Int))) (
  idxA r23_0p r23_0l x44 fun a49 =>
  stV w11 ((a49.add (x44.toNat * 1))) (.int .u8 (7 : Int)) fun w12 =>
  ∃ m' : Nat, m' < m ∧ I_44 (w64 (x44 + (1 : Int))) w12 m') (
  J_0 w11)))) fun J_41 =>
  condB (r23_1 != r30_1) (
  J_41 true w9) (
  callJ Try.prog fn_ref01_Same #[.slice r23_0p r23_0l r23_0c, .slice r30_0p r30_0l r30_0c] w9 [.one .bool] fun (r39 : Bool) (w13 : World) =>
  J_41 (!r39) w13)) (
  condB (x16 == (1 : Int)) (
  ldS w1 ⟨b5, 2, none⟩ fun x54p x54l x54c =>
  callJ Try.prog fn_ref01_Spare #[.slice x54p x54l x54c] w1 [.one .slice] fun (r55p : Option Addr) (r55l : Nat) (r55c : Nat) (w14 : World) =>
  withJ (fun (x75 : Bool) (w15 : World) =>
  condB x75 (
  J false w15) (
  ∃ I_78 : Int → World → Nat → Prop, (∃ m : Nat, I_78 (0 : Int) w15 m) ∧ ∀ (x78 : Int) (w16 : World) (m_1 : Nat), I_78 x78 w16 m_1 → (
  condB (decide (x78 < ((r55l : Nat) : Int))) (
  idxA r55p r55l x78 fun a83 =>
  stV w16 ((a83.add (x78.toNat * 1))) (.int .u8 (9 : Int)) fun w17 =>
  ∃ m' : Nat, m' < m_1 ∧ I_78 (w64 (x78 + (1 : Int))) w17 m') (
  J_0 w16)))) fun J_75 =>
  ldI .i64 w14.drew ⟨b5, 1, none⟩ fun x58 =>
  ldI .i64 w14.drew ⟨b5, 1, none⟩ fun x63 =>
  ldS w14.drew ⟨b5, 2, none⟩ fun x65p x65l x65c =>
  callJ Try.prog fn_drum_Drum_Write #[.pointer d0, .int .i64 x58, .slice r55p r55l r55c] w14.drew [.one (.int .i64)] fun (r60 : Int) (w18 : World) =>
  w18.cell? ⟨b5, 2, none⟩ = some (.slice x65p x65l x65c) ∧
  w18.cell? ⟨b5, 1, none⟩ = some (.int .i64 x63) ∧
  callJ Try.prog fn_ref01_Twin #[.slice x65p x65l x65c] w18 [.one .slice] fun (r66p : Option Addr) (r66l : Nat) (r66c : Nat) (w19 : World) =>
  w19.cell? ⟨b5, 1, none⟩ = some (.int .i64 x63) ∧
  callJ Try.prog fn_ref13_Drum_Write #[.pointer r1, .int .i64 x63, .slice r66p r66l r66c] w19 [.one (.int .i64)] fun (r67 : Int) (w20 : World) =>
  condB (r60 != r67) (
  J_75 true w20) (
  ldS w20 ⟨b5, 2, none⟩ fun x72p x72l x72c =>
  callJ Try.prog fn_ref01_Kept #[.slice r55p r55l r55c, .slice x72p x72l x72c] w20 [.one .bool] fun (r73 : Bool) (w21 : World) =>
  J_75 (!r73) w21)) (
  condB (x16 == (2 : Int)) (
  callJ Try.prog fn_drum_Drum_Flush #[.pointer d0] w1 [.one (.int .i64)] fun (r88 : Int) (w22 : World) =>
  callJ Try.prog fn_ref13_Drum_Flush #[.pointer r1] w22 [.one (.int .i64)] fun (r90 : Int) (w23 : World) =>
  condB (r88 != r90) (
  J false w23) (
  J_0 w23)) (
  condB (x16 == (3 : Int)) (
  ldI .i64 w1 ⟨b5, 1, none⟩ fun x96 =>
  callJ Try.prog fn_drum_Drum_Fuse #[.pointer d0, .int .i64 x96] w1 [.one (.int .i64)] fun (r97 : Int) (w24 : World) =>
  withJ (fun (x112 : Bool) (w25 : World) =>
  condB x112 (
  J false w25) (
  ldI .i64 w25 ⟨b5, 1, none⟩ fun x114 =>
  condB (decide (x114 ≥ (0 : Int))) (
  ldI .i64 w25 ⟨b5, 1, none⟩ fun x118 =>
  nonNil r1 fun a119 =>
  stV w25 ((a119.add 3)) (.int .i64 x118) fun w26 =>
  J_0 w26) (
  J_0 w25))) fun J_112 =>
  ldI .i64 w24 ⟨b5, 1, none⟩ fun x101 =>
  condB (!((r97 == (1 : Int)) == (decide (x101 < (0 : Int))))) (
  J_112 true w24) (
  ldI .i64 w24 ⟨b5, 1, none⟩ fun x106 =>
  condB (decide (x106 ≥ (0 : Int))) (
  J_112 (r97 != (0 : Int)) w24) (
  J_112 false w24))) (
  condB (x16 == (4 : Int)) (
  newB w1 (.cells ⟨[]⟩ T_bool) fun b124 w27 =>
  ldS w27 ⟨b5, 3, none⟩ fun x126p x126l x126c =>
  appJ Try.prog T_sl_bool T_sl_bool (.slice (some ⟨b124, 0, none⟩) 0 0) (.slice x126p x126l x126c) w27 fun q127p q127l q127c w28 =>
  callJ Try.prog fn_drum_Drum_Crash #[.pointer d0, .slice q127p q127l q127c] w28 [.one (.int .i64)] fun (r128 : Int) (w29 : World) =>
  condB (r128 != (0 : Int)) (
  J false w29) (
  ldS w29 ⟨b5, 3, none⟩ fun x132p x132l x132c =>
  callJ Try.prog fn_ref13_Drum_Crash #[.pointer r1, .slice x132p x132l x132c] w29 [] fun (w30 : World) =>
  J_0 w30)) (
  J_0 w1)))))
def ann_law13_plays : Ann := .s (.o) (.j [] (.s (.o) (.b (.s (.o) (.c (.s (.o) (.s (.o) (.s (.j [(41, .bool)] (.o) (.c (.s (.o) (.o)) (.o))) (.s (.o) (.b (.l [(44, .int .i64)] (.s (.o) (.s (.c (.o) (.o)) (.s (.b (.s (.o) (.o))) (.o)))))))))) (.s (.o) (.c (.s (.o) (.s (.j [(75, .bool)] (.d (.take 0 (.take 1 (.take 2 (.take 3 (.take 5 (.take 6 (.take 7 (.take 8 (.take 9 (.eff 4 (.eff 10 (.eff 11 (.take 12 (.take 13 (.take 14 (.take 15 (.take 16 (.eff 17 (.take 18 (.take 19 (.done))) (.none))))))) (.none)) (.none)) (.none)))))))))))) (.c (.s (.o) (.o)) (.o))) (.s (.o) (.b (.l [(78, .int .i64)] (.s (.o) (.s (.c (.o) (.o)) (.s (.b (.s (.o) (.o))) (.o))))))))) (.s (.o) (.c (.s (.o) (.c (.s (.o) (.o)) (.o))) (.s (.o) (.c (.s (.o) (.s (.j [(112, .bool)] (.o) (.c (.s (.o) (.o)) (.o))) (.s (.o) (.c (.o) (.o))))) (.s (.o) (.c (.s (.s (.o) (.c (.s (.o) (.o)) (.o))) (.o)) (.o))))))))))))) (.j [(6, .bool)] (.d (.take 0 (.take 2 (.take 3 (.take 4 (.take 5 (.take 6 (.eff 1 (.take 7 (.take 8 (.take 9 (.take 11 (.take 12 (.take 13 (.take 14 (.eff 10 (.take 15 (.take 16 (.take 17 (.take 18 (.take 20 (.take 21 (.take 22 (.take 23 (.eff 19 (.take 24 (.take 25 (.take 26 (.take 27 (.take 29 (.take 30 (.take 31 (.take 32 (.take 33 (.eff 28 (.take 34 (.take 35 (.take 36 (.done)))) (.none))))))))))) (.none)))))))))) (.none))))))))) (.none))))))))) (.o)))
theorem eq_law13_plays (d0 : Option Addr) (r1 : Option Addr) (o2_0 : Int) (o2_1 : Int) (o2_2p : Option Addr) (o2_2l : Nat) (o2_2c : Nat) (o2_3p : Option Addr) (o2_3l : Nat) (o2_3c : Nat) (w : World) (J : Bool → World → Prop) : vcFun Try.prog Try.f28 ann_law13_plays [.one .bool] [.pointer d0, .pointer r1, .agg ⟨[.int .i64 o2_0, .int .i64 o2_1, .slice o2_2p o2_2l o2_2c, .slice o2_3p o2_3l o2_3c]⟩] w J = VC_law13_plays d0 r1 o2_0 o2_1 o2_2p o2_2l o2_2c o2_3p o2_3l o2_3c w J := by kernel_rfl
theorem c_law13_plays {d0 : Option Addr} {r1 : Option Addr} {o2_0 : Int} {o2_1 : Int} {o2_2p : Option Addr} {o2_2l : Nat} {o2_2c : Nat} {o2_3p : Option Addr} {o2_3l : Nat} {o2_3c : Nat} {w : World} {J : Bool → World → Prop} (h : VC_law13_plays d0 r1 o2_0 o2_1 o2_2p o2_2l o2_2c o2_3p o2_3l o2_3c w J) : callJ Try.prog fn_law13_plays #[.pointer d0, .pointer r1, .agg ⟨[.int .i64 o2_0, .int .i64 o2_1, .slice o2_2p o2_2l o2_2c, .slice o2_3p o2_3l o2_3c]⟩] w [.one .bool] J := vc_calls Try.func28 ann_law13_plays (Eq.mpr (eq_law13_plays d0 r1 o2_0 o2_1 o2_2p o2_2l o2_2c o2_3p o2_3l o2_3c w J) h)

/-- lectern/lecternlaw13.DrumNil -/
def VC_law13_DrumNil (n0 : Int) (p1p : Option Addr) (p1l : Nat) (p1c : Nat) (keep2p : Option Addr) (keep2l : Nat) (keep2c : Nat) (w : World) (J : Bool → World → Prop) : Prop :=
  callJ Try.prog fn_law13_awake #[] w [.one .bool] fun (r10 : Bool) (w1 : World) =>
  condB (!r10) (
  J false w1) (
  callJ Try.prog fn_drum_Drum_Read #[.pointer none, .int .i64 n0] w1 [.one .slice, .one (.int .i64)] fun (r15_0p : Option Addr) (r15_0l : Nat) (r15_0c : Nat) (r15_1 : Int) (w2 : World) =>
  withJ (fun (x6 : Bool) (w3 : World) =>
  J x6 w3) fun J_6 =>
  condB (((r15_0l : Nat) : Int) == (0 : Int)) (
  condB (r15_1 == (2 : Int)) (
  callJ Try.prog fn_drum_Drum_Write #[.pointer none, .int .i64 n0, .slice p1p p1l p1c] w2 [.one (.int .i64)] fun (r29 : Int) (w4 : World) =>
  condB (r29 == (2 : Int)) (
  callJ Try.prog fn_drum_Drum_Flush #[.pointer none] w4 [.one (.int .i64)] fun (r34 : Int) (w5 : World) =>
  condB (r34 == (2 : Int)) (
  callJ Try.prog fn_drum_Drum_Fuse #[.pointer none, .int .i64 n0] w5 [.one (.int .i64)] fun (r40 : Int) (w6 : World) =>
  condB (r40 == (2 : Int)) (
  callJ Try.prog fn_drum_Drum_Crash #[.pointer none, .slice keep2p keep2l keep2c] w6 [.one (.int .i64)] fun (r46 : Int) (w7 : World) =>
  condB (r46 == (2 : Int)) (
  callJ Try.prog fn_drum_Drum_Loose #[.pointer none] w7 [.one (.int .i64)] fun (r51 : Int) (w8 : World) =>
  callJ Try.prog fn_drum_Drum_Steps #[.pointer none] w8 [.one (.int .i64)] fun (r53 : Int) (w9 : World) =>
  callJ Try.prog fn_drum_Drum_Sectors #[.pointer none] w9 [.one (.int .i64)] fun (r56 : Int) (w10 : World) =>
  condB ((w64 ((w64 (r51 + r53)) + r56)) == (0 : Int)) (
  callJ Try.prog fn_drum_Drum_Down #[.pointer none] w10 [.one .bool] fun (r62 : Bool) (w11 : World) =>
  condB (!r62) (
  callJ Try.prog fn_drum_Drum_Clone #[.pointer none] w11 [.one .ptr] fun (r67 : Option Addr) (w12 : World) =>
  J_6 r67.isNone w12) (
  J_6 false w11)) (
  J_6 false w10)) (
  J_6 false w7)) (
  J_6 false w6)) (
  J_6 false w5)) (
  J_6 false w4)) (
  J_6 false w2)) (
  J_6 false w2))
def ann_law13_DrumNil : Ann := .s (.o) (.s (.s (.o) (.c (.s (.o) (.o)) (.o))) (.s (.o) (.s (.o) (.j [(6, .bool)] (.o) (.o)))))
theorem eq_law13_DrumNil (n0 : Int) (p1p : Option Addr) (p1l : Nat) (p1c : Nat) (keep2p : Option Addr) (keep2l : Nat) (keep2c : Nat) (w : World) (J : Bool → World → Prop) : vcFun Try.prog Try.f7 ann_law13_DrumNil [.one .bool] [.int .i64 n0, .slice p1p p1l p1c, .slice keep2p keep2l keep2c] w J = VC_law13_DrumNil n0 p1p p1l p1c keep2p keep2l keep2c w J := by kernel_rfl
theorem c_law13_DrumNil {n0 : Int} {p1p : Option Addr} {p1l : Nat} {p1c : Nat} {keep2p : Option Addr} {keep2l : Nat} {keep2c : Nat} {w : World} {J : Bool → World → Prop} (h : VC_law13_DrumNil n0 p1p p1l p1c keep2p keep2l keep2c w J) : callJ Try.prog fn_law13_DrumNil #[.int .i64 n0, .slice p1p p1l p1c, .slice keep2p keep2l keep2c] w [.one .bool] J := vc_calls Try.func7 ann_law13_DrumNil (Eq.mpr (eq_law13_DrumNil n0 p1p p1l p1c keep2p keep2l keep2c w J) h)

/-- lectern/lecternlaw13.DrumStands -/
def VC_law13_DrumStands (ops0p : Option Addr) (ops0l : Nat) (ops0c : Nat) (more1p : Option Addr) (more1l : Nat) (more1c : Nat) (keep2p : Option Addr) (keep2l : Nat) (keep2c : Nat) (w : World) (J : Bool → World → Prop) : Prop :=
  callJ Try.prog fn_law13_awake #[] w [.one .bool] fun (r24 : Bool) (w1 : World) =>
  condB (!r24) (
  J false w1) (
  callJ Try.prog fn_drum_New #[.int .i64 (8 : Int)] w1 [.one .ptr, .one (.int .i64)] fun (r27_0 : Option Addr) (r27_1 : Int) (w2 : World) =>
  withJ (fun (x35 : Bool) (w3 : World) =>
  condB x35 (
  J false w3) (
  ∃ I_38 : Int → World → Nat → Prop, (∃ m : Nat, I_38 (0 : Int) w3 m) ∧ ∀ (x38 : Int) (w4 : World) (m : Nat), I_38 x38 w4 m → (
  condB (decide (x38 < ((ops0l : Nat) : Int))) (
  withJ (fun (w5 : World) =>
  ∃ m' : Nat, m' < m ∧ I_38 (w64 (x38 + (1 : Int))) w5 m') fun J_0 =>
  idxA ops0p ops0l x38 fun a41 =>
  ldI .i64 w4 ((a41.add (x38.toNat * 4))) fun x42_0 =>
  ldI .i64 w4 (((a41.add (x38.toNat * 4)).add 1)) fun x42_1 =>
  ldS w4 (((a41.add (x38.toNat * 4)).add 2)) fun x42_2p x42_2l x42_2c =>
  ldS w4 (((a41.add (x38.toNat * 4)).add 3)) fun x42_3p x42_3l x42_3c =>
  newB w4 (.cells (zeroC Try.prog T_law13_Op) T_law13_Op) fun b10 w6 =>
  stN w6 ⟨b10, 0, none⟩ ⟨[.int .i64 x42_0, .int .i64 x42_1, .slice x42_2p x42_2l x42_2c, .slice x42_3p x42_3l x42_3c]⟩ 4 fun w7 =>
  withJ (fun (x49 : Bool) (w8 : World) =>
  condB x49 (
  ldI .i64 w8.drew ⟨b10, 1, none⟩ fun x52 =>
  ldS w8.drew ⟨b10, 2, none⟩ fun x54p x54l x54c =>
  callJ Try.prog fn_ref01_Twin #[.slice x54p x54l x54c] w8.drew [.one .slice] fun (r55p : Option Addr) (r55l : Nat) (r55c : Nat) (w9 : World) =>
  w9.cell? ⟨b10, 1, none⟩ = some (.int .i64 x52) ∧
  callJ Try.prog fn_drum_Drum_Write #[.pointer r27_0, .int .i64 x52, .slice r55p r55l r55c] w9 [.one (.int .i64)] fun (r56 : Int) (w10 : World) =>
  J_0 w10) (
  J_0 w8)) fun J_49 =>
  ldI .i64 w7 ⟨b10, 0, none⟩ fun x44 =>
  condB (x44 == (1 : Int)) (
  J_49 (decide (x38 < (200 : Int))) w7) (
  J_49 false w7)) (
  newB w4 (.cells (zeroC Try.prog T_8_sl_uint8) T_8_sl_uint8) fun b11 w11 =>
  ∃ I_58 : Int → World → Nat → Prop, (∃ m : Nat, I_58 (0 : Int) w11 m) ∧ ∀ (x58 : Int) (w12 : World) (m_1 : Nat), I_58 x58 w12 m_1 → (
  condB (decide (x58 < (8 : Int))) (
  callJ Try.prog fn_drum_Drum_Read #[.pointer r27_0, .int .i64 x58] w12 [.one .slice, .one (.int .i64)] fun (r65_0p : Option Addr) (r65_0l : Nat) (r65_0c : Nat) (r65_1 : Int) (w13 : World) =>
  idxA (some ⟨b11, 0, none⟩) 8 x58 fun a68 =>
  stV w13 ((a68.add (x58.toNat * 1))) (.slice r65_0p r65_0l r65_0c) fun w14 =>
  ∃ m' : Nat, m' < m_1 ∧ I_58 (w64 (x58 + (1 : Int))) w14 m') (
  withJ (fun (x77 : Bool) (w15 : World) =>
  condB x77 (
  J false w15) (
  newB w15 (.cells (zeroC Try.prog T_8_sl_sl_uint8) T_8_sl_sl_uint8) fun b13 w16 =>
  ∃ I_80 : Int → World → Nat → Prop, (∃ m : Nat, I_80 (0 : Int) w16 m) ∧ ∀ (x80 : Int) (w17 : World) (m_2 : Nat), I_80 x80 w17 m_2 → (
  condB (decide (x80 < ((more1l : Nat) : Int))) (
  withJ (fun (w18 : World) =>
  ∃ m' : Nat, m' < m_2 ∧ I_80 (w64 (x80 + (1 : Int))) w18 m') fun J_0_1 =>
  idxA more1p more1l x80 fun a83 =>
  ldI .i64 w17 ((a83.add (x80.toNat * 4))) fun x84_0 =>
  ldI .i64 w17 (((a83.add (x80.toNat * 4)).add 1)) fun x84_1 =>
  ldS w17 (((a83.add (x80.toNat * 4)).add 2)) fun x84_2p x84_2l x84_2c =>
  ldS w17 (((a83.add (x80.toNat * 4)).add 3)) fun x84_3p x84_3l x84_3c =>
  newB w17 (.cells (zeroC Try.prog T_law13_Op) T_law13_Op) fun b15 w19 =>
  stN w19 ⟨b15, 0, none⟩ ⟨[.int .i64 x84_0, .int .i64 x84_1, .slice x84_2p x84_2l x84_2c, .slice x84_3p x84_3l x84_3c]⟩ 4 fun w20 =>
  withJ (fun (x96 : Bool) (w21 : World) =>
  condB x96 (
  ldI .i64 w21 ⟨b15, 1, none⟩ fun x100 =>
  callJ Try.prog fn_drum_Drum_Read #[.pointer r27_0, .int .i64 x100] w21 [.one .slice, .one (.int .i64)] fun (r101_0p : Option Addr) (r101_0l : Nat) (r101_0c : Nat) (r101_1 : Int) (w22 : World) =>
  withJ (fun (x115 : Bool) (w23 : World) =>
  condB x115 (
  J false w23) (
  ldI .i64 w23.drew ⟨b15, 1, none⟩ fun x117 =>
  ldI .i64 w23.drew ⟨b15, 1, none⟩ fun x119 =>
  idxA (some ⟨b13, 0, none⟩) 8 x119 fun a120 =>
  ldS w23.drew ((a120.add (x119.toNat * 1))) fun x121p x121l x121c =>
  newB w23.drew (.cells ⟨[.slice r101_0p r101_0l r101_0c]⟩ T_sl_uint8) fun b123 w24 =>
  w24.cell? ((a120.add (x119.toNat * 1))) = some (.slice x121p x121l x121c) ∧
  w24.cell? ⟨b15, 1, none⟩ = some (.int .i64 x119) ∧
  w24.cell? ⟨b15, 1, none⟩ = some (.int .i64 x117) ∧
  appJ Try.prog T_sl_sl_uint8 T_sl_sl_uint8 (.slice x121p x121l x121c) (.slice (some ⟨b123, 0, none⟩) 1 1) w24 fun q124p q124l q124c w25 =>
  w25.cell? ⟨b15, 1, none⟩ = some (.int .i64 x117) ∧
  idxA (some ⟨b13, 0, none⟩) 8 x117 fun a125 =>
  stV w25 ((a125.add (x117.toNat * 1))) (.slice q124p q124l q124c) fun w26 =>
  J_0_1 w26)) fun J_115 =>
  condB (r101_1 != (0 : Int)) (
  J_115 true w22) (
  ldI .i64 w22 ⟨b15, 1, none⟩ fun x108 =>
  condB (decide (x108 < (0 : Int))) (
  J_115 true w22) (
  ldI .i64 w22 ⟨b15, 1, none⟩ fun x113 =>
  J_115 (decide (x113 > (7 : Int))) w22))) (
  J_0_1 w21)) fun J_96 =>
  condB (decide (x80 < (200 : Int))) (
  ldI .i64 w20.drew ⟨b15, 1, none⟩ fun x90 =>
  ldS w20.drew ⟨b15, 2, none⟩ fun x92p x92l x92c =>
  callJ Try.prog fn_ref01_Twin #[.slice x92p x92l x92c] w20.drew [.one .slice] fun (r93p : Option Addr) (r93l : Nat) (r93c : Nat) (w27 : World) =>
  w27.cell? ⟨b15, 1, none⟩ = some (.int .i64 x90) ∧
  callJ Try.prog fn_drum_Drum_Write #[.pointer r27_0, .int .i64 x90, .slice r93p r93l r93c] w27 [.one (.int .i64)] fun (r94 : Int) (w28 : World) =>
  J_96 (r94 == (0 : Int)) w28) (
  J_96 false w20.drew)) (
  newB w17 (.cells ⟨[]⟩ T_bool) fun b128 w29 =>
  appJ Try.prog T_sl_bool T_sl_bool (.slice (some ⟨b128, 0, none⟩) 0 0) (.slice keep2p keep2l keep2c) w29 fun q130p q130l q130c w30 =>
  callJ Try.prog fn_drum_Drum_Crash #[.pointer r27_0, .slice q130p q130l q130c] w30 [.one (.int .i64)] fun (r131 : Int) (w31 : World) =>
  condB (r131 != (0 : Int)) (
  J false w31) (
  ∃ I_133 : Int → World → Nat → Prop, (∃ m : Nat, I_133 (0 : Int) w31 m) ∧ ∀ (x133 : Int) (w32 : World) (m_3 : Nat), I_133 x133 w32 m_3 → (
  condB (decide (x133 < (8 : Int))) (
  callJ Try.prog fn_drum_Drum_Read #[.pointer r27_0, .int .i64 x133] w32 [.one .slice, .one (.int .i64)] fun (r139_0p : Option Addr) (r139_0l : Nat) (r139_0c : Nat) (r139_1 : Int) (w33 : World) =>
  withJ (fun (ok21 : Bool) (w34 : World) =>
  idxA (some ⟨b13, 0, none⟩) 8 x133 fun a157 =>
  ldS w34 ((a157.add (x133.toNat * 1))) fun x158p x158l x158c =>
  ∃ I_21 : Bool → Int → World → Nat → Prop, (∃ m : Nat, I_21 ok21 (0 : Int) w34 m) ∧ ∀ (ok21_1 : Bool) (x160 : Int) (w35 : World) (m_4 : Nat), I_21 ok21_1 x160 w35 m_4 → (
  condB (decide (x160 < ((x158l : Nat) : Int))) (
  withJ (fun (ok21_2 : Bool) (w36 : World) =>
  ∃ m' : Nat, m' < m_4 ∧ I_21 ok21_2 (w64 (x160 + (1 : Int))) w36 m') fun J_21_1 =>
  idxA x158p x158l x160 fun a162 =>
  ldS w35 ((a162.add (x160.toNat * 1))) fun x163p x163l x163c =>
  condB ok21_1 (
  J_21_1 true w35) (
  callJ Try.prog fn_ref01_Same #[.slice r139_0p r139_0l r139_0c, .slice x163p x163l x163c] w35 [.one .bool] fun (r168 : Bool) (w37 : World) =>
  J_21_1 r168 w37)) (
  condB (!ok21_1) (
  J false w35) (
  ∃ m' : Nat, m' < m_3 ∧ I_133 (w64 (x133 + (1 : Int))) w35 m')))) fun J_21 =>
  condB (r139_1 == (0 : Int)) (
  condB (((r139_0l : Nat) : Int) == (64 : Int)) (
  idxA (some ⟨b11, 0, none⟩) 8 x133 fun a152 =>
  ldS w33 ((a152.add (x133.toNat * 1))) fun x153p x153l x153c =>
  callJ Try.prog fn_ref01_Same #[.slice r139_0p r139_0l r139_0c, .slice x153p x153l x153c] w33 [.one .bool] fun (r154 : Bool) (w38 : World) =>
  J_21 r154 w38) (
  J_21 false w33)) (
  J_21 false w33)) (
  J true w32))))))) fun J_77 =>
  callJ Try.prog fn_drum_Drum_Flush #[.pointer r27_0] w12 [.one (.int .i64)] fun (r71 : Int) (w39 : World) =>
  condB (r71 != (0 : Int)) (
  J_77 true w39) (
  callJ Try.prog fn_drum_Drum_Loose #[.pointer r27_0] w39 [.one (.int .i64)] fun (r75 : Int) (w40 : World) =>
  J_77 (r75 != (0 : Int)) w40))))))) fun J_35 =>
  condB r27_0.isNone (
  J_35 true w2) (
  J_35 (r27_1 != (0 : Int)) w2))
def ann_law13_DrumStands : Ann := .s (.o) (.s (.s (.o) (.c (.s (.o) (.o)) (.o))) (.s (.o) (.s (.j [(35, .bool)] (.o) (.c (.s (.o) (.o)) (.o))) (.s (.s (.o) (.b (.l [(38, .int .i64)] (.s (.o) (.s (.c (.o) (.o)) (.j [] (.b (.s (.o) (.j [(49, .bool)] (.o) (.c (.d (.take 0 (.take 1 (.take 2 (.take 3 (.take 4 (.eff 5 (.eff 6 (.done) (.none)) (.none)))))))) (.o))))) (.o))))))) (.s (.o) (.s (.s (.o) (.b (.l [(58, .int .i64)] (.s (.o) (.s (.c (.o) (.o)) (.s (.b (.s (.o) (.o))) (.o))))))) (.s (.j [(77, .bool)] (.o) (.c (.s (.o) (.o)) (.o))) (.s (.o) (.s (.s (.o) (.b (.l [(80, .int .i64)] (.s (.o) (.s (.c (.o) (.o)) (.j [] (.b (.s (.o) (.j [(96, .bool)] (.d (.take 0 (.take 1 (.take 2 (.take 3 (.take 4 (.take 5 (.take 6 (.take 7 (.eff 8 (.eff 9 (.take 10 (.take 11 (.done))) (.none)) (.none))))))))))) (.c (.s (.o) (.s (.j [(115, .bool)] (.o) (.c (.s (.o) (.o)) (.o))) (.d (.take 0 (.take 1 (.take 2 (.take 3 (.take 4 (.take 5 (.take 6 (.eff 7 (.eff 8 (.take 9 (.eff 10 (.done) (.none))) (.none)) (.none)))))))))))) (.o))))) (.o))))))) (.s (.s (.o) (.c (.s (.o) (.o)) (.o))) (.s (.s (.o) (.b (.l [(133, .int .i64)] (.s (.o) (.s (.c (.o) (.o)) (.s (.b (.s (.o) (.s (.o) (.j [(21, .bool)] (.o) (.s (.s (.o) (.b (.l [(21, .bool), (160, .int .i64)] (.s (.o) (.s (.c (.o) (.o)) (.j [(21, .bool)] (.b (.s (.o) (.o))) (.o))))))) (.s (.o) (.c (.s (.o) (.o)) (.o)))))))) (.o))))))) (.s (.o) (.o)))))))))))))
theorem eq_law13_DrumStands (ops0p : Option Addr) (ops0l : Nat) (ops0c : Nat) (more1p : Option Addr) (more1l : Nat) (more1c : Nat) (keep2p : Option Addr) (keep2l : Nat) (keep2c : Nat) (w : World) (J : Bool → World → Prop) : vcFun Try.prog Try.f3 ann_law13_DrumStands [.one .bool] [.slice ops0p ops0l ops0c, .slice more1p more1l more1c, .slice keep2p keep2l keep2c] w J = VC_law13_DrumStands ops0p ops0l ops0c more1p more1l more1c keep2p keep2l keep2c w J := by kernel_rfl
theorem c_law13_DrumStands {ops0p : Option Addr} {ops0l : Nat} {ops0c : Nat} {more1p : Option Addr} {more1l : Nat} {more1c : Nat} {keep2p : Option Addr} {keep2l : Nat} {keep2c : Nat} {w : World} {J : Bool → World → Prop} (h : VC_law13_DrumStands ops0p ops0l ops0c more1p more1l more1c keep2p keep2l keep2c w J) : callJ Try.prog fn_law13_DrumStands #[.slice ops0p ops0l ops0c, .slice more1p more1l more1c, .slice keep2p keep2l keep2c] w [.one .bool] J := vc_calls Try.func3 ann_law13_DrumStands (Eq.mpr (eq_law13_DrumStands ops0p ops0l ops0c more1p more1l more1c keep2p keep2l keep2c w J) h)

/-- lectern/lecternlaw13.DrumFuses -/
def VC_law13_DrumFuses (ops0p : Option Addr) (ops0l : Nat) (ops0c : Nat) (n1 : Int) (w : World) (J : Bool → World → Prop) : Prop :=
  callJ Try.prog fn_law13_awake #[] w [.one .bool] fun (r15 : Bool) (w1 : World) =>
  condB (!r15) (
  J false w1) (
  callJ Try.prog fn_drum_New #[.int .i64 (8 : Int)] w1 [.one .ptr, .one (.int .i64)] fun (r18_0 : Option Addr) (r18_1 : Int) (w2 : World) =>
  withJ (fun (x26 : Bool) (w3 : World) =>
  condB x26 (
  J false w3) (
  (40 : Int) ≠ 0 ∧
  withJ (fun (x39 : Bool) (w4 : World) =>
  condB x39 (
  J false w4) (
  withJ (fun (done8 : Int) (w5 : World) =>
  callJ Try.prog fn_drum_Drum_Steps #[.pointer r18_0] w5 [.one (.int .i64)] fun (r104 : Int) (w6 : World) =>
  condB (r104 != done8) (
  J false w6) (
  callJ Try.prog fn_drum_Drum_Crash #[.pointer r18_0, .slice none 0 0] w6 [.one (.int .i64)] fun (r108 : Int) (w7 : World) =>
  callJ Try.prog fn_drum_Drum_Read #[.pointer r18_0, .int .i64 (0 : Int)] w7 [.one .slice, .one (.int .i64)] fun (r111_0p : Option Addr) (r111_0l : Nat) (r111_0c : Nat) (r111_1 : Int) (w8 : World) =>
  withJ (fun (x4 : Bool) (w9 : World) =>
  J x4 w9) fun J_4 =>
  condB (r108 == (0 : Int)) (
  condB (r111_1 == (0 : Int)) (
  callJ Try.prog fn_drum_Drum_Down #[.pointer r18_0] w8 [.one .bool] fun (r122 : Bool) (w10 : World) =>
  condB (!r122) (
  condB (((r111_0l : Nat) : Int) == (64 : Int)) (
  callJ Try.prog fn_drum_Drum_Steps #[.pointer r18_0] w10 [.one (.int .i64)] fun (r132 : Int) (w11 : World) =>
  J_4 (r132 == (w64 (done8 + (1 : Int)))) w11) (
  J_4 false w10)) (
  J_4 false w10)) (
  J_4 false w8)) (
  J_4 false w8))) fun J_8 =>
  ∃ I_8 : Int → Int → World → Nat → Prop, (∃ m : Nat, I_8 (0 : Int) (0 : Int) w4 m) ∧ ∀ (done8_1 : Int) (x42 : Int) (w12 : World) (m : Nat), I_8 done8_1 x42 w12 m → (
  condB (decide (x42 < ((ops0l : Nat) : Int))) (
  withJ (fun (done8_2 : Int) (w13 : World) =>
  ∃ m' : Nat, m' < m ∧ I_8 done8_2 (w64 (x42 + (1 : Int))) w13 m') fun J_8_1 =>
  idxA ops0p ops0l x42 fun a45 =>
  ldI .i64 w12 ((a45.add (x42.toNat * 4))) fun x46_0 =>
  ldI .i64 w12 (((a45.add (x42.toNat * 4)).add 1)) fun x46_1 =>
  ldS w12 (((a45.add (x42.toNat * 4)).add 2)) fun x46_2p x46_2l x46_2c =>
  ldS w12 (((a45.add (x42.toNat * 4)).add 3)) fun x46_3p x46_3l x46_3c =>
  newB w12 (.cells (zeroC Try.prog T_law13_Op) T_law13_Op) fun b10 w14 =>
  stN w14 ⟨b10, 0, none⟩ ⟨[.int .i64 x46_0, .int .i64 x46_1, .slice x46_2p x46_2l x46_2c, .slice x46_3p x46_3l x46_3c]⟩ 4 fun w15 =>
  condB (decide (x42 ≥ (200 : Int))) (
  J_8 done8_1 w15) (
  withJ (fun (f11 : Int) (w16 : World) =>
  withJ (fun (x78 : Bool) (w17 : World) =>
  condB x78 (
  J_8_1 done8_1 w17) (
  withJ (fun (x97 : Bool) (w18 : World) =>
  condB x97 (
  J false w18) (
  condB (f11 == (0 : Int)) (
  J_8_1 (w64 (done8_1 + (1 : Int))) w18) (
  J_8_1 done8_1 w18))) fun J_97 =>
  condB (!((f11 == (0 : Int)) == (decide (done8_1 < (w64 (Int.tmod (IntKind.u64.wrap n1) (40 : Int))))))) (
  J_97 true w17) (
  condB (f11 != (0 : Int)) (
  condB (f11 != (9 : Int)) (
  J_97 true w17) (
  callJ Try.prog fn_drum_Drum_Down #[.pointer r18_0] w17 [.one .bool] fun (r93 : Bool) (w19 : World) =>
  J_97 (!r93) w19)) (
  J_97 false w17)))) fun J_78 =>
  condB (f11 == (1 : Int)) (
  J_78 true w16) (
  J_78 (f11 == (6 : Int)) w16)) fun J_11 =>
  ldI .i64 w15 ⟨b10, 0, none⟩ fun x50 =>
  condB (x50 == (0 : Int)) (
  ldI .i64 w15 ⟨b10, 1, none⟩ fun x56 =>
  callJ Try.prog fn_drum_Drum_Read #[.pointer r18_0, .int .i64 x56] w15 [.one .slice, .one (.int .i64)] fun (r57_0p : Option Addr) (r57_0l : Nat) (r57_0c : Nat) (r57_1 : Int) (w20 : World) =>
  J_11 r57_1 w20) (
  condB (x50 == (1 : Int)) (
  ldI .i64 w15.drew ⟨b10, 1, none⟩ fun x64 =>
  ldS w15.drew ⟨b10, 2, none⟩ fun x66p x66l x66c =>
  callJ Try.prog fn_ref01_Twin #[.slice x66p x66l x66c] w15.drew [.one .slice] fun (r67p : Option Addr) (r67l : Nat) (r67c : Nat) (w21 : World) =>
  w21.cell? ⟨b10, 1, none⟩ = some (.int .i64 x64) ∧
  callJ Try.prog fn_drum_Drum_Write #[.pointer r18_0, .int .i64 x64, .slice r67p r67l r67c] w21 [.one (.int .i64)] fun (r68 : Int) (w22 : World) =>
  J_11 r68 w22) (
  condB (x50 == (2 : Int)) (
  callJ Try.prog fn_drum_Drum_Flush #[.pointer r18_0] w15 [.one (.int .i64)] fun (r72 : Int) (w23 : World) =>
  J_11 r72 w23) (
  J_8_1 done8_1 w15))))) (
  J_8 done8_1 w12)))) fun J_39 =>
  callJ Try.prog fn_drum_Drum_Fuse #[.pointer r18_0, .int .i64 (w64 (Int.tmod (IntKind.u64.wrap n1) (40 : Int)))] w3 [.one (.int .i64)] fun (r33 : Int) (w24 : World) =>
  condB (r33 != (0 : Int)) (
  J_39 true w24) (
  callJ Try.prog fn_drum_Drum_Fuse #[.pointer r18_0, .int .i64 (-1 : Int)] w24 [.one (.int .i64)] fun (r37 : Int) (w25 : World) =>
  J_39 (r37 != (1 : Int)) w25))) fun J_26 =>
  condB r18_0.isNone (
  J_26 true w2) (
  J_26 (r18_1 != (0 : Int)) w2))
def ann_law13_DrumFuses : Ann := .s (.o) (.s (.s (.o) (.c (.s (.o) (.o)) (.o))) (.s (.o) (.s (.j [(26, .bool)] (.o) (.c (.s (.o) (.o)) (.o))) (.s (.o) (.s (.j [(39, .bool)] (.o) (.c (.s (.o) (.o)) (.o))) (.s (.o) (.j [(8, .int .i64)] (.s (.o) (.b (.l [(8, .int .i64), (42, .int .i64)] (.s (.o) (.s (.c (.o) (.o)) (.j [(8, .int .i64)] (.b (.s (.o) (.s (.o) (.s (.s (.o) (.c (.o) (.o))) (.j [(11, .int .i64)] (.s (.o) (.b (.s (.o) (.c (.o) (.s (.o) (.c (.d (.take 0 (.take 1 (.take 2 (.take 3 (.take 4 (.eff 5 (.eff 6 (.take 7 (.done)) (.none)) (.none)))))))) (.s (.o) (.c (.o) (.o))))))))) (.s (.j [(78, .bool)] (.o) (.c (.o) (.o))) (.s (.j [(97, .bool)] (.o) (.c (.s (.o) (.o)) (.o))) (.s (.o) (.c (.o) (.o)))))))))) (.o))))))) (.s (.s (.o) (.c (.s (.o) (.o)) (.o))) (.s (.o) (.s (.o) (.j [(4, .bool)] (.o) (.o))))))))))))
theorem eq_law13_DrumFuses (ops0p : Option Addr) (ops0l : Nat) (ops0c : Nat) (n1 : Int) (w : World) (J : Bool → World → Prop) : vcFun Try.prog Try.f4 ann_law13_DrumFuses [.one .bool] [.slice ops0p ops0l ops0c, .int .i64 n1] w J = VC_law13_DrumFuses ops0p ops0l ops0c n1 w J := by kernel_rfl
theorem c_law13_DrumFuses {ops0p : Option Addr} {ops0l : Nat} {ops0c : Nat} {n1 : Int} {w : World} {J : Bool → World → Prop} (h : VC_law13_DrumFuses ops0p ops0l ops0c n1 w J) : callJ Try.prog fn_law13_DrumFuses #[.slice ops0p ops0l ops0c, .int .i64 n1] w [.one .bool] J := vc_calls Try.func4 ann_law13_DrumFuses (Eq.mpr (eq_law13_DrumFuses ops0p ops0l ops0c n1 w J) h)

/-- lectern/lecternlaw13.DrumPlays -/
def VC_law13_DrumPlays (n0 : Int) (ops1p : Option Addr) (ops1l : Nat) (ops1c : Nat) (w : World) (J : Bool → World → Prop) : Prop :=
  callJ Try.prog fn_law13_awake #[] w [.one .bool] fun (r11 : Bool) (w1 : World) =>
  condB (!r11) (
  J false w1) (
  callJ Try.prog fn_drum_New #[.int .i64 n0] w1 [.one .ptr, .one (.int .i64)] fun (r15_0 : Option Addr) (r15_1 : Int) (w2 : World) =>
  withJ (fun (x23 : Bool) (w3 : World) =>
  condB x23 (
  withJ (fun (x4 : Bool) (w4 : World) =>
  J x4 w4) fun J_4 =>
  condB r15_0.isNone (
  J_4 (r15_1 == (1 : Int)) w3) (
  J_4 false w3)) (
  condB (decide (n0 > (200 : Int))) (
  withJ (fun (x4_1 : Bool) (w5 : World) =>
  J x4_1 w5) fun J_4_1 =>
  condB (!r15_0.isNone) (
  condB (r15_1 == (0 : Int)) (
  callJ Try.prog fn_drum_Drum_Sectors #[.pointer r15_0] w3 [.one (.int .i64)] fun (r40 : Int) (w6 : World) =>
  J_4_1 (r40 == n0) w6) (
  J_4_1 false w3)) (
  J_4_1 false w3)) (
  withJ (fun (x49 : Bool) (w7 : World) =>
  condB x49 (
  J false w7) (
  callJ Try.prog fn_ref13_New #[.int .i64 n0] w7 [.agg [.slice, .slice, .int .i64, .int .i64, .bool]] fun (r51_0p : Option Addr) (r51_0l : Nat) (r51_0c : Nat) (r51_1p : Option Addr) (r51_1l : Nat) (r51_1c : Nat) (r51_2 : Int) (r51_3 : Int) (r51_4 : Bool) (w8 : World) =>
  newB w8 (.cells (zeroC Try.prog T_ref13_Drum) T_ref13_Drum) fun b7 w9 =>
  stN w9 ⟨b7, 0, none⟩ ⟨[.slice r51_0p r51_0l r51_0c, .slice r51_1p r51_1l r51_1c, .int .i64 r51_2, .int .i64 r51_3, .bool r51_4]⟩ 5 fun w10 =>
  ∃ I_54 : Int → World → Nat → Prop, (∃ m : Nat, I_54 (0 : Int) w10 m) ∧ ∀ (x54 : Int) (w11 : World) (m : Nat), I_54 x54 w11 m → (
  condB (decide (x54 < ((ops1l : Nat) : Int))) (
  idxA ops1p ops1l x54 fun a57 =>
  ldI .i64 w11 ((a57.add (x54.toNat * 4))) fun x58_0 =>
  ldI .i64 w11 (((a57.add (x54.toNat * 4)).add 1)) fun x58_1 =>
  ldS w11 (((a57.add (x54.toNat * 4)).add 2)) fun x58_2p x58_2l x58_2c =>
  ldS w11 (((a57.add (x54.toNat * 4)).add 3)) fun x58_3p x58_3l x58_3c =>
  newB w11 (.cells (zeroC Try.prog T_law13_Op) T_law13_Op) fun b9 w12 =>
  stN w12 ⟨b9, 0, none⟩ ⟨[.int .i64 x58_0, .int .i64 x58_1, .slice x58_2p x58_2l x58_2c, .slice x58_3p x58_3l x58_3c]⟩ 4 fun w13 =>
  withJ (fun (x66 : Bool) (w14 : World) =>
  condB x66 (
  J false w14) (
  ∃ m' : Nat, m' < m ∧ I_54 (w64 (x54 + (1 : Int))) w14 m')) fun J_66 =>
  condB (decide (x54 < (400 : Int))) (
  ldI .i64 w13 ⟨b9, 0, none⟩ fun x63_0 =>
  ldI .i64 w13 ⟨b9, 1, none⟩ fun x63_1 =>
  ldS w13 ⟨b9, 2, none⟩ fun x63_2p x63_2l x63_2c =>
  ldS w13 ⟨b9, 3, none⟩ fun x63_3p x63_3l x63_3c =>
  callJ Try.prog fn_law13_plays #[.pointer r15_0, .pointer (some ⟨b7, 0, none⟩), .agg ⟨[.int .i64 x63_0, .int .i64 x63_1, .slice x63_2p x63_2l x63_2c, .slice x63_3p x63_3l x63_3c]⟩] w13 [.one .bool] fun (r64 : Bool) (w15 : World) =>
  J_66 (!r64) w15) (
  J_66 false w13)) (
  callJ Try.prog fn_law13_plays #[.pointer r15_0, .pointer (some ⟨b7, 0, none⟩), .agg ⟨[.int .i64 (4 : Int), .int .i64 (0 : Int), .slice none 0 0, .slice none 0 0]⟩] w11 [.one .bool] fun (r70 : Bool) (w16 : World) =>
  condB (!r70) (
  J false w16) (
  ∃ I_73 : Int → World → Nat → Prop, (∃ m : Nat, I_73 (0 : Int) w16 m) ∧ ∀ (x73 : Int) (w17 : World) (m_1 : Nat), I_73 x73 w17 m_1 → (
  condB (decide (x73 < n0)) (
  callJ Try.prog fn_law13_plays #[.pointer r15_0, .pointer (some ⟨b7, 0, none⟩), .agg ⟨[.int .i64 (0 : Int), .int .i64 x73, .slice none 0 0, .slice none 0 0]⟩] w17 [.one .bool] fun (r79 : Bool) (w18 : World) =>
  condB (!r79) (
  J false w18) (
  ∃ m' : Nat, m' < m_1 ∧ I_73 (w64 (x73 + (1 : Int))) w18 m')) (
  J true w17))))))) fun J_49 =>
  condB r15_0.isNone (
  J_49 true w3) (
  J_49 (r15_1 != (0 : Int)) w3)))) fun J_23 =>
  condB (decide (n0 < (1 : Int))) (
  J_23 true w2) (
  J_23 (decide (n0 > (16384 : Int))) w2))
def ann_law13_DrumPlays : Ann := .s (.o) (.s (.s (.o) (.c (.s (.o) (.o)) (.o))) (.s (.o) (.s (.j [(23, .bool)] (.o) (.c (.j [(4, .bool)] (.o) (.o)) (.o))) (.s (.s (.o) (.c (.j [(4, .bool)] (.o) (.o)) (.o))) (.s (.j [(49, .bool)] (.o) (.c (.s (.o) (.o)) (.o))) (.s (.o) (.s (.s (.o) (.b (.l [(54, .int .i64)] (.s (.o) (.s (.c (.o) (.o)) (.s (.b (.s (.o) (.j [(66, .bool)] (.o) (.c (.s (.o) (.o)) (.o))))) (.o))))))) (.s (.s (.o) (.c (.s (.o) (.o)) (.o))) (.s (.s (.o) (.b (.l [(73, .int .i64)] (.s (.o) (.s (.c (.o) (.o)) (.s (.b (.s (.o) (.s (.o) (.c (.s (.o) (.o)) (.o))))) (.o))))))) (.s (.o) (.o)))))))))))
theorem eq_law13_DrumPlays (n0 : Int) (ops1p : Option Addr) (ops1l : Nat) (ops1c : Nat) (w : World) (J : Bool → World → Prop) : vcFun Try.prog Try.f5 ann_law13_DrumPlays [.one .bool] [.int .i64 n0, .slice ops1p ops1l ops1c] w J = VC_law13_DrumPlays n0 ops1p ops1l ops1c w J := by kernel_rfl
theorem c_law13_DrumPlays {n0 : Int} {ops1p : Option Addr} {ops1l : Nat} {ops1c : Nat} {w : World} {J : Bool → World → Prop} (h : VC_law13_DrumPlays n0 ops1p ops1l ops1c w J) : callJ Try.prog fn_law13_DrumPlays #[.int .i64 n0, .slice ops1p ops1l ops1c] w [.one .bool] J := vc_calls Try.func5 ann_law13_DrumPlays (Eq.mpr (eq_law13_DrumPlays n0 ops1p ops1l ops1c w J) h)

/-- lectern/lecternlaw13.DrumClones -/
def VC_law13_DrumClones (ops0p : Option Addr) (ops0l : Nat) (ops0c : Nat) (more1p : Option Addr) (more1l : Nat) (more1c : Nat) (other2p : Option Addr) (other2l : Nat) (other2c : Nat) (w : World) (J : Bool → World → Prop) : Prop :=
  callJ Try.prog fn_law13_awake #[] w [.one .bool] fun (r16 : Bool) (w1 : World) =>
  condB (!r16) (
  J false w1) (
  callJ Try.prog fn_drum_New #[.int .i64 (6 : Int)] w1 [.one .ptr, .one (.int .i64)] fun (r19_0 : Option Addr) (r19_1 : Int) (w2 : World) =>
  withJ (fun (x27 : Bool) (w3 : World) =>
  condB x27 (
  J false w3) (
  callJ Try.prog fn_ref13_New #[.int .i64 (6 : Int)] w3 [.agg [.slice, .slice, .int .i64, .int .i64, .bool]] fun (r28_0p : Option Addr) (r28_0l : Nat) (r28_0c : Nat) (r28_1p : Option Addr) (r28_1l : Nat) (r28_1c : Nat) (r28_2 : Int) (r28_3 : Int) (r28_4 : Bool) (w4 : World) =>
  newB w4 (.cells (zeroC Try.prog T_ref13_Drum) T_ref13_Drum) fun b9 w5 =>
  stN w5 ⟨b9, 0, none⟩ ⟨[.slice r28_0p r28_0l r28_0c, .slice r28_1p r28_1l r28_1c, .int .i64 r28_2, .int .i64 r28_3, .bool r28_4]⟩ 5 fun w6 =>
  ∃ I_31 : Int → World → Nat → Prop, (∃ m : Nat, I_31 (0 : Int) w6 m) ∧ ∀ (x31 : Int) (w7 : World) (m : Nat), I_31 x31 w7 m → (
  condB (decide (x31 < ((ops0l : Nat) : Int))) (
  idxA ops0p ops0l x31 fun a34 =>
  ldI .i64 w7 ((a34.add (x31.toNat * 4))) fun x35_0 =>
  ldI .i64 w7 (((a34.add (x31.toNat * 4)).add 1)) fun x35_1 =>
  ldS w7 (((a34.add (x31.toNat * 4)).add 2)) fun x35_2p x35_2l x35_2c =>
  ldS w7 (((a34.add (x31.toNat * 4)).add 3)) fun x35_3p x35_3l x35_3c =>
  newB w7 (.cells (zeroC Try.prog T_law13_Op) T_law13_Op) fun b11 w8 =>
  stN w8 ⟨b11, 0, none⟩ ⟨[.int .i64 x35_0, .int .i64 x35_1, .slice x35_2p x35_2l x35_2c, .slice x35_3p x35_3l x35_3c]⟩ 4 fun w9 =>
  withJ (fun (x43 : Bool) (w10 : World) =>
  condB x43 (
  J false w10) (
  ∃ m' : Nat, m' < m ∧ I_31 (w64 (x31 + (1 : Int))) w10 m')) fun J_43 =>
  condB (decide (x31 < (100 : Int))) (
  ldI .i64 w9 ⟨b11, 0, none⟩ fun x40_0 =>
  ldI .i64 w9 ⟨b11, 1, none⟩ fun x40_1 =>
  ldS w9 ⟨b11, 2, none⟩ fun x40_2p x40_2l x40_2c =>
  ldS w9 ⟨b11, 3, none⟩ fun x40_3p x40_3l x40_3c =>
  callJ Try.prog fn_law13_plays #[.pointer r19_0, .pointer (some ⟨b9, 0, none⟩), .agg ⟨[.int .i64 x40_0, .int .i64 x40_1, .slice x40_2p x40_2l x40_2c, .slice x40_3p x40_3l x40_3c]⟩] w9 [.one .bool] fun (r41 : Bool) (w11 : World) =>
  J_43 (!r41) w11) (
  J_43 false w9)) (
  callJ Try.prog fn_drum_Drum_Clone #[.pointer r19_0] w7 [.one .ptr] fun (r46 : Option Addr) (w12 : World) =>
  condB r46.isNone (
  J false w12) (
  callJ Try.prog fn_ref13_Drum_Twin #[.pointer (some ⟨b9, 0, none⟩)] w12 [.agg [.slice, .slice, .int .i64, .int .i64, .bool]] fun (r49_0p : Option Addr) (r49_0l : Nat) (r49_0c : Nat) (r49_1p : Option Addr) (r49_1l : Nat) (r49_1c : Nat) (r49_2 : Int) (r49_3 : Int) (r49_4 : Bool) (w13 : World) =>
  newB w13 (.cells (zeroC Try.prog T_ref13_Drum) T_ref13_Drum) fun b13 w14 =>
  stN w14 ⟨b13, 0, none⟩ ⟨[.slice r49_0p r49_0l r49_0c, .slice r49_1p r49_1l r49_1c, .int .i64 r49_2, .int .i64 r49_3, .bool r49_4]⟩ 5 fun w15 =>
  withJ (fun (w16 : World) =>
  ∃ I_89 : Int → World → Nat → Prop, (∃ m : Nat, I_89 (0 : Int) w16 m) ∧ ∀ (x89 : Int) (w17 : World) (m_1 : Nat), I_89 x89 w17 m_1 → (
  condB (decide (x89 < (6 : Int))) (
  withJ (fun (x115 : Bool) (w18 : World) =>
  condB x115 (
  J false w18) (
  ∃ m' : Nat, m' < m_1 ∧ I_89 (w64 (x89 + (1 : Int))) w18 m')) fun J_115 =>
  callJ Try.prog fn_law13_plays #[.pointer r19_0, .pointer (some ⟨b9, 0, none⟩), .agg ⟨[.int .i64 (4 : Int), .int .i64 (0 : Int), .slice none 0 0, .slice none 0 0]⟩] w17 [.one .bool] fun (r94 : Bool) (w19 : World) =>
  condB (!r94) (
  J_115 true w19) (
  callJ Try.prog fn_law13_plays #[.pointer r19_0, .pointer (some ⟨b9, 0, none⟩), .agg ⟨[.int .i64 (0 : Int), .int .i64 x89, .slice none 0 0, .slice none 0 0]⟩] w19 [.one .bool] fun (r100 : Bool) (w20 : World) =>
  condB (!r100) (
  J_115 true w20) (
  callJ Try.prog fn_law13_plays #[.pointer r46, .pointer (some ⟨b13, 0, none⟩), .agg ⟨[.int .i64 (4 : Int), .int .i64 (0 : Int), .slice none 0 0, .slice none 0 0]⟩] w20 [.one .bool] fun (r106 : Bool) (w21 : World) =>
  condB (!r106) (
  J_115 true w21) (
  callJ Try.prog fn_law13_plays #[.pointer r46, .pointer (some ⟨b13, 0, none⟩), .agg ⟨[.int .i64 (0 : Int), .int .i64 x89, .slice none 0 0, .slice none 0 0]⟩] w21 [.one .bool] fun (r113 : Bool) (w22 : World) =>
  J_115 (!r113) w22)))) (
  J true w17))) fun J_0 =>
  ∃ I_55 : Int → World → Nat → Prop, (∃ m : Nat, I_55 (0 : Int) w15 m) ∧ ∀ (x55 : Int) (w23 : World) (m_2 : Nat), I_55 x55 w23 m_2 → (
  condB (decide (x55 < (if ((other2l : Nat) : Int) > ((more1l : Nat) : Int) then ((other2l : Nat) : Int) else ((more1l : Nat) : Int)))) (
  condB (decide (x55 ≥ (100 : Int))) (
  J_0 w23) (
  withJ (fun (x87 : Bool) (w24 : World) =>
  condB x87 (
  J false w24) (
  ∃ m' : Nat, m' < m_2 ∧ I_55 (w64 (x55 + (1 : Int))) w24 m')) fun J_87 =>
  condB (decide (x55 < ((more1l : Nat) : Int))) (
  idxA more1p more1l x55 fun a68 =>
  ldI .i64 w23 ((a68.add (x55.toNat * 4))) fun x69_0 =>
  ldI .i64 w23 (((a68.add (x55.toNat * 4)).add 1)) fun x69_1 =>
  ldS w23 (((a68.add (x55.toNat * 4)).add 2)) fun x69_2p x69_2l x69_2c =>
  ldS w23 (((a68.add (x55.toNat * 4)).add 3)) fun x69_3p x69_3l x69_3c =>
  callJ Try.prog fn_law13_plays #[.pointer r19_0, .pointer (some ⟨b9, 0, none⟩), .agg ⟨[.int .i64 x69_0, .int .i64 x69_1, .slice x69_2p x69_2l x69_2c, .slice x69_3p x69_3l x69_3c]⟩] w23 [.one .bool] fun (r70 : Bool) (w25 : World) =>
  condB (!r70) (
  J_87 true w25) (
  condB (decide (x55 < ((other2l : Nat) : Int))) (
  idxA other2p other2l x55 fun a82 =>
  ldI .i64 w25 ((a82.add (x55.toNat * 4))) fun x83_0 =>
  ldI .i64 w25 (((a82.add (x55.toNat * 4)).add 1)) fun x83_1 =>
  ldS w25 (((a82.add (x55.toNat * 4)).add 2)) fun x83_2p x83_2l x83_2c =>
  ldS w25 (((a82.add (x55.toNat * 4)).add 3)) fun x83_3p x83_3l x83_3c =>
  callJ Try.prog fn_law13_plays #[.pointer r46, .pointer (some ⟨b13, 0, none⟩), .agg ⟨[.int .i64 x83_0, .int .i64 x83_1, .slice x83_2p x83_2l x83_2c, .slice x83_3p x83_3l x83_3c]⟩] w25 [.one .bool] fun (r84 : Bool) (w26 : World) =>
  J_87 (!r84) w26) (
  J_87 false w25))) (
  condB (decide (x55 < ((other2l : Nat) : Int))) (
  idxA other2p other2l x55 fun a82_1 =>
  ldI .i64 w23 ((a82_1.add (x55.toNat * 4))) fun x83_0_1 =>
  ldI .i64 w23 (((a82_1.add (x55.toNat * 4)).add 1)) fun x83_1_1 =>
  ldS w23 (((a82_1.add (x55.toNat * 4)).add 2)) fun x83_2_1p x83_2_1l x83_2_1c =>
  ldS w23 (((a82_1.add (x55.toNat * 4)).add 3)) fun x83_3_1p x83_3_1l x83_3_1c =>
  callJ Try.prog fn_law13_plays #[.pointer r46, .pointer (some ⟨b13, 0, none⟩), .agg ⟨[.int .i64 x83_0_1, .int .i64 x83_1_1, .slice x83_2_1p x83_2_1l x83_2_1c, .slice x83_3_1p x83_3_1l x83_3_1c]⟩] w23 [.one .bool] fun (r84_1 : Bool) (w27 : World) =>
  J_87 (!r84_1) w27) (
  J_87 false w23)))) (
  J_0 w23))))))) fun J_27 =>
  condB r19_0.isNone (
  J_27 true w2) (
  J_27 (r19_1 != (0 : Int)) w2))
def ann_law13_DrumClones : Ann := .s (.o) (.s (.s (.o) (.c (.s (.o) (.o)) (.o))) (.s (.o) (.s (.j [(27, .bool)] (.o) (.c (.s (.o) (.o)) (.o))) (.s (.o) (.s (.s (.o) (.b (.l [(31, .int .i64)] (.s (.o) (.s (.c (.o) (.o)) (.s (.b (.s (.o) (.j [(43, .bool)] (.o) (.c (.s (.o) (.o)) (.o))))) (.o))))))) (.s (.o) (.s (.s (.o) (.c (.s (.o) (.o)) (.o))) (.s (.o) (.j [] (.s (.o) (.b (.l [(55, .int .i64)] (.s (.o) (.s (.c (.o) (.o)) (.s (.b (.s (.o) (.s (.s (.o) (.c (.o) (.o))) (.j [(87, .bool)] (.o) (.c (.s (.o) (.o)) (.o)))))) (.o))))))) (.s (.s (.o) (.b (.l [(89, .int .i64)] (.s (.o) (.s (.c (.o) (.o)) (.s (.b (.s (.o) (.j [(115, .bool)] (.o) (.c (.s (.o) (.o)) (.o))))) (.o))))))) (.s (.o) (.o))))))))))))
theorem eq_law13_DrumClones (ops0p : Option Addr) (ops0l : Nat) (ops0c : Nat) (more1p : Option Addr) (more1l : Nat) (more1c : Nat) (other2p : Option Addr) (other2l : Nat) (other2c : Nat) (w : World) (J : Bool → World → Prop) : vcFun Try.prog Try.f6 ann_law13_DrumClones [.one .bool] [.slice ops0p ops0l ops0c, .slice more1p more1l more1c, .slice other2p other2l other2c] w J = VC_law13_DrumClones ops0p ops0l ops0c more1p more1l more1c other2p other2l other2c w J := by kernel_rfl
theorem c_law13_DrumClones {ops0p : Option Addr} {ops0l : Nat} {ops0c : Nat} {more1p : Option Addr} {more1l : Nat} {more1c : Nat} {other2p : Option Addr} {other2l : Nat} {other2c : Nat} {w : World} {J : Bool → World → Prop} (h : VC_law13_DrumClones ops0p ops0l ops0c more1p more1l more1c other2p other2l other2c w J) : callJ Try.prog fn_law13_DrumClones #[.slice ops0p ops0l ops0c, .slice more1p more1l more1c, .slice other2p other2l other2c] w [.one .bool] J := vc_calls Try.func6 ann_law13_DrumClones (Eq.mpr (eq_law13_DrumClones ops0p ops0l ops0c more1p more1l more1c other2p other2l other2c w J) h)

end Go.Proofs.Ytfhmnodoahcmnaa
