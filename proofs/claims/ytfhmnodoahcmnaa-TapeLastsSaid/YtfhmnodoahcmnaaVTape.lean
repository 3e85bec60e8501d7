/- What the conditions of these functions are, reckoned by the reading; printed by program. -/
import Derived.Test.YtfhmnodoahcmnaaNm
import Derived.KernelRfl
set_option maxRecDepth 100000
set_option linter.unusedVariables false
namespace Go.Proofs.Ytfhmnodoahcmnaa
open Go Go.Vc

/-- lectern/tape.Sum -/
def VC_tape_Sum (p0p : Option Addr) (p0l : Nat) (p0c : Nat) (w : World) (J : Int → World → Prop) : Prop :=
  ∃ I_3 : Int → Int → World → Nat → Prop, (∃ m : Nat, I_3 (4294967295 : Int) (0 : Int) w m) ∧ ∀ (c3 : Int) (x9 : Int) (w1 : World) (m : Nat), I_3 c3 x9 w1 m → (
  condB (decide (x9 < ((p0l : Nat) : Int))) (
  idxA p0p p0l x9 fun a11 =>
  ldI .u8 w1 ((a11.add (x9.toNat * 1))) fun x12 =>
  ∃ I_3_1 : Int → Int → World → Nat → Prop, (∃ m : Nat, I_3_1 (bXor .u32 c3 (IntKind.u32.wrap x12)) (0 : Int) w1 m) ∧ ∀ (c3_1 : Int) (x17 : Int) (w2 : World) (m_1 : Nat), I_3_1 c3_1 x17 w2 m_1 → (
  condB (decide (x17 < (8 : Int))) (
  withJ (fun (c3_2 : Int) (w3 : World) =>
  ∃ m' : Nat, m' < m_1 ∧ I_3_1 c3_2 (w64 (x17 + (1 : Int))) w3 m') fun J_3 =>
  0 ≤ (1 : Int) ∧
  condB ((bAnd .u32 c3_1 (1 : Int)) == (1 : Int)) (
  J_3 (bXor .u32 (shrI .u32 c3_1 (1 : Int)) (3988292384 : Int)) w2) (
  J_3 (shrI .u32 c3_1 (1 : Int)) w2)) (
  ∃ m' : Nat, m' < m ∧ I_3 c3_1 (w64 (x9 + (1 : Int))) w2 m'))) (
  J (bNot .u32 c3) w1))
def ann_tape_Sum : Ann := .s (.o) (.s (.o) (.s (.s (.o) (.b (.l [(3, .int .u32), (9, .int .i64)] (.s (.o) (.s (.c (.o) (.o)) (.s (.b (.s (.o) (.s (.o) (.s (.o) (.b (.l [(3, .int .u32), (17, .int .i64)] (.s (.o) (.s (.c (.o) (.o)) (.j [(3, .int .u32)] (.b (.s (.o) (.s (.o) (.s (.o) (.c (.o) (.o)))))) (.o)))))))))) (.o))))))) (.s (.o) (.o))))
theorem eq_tape_Sum (p0p : Option Addr) (p0l : Nat) (p0c : Nat) (w : World) (J : Int → World → Prop) : vcFun Try.prog Try.f32 ann_tape_Sum [.one (.int .u32)] [.slice p0p p0l p0c] w J = VC_tape_Sum p0p p0l p0c w J := by kernel_rfl
theorem c_tape_Sum {p0p : Option Addr} {p0l : Nat} {p0c : Nat} {w : World} {J : Int → World → Prop} (h : VC_tape_Sum p0p p0l p0c w J) : callJ Try.prog fn_tape_Sum #[.slice p0p p0l p0c] w [.one (.int .u32)] J := vc_calls Try.func32 ann_tape_Sum (Eq.mpr (eq_tape_Sum p0p p0l p0c w J) h)

/-- lectern/tape.Open -/
def VC_tape_Open (d0 : Option Addr) (lo1 : Int) (hi2 : Int) (gen3 : Int) (w : World) (J : Option Addr → Option Addr → Nat → Nat → Int → World → Prop) : Prop :=
  condB d0.isNone (
  J none none 0 0 (2 : Int) w) (
  withJ (fun (x24 : Bool) (w1 : World) =>
  condB x24 (
  J none none 0 0 (1 : Int) w1) (
  newB w1 (.cells ⟨[.pointer d0, .int .i64 lo1, .int .i64 hi2, .int .i64 gen3, .int .i64 (0 : Int), .int .i64 (0 : Int), .bool false]⟩ T_tape_Tape) fun b57 w2 =>
  withJ (fun (all12p : Option Addr) (all12l : Nat) (all12c : Nat) (w3 : World) =>
  J (some ⟨b57, 0, none⟩) all12p all12l all12c (0 : Int) w3) fun J_12 =>
  ∃ I_12 : Option Addr → Nat → Nat → Option Addr → Nat → Nat → Int → Int → World → Nat → Prop, (∃ m : Nat, I_12 none 0 0 none 0 0 (-1 : Int) (0 : Int) w2 m) ∧ ∀ (all12_1p : Option Addr) (all12_1l : Nat) (all12_1c : Nat) (group13p : Option Addr) (group13l : Nat) (group13c : Nat) (due14 : Int) (x61 : Int) (w4 : World) (m : Nat), I_12 all12_1p all12_1l all12_1c group13p group13l group13c due14 x61 w4 m → (
  condB (decide (x61 < (w64 (hi2 - lo1)))) (
  withJ (fun (all12_2p : Option Addr) (all12_2l : Nat) (all12_2c : Nat) (group13_1p : Option Addr) (group13_1l : Nat) (group13_1c : Nat) (due14_1 : Int) (w5 : World) =>
  ∃ m' : Nat, m' < m ∧ I_12 all12_2p all12_2l all12_2c group13_1p group13_1l group13_1c due14_1 (w64 (x61 + (1 : Int))) w5 m') fun J_12_1 =>
  callJ Try.prog fn_drum_Drum_Read #[.pointer d0, .int .i64 (w64 (lo1 + x61))] w4 [.one .slice, .one (.int .i64)] fun (r69_0p : Option Addr) (r69_0l : Nat) (r69_0c : Nat) (r69_1 : Int) (w6 : World) =>
  condB (r69_1 != (0 : Int)) (
  J none none 0 0 r69_1 w6) (
  withJ (fun (s18 : Option Addr) (w7 : World) =>
  nonNil s18 fun a93 =>
  ldI .u16 w7.drew ((a93.add 4)) fun x94 =>
  nonNil s18 fun a96 =>
  ldI .u16 w7.drew ((a96.add 3)) fun x97 =>
  withJ (fun (x132 : Bool) (w8 : World) =>
  condB x132 (
  J_12 all12_1p all12_1l all12_1c w8) (
  slS r69_0p r69_0l r69_0c 1 (some (16 : Int)) (some (w64 ((16 : Int) + (w64 x94)))) none fun q137p q137l q137c =>
  appJ Try.prog T_sl_uint8 T_sl_uint8 (.slice group13p group13l group13c) (.slice q137p q137l q137c) w8 fun q138p q138l q138c w9 =>
  condB ((w64 x97) == (0 : Int)) (
  newB w9 (.cells ⟨[.slice q138p q138l q138c]⟩ T_sl_uint8) fun b145 w10 =>
  appJ Try.prog T_sl_sl_uint8 T_sl_sl_uint8 (.slice all12_1p all12_1l all12_1c) (.slice (some ⟨b145, 0, none⟩) 1 1) w10 fun q146p q146l q146c w11 =>
  ldI .i64 w11 ⟨b57, 5, none⟩ fun x150 =>
  stV w11 ⟨b57, 5, none⟩ (.int .i64 (w64 (x150 + (1 : Int)))) fun w12 =>
  stV w12 ⟨b57, 4, none⟩ (.int .i64 (w64 (x61 + (1 : Int)))) fun w13 =>
  J_12_1 q146p q146l q146c none 0 0 (w64 ((w64 x97) - (1 : Int))) w13) (
  J_12_1 all12_1p all12_1l all12_1c q138p q138l q138c (w64 ((w64 x97) - (1 : Int))) w9))) fun J_132 =>
  condB (decide ((w64 x94) > (48 : Int))) (
  J_132 true w7.drew.drew) (
  condB (decide ((w64 x97) > (0 : Int))) (
  condB (decide ((w64 x94) < (48 : Int))) (
  J_132 true w7.drew.drew) (
  condB (decide (due14 ≥ (0 : Int))) (
  condB ((w64 x97) != due14) (
  J_132 true w7.drew.drew) (
  condB ((w64 x94) == (0 : Int)) (
  J_132 true w7.drew.drew) (
  nonNil s18 fun a123 =>
  ldI .u32 w7.drew.drew a123 fun x123_0 =>
  ldI .u16 w7.drew.drew ((a123.add 1)) fun x123_1 =>
  ldI .u16 w7.drew.drew ((a123.add 2)) fun x123_2 =>
  ldI .u16 w7.drew.drew ((a123.add 3)) fun x123_3 =>
  ldI .u16 w7.drew.drew ((a123.add 4)) fun x123_4 =>
  slS r69_0p r69_0l r69_0c 1 (some (16 : Int)) (some (w64 ((16 : Int) + (w64 x94)))) none fun q127p q127l q127c =>
  callJ Try.prog fn_tape_sector_lay #[.agg ⟨[.int .u32 x123_0, .int .u16 x123_1, .int .u16 x123_2, .int .u16 x123_3, .int .u16 x123_4]⟩, .slice q127p q127l q127c] w7.drew.drew [.one .slice] fun (r128p : Option Addr) (r128l : Nat) (r128c : Nat) (w14 : World) =>
  callJ Try.prog fn_bytes_Equal #[.slice r128p r128l r128c, .slice r69_0p r69_0l r69_0c] w14 [.one .bool] fun (r130 : Bool) (w15 : World) =>
  J_132 (!r130) w15))) (
  nonNil s18 fun a123_1 =>
  ldI .u32 w7.drew.drew a123_1 fun x123_0_1 =>
  ldI .u16 w7.drew.drew ((a123_1.add 1)) fun x123_1_1 =>
  ldI .u16 w7.drew.drew ((a123_1.add 2)) fun x123_2_1 =>
  ldI .u16 w7.drew.drew ((a123_1.add 3)) fun x123_3_1 =>
  ldI .u16 w7.drew.drew ((a123_1.add 4)) fun x123_4_1 =>
  slS r69_0p r69_0l r69_0c 1 (some (16 : Int)) (some (w64 ((16 : Int) + (w64 x94)))) none fun q127_1p q127_1l q127_1c =>
  callJ Try.prog fn_tape_sector_lay #[.agg ⟨[.int .u32 x123_0_1, .int .u16 x123_1_1, .int .u16 x123_2_1, .int .u16 x123_3_1, .int .u16 x123_4_1]⟩, .slice q127_1p q127_1l q127_1c] w7.drew.drew [.one .slice] fun (r128_1p : Option Addr) (r128_1l : Nat) (r128_1c : Nat) (w16 : World) =>
  callJ Try.prog fn_bytes_Equal #[.slice r128_1p r128_1l r128_1c, .slice r69_0p r69_0l r69_0c] w16 [.one .bool] fun (r130_1 : Bool) (w17 : World) =>
  J_132 (!r130_1) w17))) (
  condB (decide (due14 ≥ (0 : Int))) (
  condB ((w64 x97) != due14) (
  J_132 true w7.drew.drew) (
  condB ((w64 x94) == (0 : Int)) (
  J_132 true w7.drew.drew) (
  nonNil s18 fun a123_2 =>
  ldI .u32 w7.drew.drew a123_2 fun x123_0_2 =>
  ldI .u16 w7.drew.drew ((a123_2.add 1)) fun x123_1_2 =>
  ldI .u16 w7.drew.drew ((a123_2.add 2)) fun x123_2_2 =>
  ldI .u16 w7.drew.drew ((a123_2.add 3)) fun x123_3_2 =>
  ldI .u16 w7.drew.drew ((a123_2.add 4)) fun x123_4_2 =>
  slS r69_0p r69_0l r69_0c 1 (some (16 : Int)) (some (w64 ((16 : Int) + (w64 x94)))) none fun q127_2p q127_2l q127_2c =>
  callJ Try.prog fn_tape_sector_lay #[.agg ⟨[.int .u32 x123_0_2, .int .u16 x123_1_2, .int .u16 x123_2_2, .int .u16 x123_3_2, .int .u16 x123_4_2]⟩, .slice q127_2p q127_2l q127_2c] w7.drew.drew [.one .slice] fun (r128_2p : Option Addr) (r128_2l : Nat) (r128_2c : Nat) (w18 : World) =>
  callJ Try.prog fn_bytes_Equal #[.slice r128_2p r128_2l r128_2c, .slice r69_0p r69_0l r69_0c] w18 [.one .bool] fun (r130_2 : Bool) (w19 : World) =>
  J_132 (!r130_2) w19))) (
  nonNil s18 fun a123_3 =>
  ldI .u32 w7.drew.drew a123_3 fun x123_0_3 =>
  ldI .u16 w7.drew.drew ((a123_3.add 1)) fun x123_1_3 =>
  ldI .u16 w7.drew.drew ((a123_3.add 2)) fun x123_2_3 =>
  ldI .u16 w7.drew.drew ((a123_3.add 3)) fun x123_3_3 =>
  ldI .u16 w7.drew.drew ((a123_3.add 4)) fun x123_4_3 =>
  slS r69_0p r69_0l r69_0c 1 (some (16 : Int)) (some (w64 ((16 : Int) + (w64 x94)))) none fun q127_3p q127_3l q127_3c =>
  callJ Try.prog fn_tape_sector_lay #[.agg ⟨[.int .u32 x123_0_3, .int .u16 x123_1_3, .int .u16 x123_2_3, .int .u16 x123_3_3, .int .u16 x123_4_3]⟩, .slice q127_3p q127_3l q127_3c] w7.drew.drew [.one .slice] fun (r128_3p : Option Addr) (r128_3l : Nat) (r128_3c : Nat) (w20 : World) =>
  callJ Try.prog fn_bytes_Equal #[.slice r128_3p r128_3l r128_3c, .slice r69_0p r69_0l r69_0c] w20 [.one .bool] fun (r130_3 : Bool) (w21 : World) =>
  J_132 (!r130_3) w21)))) fun J_18 =>
  ldI .i64 w6.drew ⟨b57, 5, none⟩ fun x82 =>
  slS r69_0p r69_0l r69_0c 1 (some (12 : Int)) none none fun q85p q85l q85c =>
  slS r69_0p r69_0l r69_0c 1 (some (14 : Int)) none none fun q89p q89l q89c =>
  (
  callJ Try.prog fn_num_Of #[.slice q85p q85l q85c, .int .i64 (2 : Int)] w6.drew [.one (.int .u64)] fun (r86 : Int) (w22 : World) =>
  w22.cell? ⟨b57, 5, none⟩ = some (.int .i64 x82) ∧
  (
  callJ Try.prog fn_num_Of #[.slice q89p q89l q89c, .int .i64 (2 : Int)] w22 [.one (.int .u64)] fun (r90 : Int) (w23 : World) =>
  w23.cell? ⟨b57, 5, none⟩ = some (.int .i64 x82) ∧
  newB w23 (.cells (zeroC Try.prog T_tape_sector) T_tape_sector) fun b18 w24 =>
  w24.cell? ⟨b57, 5, none⟩ = some (.int .i64 x82) ∧
  stN w24 ⟨b18, 0, none⟩ ⟨[.int .u32 (IntKind.u32.wrap gen3), .int .u16 (IntKind.u16.wrap x61), .int .u16 (IntKind.u16.wrap x82), .int .u16 (IntKind.u16.wrap r86), .int .u16 (IntKind.u16.wrap r90)]⟩ 5 fun w25 =>
  J_18 (some ⟨b18, 0, none⟩) w25) ∧ (
  newB w22 (.cells (zeroC Try.prog T_tape_sector) T_tape_sector) fun b18_1 w26 =>
  w26.cell? ⟨b57, 5, none⟩ = some (.int .i64 x82) ∧
  callJ Try.prog fn_num_Of #[.slice q89p q89l q89c, .int .i64 (2 : Int)] w26 [.one (.int .u64)] fun (r90_1 : Int) (w27 : World) =>
  w27.cell? ⟨b57, 5, none⟩ = some (.int .i64 x82) ∧
  stN w27 ⟨b18_1, 0, none⟩ ⟨[.int .u32 (IntKind.u32.wrap gen3), .int .u16 (IntKind.u16.wrap x61), .int .u16 (IntKind.u16.wrap x82), .int .u16 (IntKind.u16.wrap r86), .int .u16 (IntKind.u16.wrap r90_1)]⟩ 5 fun w28 =>
  J_18 (some ⟨b18_1, 0, none⟩) w28)) ∧ (
  newB w6.drew (.cells (zeroC Try.prog T_tape_sector) T_tape_sector) fun b18_2 w29 =>
  w29.cell? ⟨b57, 5, none⟩ = some (.int .i64 x82) ∧
  callJ Try.prog fn_num_Of #[.slice q85p q85l q85c, .int .i64 (2 : Int)] w29 [.one (.int .u64)] fun (r86_1 : Int) (w30 : World) =>
  w30.cell? ⟨b57, 5, none⟩ = some (.int .i64 x82) ∧
  callJ Try.prog fn_num_Of #[.slice q89p q89l q89c, .int .i64 (2 : Int)] w30 [.one (.int .u64)] fun (r90_2 : Int) (w31 : World) =>
  w31.cell? ⟨b57, 5, none⟩ = some (.int .i64 x82) ∧
  stN w31 ⟨b18_2, 0, none⟩ ⟨[.int .u32 (IntKind.u32.wrap gen3), .int .u16 (IntKind.u16.wrap x61), .int .u16 (IntKind.u16.wrap x82), .int .u16 (IntKind.u16.wrap r86_1), .int .u16 (IntKind.u16.wrap r90_2)]⟩ 5 fun w32 =>
  J_18 (some ⟨b18_2, 0, none⟩) w32))) (
  J_12 all12_1p all12_1l all12_1c w4)))) fun J_24 =>
  condB (decide (lo1 < (0 : Int))) (
  J_24 true w) (
  callJ Try.prog fn_drum_Drum_Sectors #[.pointer d0] w [.one (.int .i64)] fun (r30 : Int) (w33 : World) =>
  condB (decide (hi2 > r30)) (
  J_24 true w33) (
  condB (decide (lo1 ≥ hi2)) (
  J_24 true w33) (
  condB (decide ((w64 (hi2 - lo1)) > (65535 : Int))) (
  J_24 true w33) (
  condB (decide (gen3 < (1 : Int))) (
  J_24 true w33) (
  J_24 (decide (gen3 > (4294967295 : Int))) w33))))))
def ann_tape_Open : Ann := .s (.o) (.s (.b (.s (.o) (.c (.s (.o) (.o)) (.j [(24, .bool)] (.o) (.c (.s (.o) (.o)) (.o)))))) (.s (.o) (.s (.o) (.s (.o) (.s (.o) (.j [(12, .slice)] (.s (.o) (.b (.l [(12, .slice), (13, .slice), (14, .int .i64), (61, .int .i64)] (.s (.o) (.s (.c (.o) (.o)) (.j [(12, .slice), (13, .slice), (14, .int .i64)] (.b (.s (.o) (.s (.o) (.s (.s (.o) (.c (.s (.o) (.o)) (.o))) (.j [(18, .ptr)] (.d (.take 0 (.take 1 (.take 2 (.take 3 (.take 4 (.take 5 (.take 6 (.take 7 (.take 8 (.take 9 (.take 10 (.take 13 (.take 14 (.eff 11 (.take 12 (.eff 15 (.take 16 (.take 17 (.eff 18 (.eff 19 (.done) (.none)) (.none)))) (.eff 18 (.eff 15 (.take 16 (.take 17 (.eff 19 (.done) (.none)))) (.none)) (.none)))) (.eff 18 (.eff 11 (.take 12 (.eff 15 (.take 16 (.take 17 (.eff 19 (.done) (.none)))) (.none))) (.none)) (.none))))))))))))))))) (.s (.d (.take 0 (.take 1 (.take 2 (.take 3 (.take 4 (.take 5 (.take 6 (.take 7 (.done)))))))))) (.s (.j [(132, .bool)] (.d (.take 0 (.take 1 (.take 2 (.take 3 (.take 4 (.take 5 (.take 6 (.take 7 (.take 8 (.take 9 (.take 10 (.take 11 (.take 12 (.take 13 (.take 14 (.take 15 (.take 16 (.take 17 (.take 18 (.take 19 (.take 20 (.take 21 (.take 22 (.take 23 (.take 24 (.take 25 (.take 26 (.take 27 (.take 28 (.take 30 (.eff 29 (.eff 31 (.take 32 (.take 33 (.done))) (.none)) (.none))))))))))))))))))))))))))))))))) (.c (.o) (.o))) (.s (.o) (.s (.o) (.s (.o) (.c (.s (.o) (.s (.o) (.s (.o) (.o)))) (.o)))))))))))) (.o))))))) (.s (.o) (.o))))))))
theorem eq_tape_Open (d0 : Option Addr) (lo1 : Int) (hi2 : Int) (gen3 : Int) (w : World) (J : Option Addr → Option Addr → Nat → Nat → Int → World → Prop) : vcFun Try.prog Try.f34 ann_tape_Open [.one .ptr, .one .slice, .one (.int .i64)] [.pointer d0, .int .i64 lo1, .int .i64 hi2, .int .i64 gen3] w J = VC_tape_Open d0 lo1 hi2 gen3 w J := by kernel_rfl
theorem c_tape_Open {d0 : Option Addr} {lo1 : Int} {hi2 : Int} {gen3 : Int} {w : World} {J : Option Addr → Option Addr → Nat → Nat → Int → World → Prop} (h : VC_tape_Open d0 lo1 hi2 gen3 w J) : callJ Try.prog fn_tape_Open #[.pointer d0, .int .i64 lo1, .int .i64 hi2, .int .i64 gen3] w [.one .ptr, .one .slice, .one (.int .i64)] J := vc_calls Try.func34 ann_tape_Open (Eq.mpr (eq_tape_Open d0 lo1 hi2 gen3 w J) h)

/-- (lectern/tape.Tape).Append -/
def VC_tape_Tape_Append (t0 : Option Addr) (p1p : Option Addr) (p1l : Nat) (p1c : Nat) (w : World) (J : Int → World → Prop) : Prop :=
  condB t0.isNone (
  J (2 : Int) w) (
  callJ Try.prog fn_tape_sectors #[.int .i64 ((p1l : Nat) : Int)] w [.one (.int .i64)] fun (r14 : Int) (w1 : World) =>
  nonNil t0 fun a17 =>
  ldB w1 ((a17.add 6)) fun x19 =>
  condB x19 (
  J (9 : Int) w1) (
  nonNil t0 fun a23 =>
  ldI .i64 w1.drew ((a23.add 2)) fun x25 =>
  nonNil t0 fun a27 =>
  ldI .i64 w1.drew ((a27.add 1)) fun x29 =>
  nonNil t0 fun a32 =>
  ldI .i64 w1.drew ((a32.add 4)) fun x34 =>
  condB (decide (r14 > (w64 ((w64 (x25 - x29)) - x34)))) (
  J (4 : Int) w1.drew) (
  ∃ I_38 : Int → World → Nat → Prop, (∃ m : Nat, I_38 (0 : Int) w1.drew m) ∧ ∀ (x38 : Int) (w2 : World) (m : Nat), I_38 x38 w2 m → (
  condB (decide (x38 < r14)) (
  slS p1p p1l p1c 1 (some (w64 (x38 * (48 : Int)))) (some (if (w64 ((w64 (x38 + (1 : Int))) * (48 : Int))) < ((p1l : Nat) : Int) then (w64 ((w64 (x38 + (1 : Int))) * (48 : Int))) else ((p1l : Nat) : Int))) none fun q50p q50l q50c =>
  nonNil t0 fun a52 =>
  ldI .i64 w2.drew ((a52.add 3)) fun x54 =>
  nonNil t0 fun a57 =>
  ldI .i64 w2.drew ((a57.add 4)) fun x59 =>
  nonNil t0 fun a64 =>
  ldI .i64 w2.drew ((a64.add 5)) fun x66 =>
  newB w2.drew (.cells (zeroC Try.prog T_tape_sector) T_tape_sector) fun b8 w3 =>
  w3.cell? ((a64.add 5)) = some (.int .i64 x66) ∧
  w3.cell? ((a57.add 4)) = some (.int .i64 x59) ∧
  w3.cell? ((a52.add 3)) = some (.int .i64 x54) ∧
  stN w3 ⟨b8, 0, none⟩ ⟨[.int .u32 (IntKind.u32.wrap x54), .int .u16 (IntKind.u16.wrap (w64 (x59 + x38))), .int .u16 (IntKind.u16.wrap x66), .int .u16 (IntKind.u16.wrap (w64 ((w64 (r14 - (1 : Int))) - x38))), .int .u16 (IntKind.u16.wrap ((q50l : Nat) : Int))]⟩ 5 fun w4 =>
  nonNil t0 fun a78 =>
  ldP w4.drew a78 fun x80 =>
  nonNil t0 fun a82 =>
  ldI .i64 w4.drew ((a82.add 1)) fun x84 =>
  nonNil t0 fun a86 =>
  ldI .i64 w4.drew ((a86.add 4)) fun x88 =>
  ldI .u32 w4.drew ⟨b8, 0, none⟩ fun x92_0 =>
  ldI .u16 w4.drew ⟨b8, 1, none⟩ fun x92_1 =>
  ldI .u16 w4.drew ⟨b8, 2, none⟩ fun x92_2 =>
  ldI .u16 w4.drew ⟨b8, 3, none⟩ fun x92_3 =>
  ldI .u16 w4.drew ⟨b8, 4, none⟩ fun x92_4 =>
  callJ Try.prog fn_tape_sector_lay #[.agg ⟨[.int .u32 x92_0, .int .u16 x92_1, .int .u16 x92_2, .int .u16 x92_3, .int .u16 x92_4]⟩, .slice q50p q50l q50c] w4.drew [.one .slice] fun (r94p : Option Addr) (r94l : Nat) (r94c : Nat) (w5 : World) =>
  w5.cell? ((a86.add 4)) = some (.int .i64 x88) ∧
  w5.cell? ((a82.add 1)) = some (.int .i64 x84) ∧
  w5.cell? a78 = some (.pointer x80) ∧
  callJ Try.prog fn_drum_Drum_Write #[.pointer x80, .int .i64 (w64 ((w64 (x84 + x88)) + x38)), .slice r94p r94l r94c] w5 [.one (.int .i64)] fun (r95 : Int) (w6 : World) =>
  condB (r95 != (0 : Int)) (
  nonNil t0 fun a99 =>
  stV w6 ((a99.add 6)) (.bool true) fun w7 =>
  J r95 w7) (
  ∃ m' : Nat, m' < m ∧ I_38 (w64 (x38 + (1 : Int))) w6 m')) (
  nonNil t0 fun a104 =>
  ldI .i64 w2 ((a104.add 4)) fun x106 =>
  nonNil t0 fun a109 =>
  stV w2 ((a109.add 4)) (.int .i64 (w64 (x106 + r14))) fun w8 =>
  nonNil t0 fun a112 =>
  ldI .i64 w8 ((a112.add 5)) fun x114 =>
  nonNil t0 fun a116 =>
  stV w8 ((a116.add 5)) (.int .i64 (w64 (x114 + (1 : Int)))) fun w9 =>
  J (0 : Int) w9)))))
def ann_tape_Tape_Append : Ann := .s (.o) (.s (.s (.o) (.c (.s (.o) (.o)) (.o))) (.s (.o) (.s (.b (.s (.o) (.c (.s (.o) (.o)) (.s (.d (.take 0 (.take 1 (.take 2 (.take 3 (.take 4 (.take 5 (.take 6 (.take 7 (.take 8 (.take 9 (.take 10 (.take 11 (.take 12 (.take 13 (.take 14 (.take 15 (.take 16 (.done))))))))))))))))))) (.c (.s (.o) (.o)) (.o)))))) (.s (.s (.o) (.b (.l [(38, .int .i64)] (.s (.o) (.s (.c (.o) (.o)) (.s (.b (.s (.o) (.s (.o) (.s (.d (.take 0 (.take 1 (.take 2 (.take 3 (.take 4 (.take 5 (.take 6 (.take 7 (.take 8 (.take 9 (.take 10 (.take 11 (.take 12 (.take 13 (.take 14 (.take 15 (.take 16 (.take 17 (.take 18 (.take 19 (.take 20 (.take 21 (.take 22 (.take 23 (.take 24 (.take 25 (.eff 26 (.eff 27 (.done) (.none)) (.none))))))))))))))))))))))))))))) (.s (.d (.take 0 (.take 1 (.take 2 (.take 3 (.take 4 (.take 5 (.take 6 (.take 7 (.take 8 (.take 9 (.take 10 (.take 11 (.take 12 (.take 13 (.take 14 (.take 15 (.take 16 (.eff 17 (.eff 18 (.take 19 (.done)) (.none)) (.none)))))))))))))))))))) (.s (.o) (.c (.s (.o) (.s (.o) (.o))) (.o)))))))) (.o))))))) (.s (.o) (.s (.o) (.s (.o) (.o))))))))
theorem eq_tape_Tape_Append (t0 : Option Addr) (p1p : Option Addr) (p1l : Nat) (p1c : Nat) (w : World) (J : Int → World → Prop) : vcFun Try.prog Try.f35 ann_tape_Tape_Append [.one (.int .i64)] [.pointer t0, .slice p1p p1l p1c] w J = VC_tape_Tape_Append t0 p1p p1l p1c w J := by kernel_rfl
theorem c_tape_Tape_Append {t0 : Option Addr} {p1p : Option Addr} {p1l : Nat} {p1c : Nat} {w : World} {J : Int → World → Prop} (h : VC_tape_Tape_Append t0 p1p p1l p1c w J) : callJ Try.prog fn_tape_Tape_Append #[.pointer t0, .slice p1p p1l p1c] w [.one (.int .i64)] J := vc_calls Try.func35 ann_tape_Tape_Append (Eq.mpr (eq_tape_Tape_Append t0 p1p p1l p1c w J) h)

/-- (lectern/tape.Tape).Flush -/
def VC_tape_Tape_Flush (t0 : Option Addr) (w : World) (J : Int → World → Prop) : Prop :=
  condB t0.isNone (
  J (2 : Int) w) (
  nonNil t0 fun a9 =>
  ldB w ((a9.add 6)) fun x11 =>
  condB x11 (
  J (9 : Int) w) (
  nonNil t0 fun a13 =>
  ldP w a13 fun x15 =>
  callJ Try.prog fn_drum_Drum_Flush #[.pointer x15] w [.one (.int .i64)] fun (r16 : Int) (w1 : World) =>
  nonNil t0 fun a20 =>
  stV w1 ((a20.add 6)) (.bool (r16 == (9 : Int))) fun w2 =>
  J r16 w2))
def ann_tape_Tape_Flush : Ann := .s (.o) (.s (.b (.s (.o) (.c (.s (.o) (.o)) (.s (.o) (.c (.s (.o) (.o)) (.o)))))) (.s (.o) (.s (.o) (.s (.o) (.o)))))
theorem eq_tape_Tape_Flush (t0 : Option Addr) (w : World) (J : Int → World → Prop) : vcFun Try.prog Try.f43 ann_tape_Tape_Flush [.one (.int .i64)] [.pointer t0] w J = VC_tape_Tape_Flush t0 w J := by kernel_rfl
theorem c_tape_Tape_Flush {t0 : Option Addr} {w : World} {J : Int → World → Prop} (h : VC_tape_Tape_Flush t0 w J) : callJ Try.prog fn_tape_Tape_Flush #[.pointer t0] w [.one (.int .i64)] J := vc_calls Try.func43 ann_tape_Tape_Flush (Eq.mpr (eq_tape_Tape_Flush t0 w J) h)

/-- (lectern/tape.Tape).Groups -/
def VC_tape_Tape_Groups (t0 : Option Addr) (w : World) (J : Int → World → Prop) : Prop :=
  condB t0.isNone (
  J (0 : Int) w) (
  nonNil t0 fun a6 =>
  ldI .i64 w ((a6.add 5)) fun x8 =>
  J x8 w)
def ann_tape_Tape_Groups : Ann := .s (.o) (.s (.s (.o) (.c (.s (.o) (.o)) (.o))) (.s (.o) (.o)))
theorem eq_tape_Tape_Groups (t0 : Option Addr) (w : World) (J : Int → World → Prop) : vcFun Try.prog Try.f41 ann_tape_Tape_Groups [.one (.int .i64)] [.pointer t0] w J = VC_tape_Tape_Groups t0 w J := by kernel_rfl
theorem c_tape_Tape_Groups {t0 : Option Addr} {w : World} {J : Int → World → Prop} (h : VC_tape_Tape_Groups t0 w J) : callJ Try.prog fn_tape_Tape_Groups #[.pointer t0] w [.one (.int .i64)] J := vc_calls Try.func41 ann_tape_Tape_Groups (Eq.mpr (eq_tape_Tape_Groups t0 w J) h)

/-- (lectern/tape.Tape).Free -/
def VC_tape_Tape_Free (t0 : Option Addr) (w : World) (J : Int → World → Prop) : Prop :=
  condB t0.isNone (
  J (0 : Int) w) (
  nonNil t0 fun a6 =>
  ldI .i64 w.drew ((a6.add 2)) fun x8 =>
  nonNil t0 fun a10 =>
  ldI .i64 w.drew ((a10.add 1)) fun x12 =>
  nonNil t0 fun a15 =>
  ldI .i64 w.drew ((a15.add 4)) fun x17 =>
  J (w64 ((w64 (x8 - x12)) - x17)) w.drew)
def ann_tape_Tape_Free : Ann := .s (.o) (.s (.s (.o) (.c (.s (.o) (.o)) (.o))) (.s (.d (.take 0 (.take 1 (.take 2 (.take 3 (.take 4 (.take 5 (.take 6 (.take 7 (.take 8 (.take 9 (.take 10 (.take 11 (.take 12 (.take 13 (.take 14 (.done))))))))))))))))) (.o)))
theorem eq_tape_Tape_Free (t0 : Option Addr) (w : World) (J : Int → World → Prop) : vcFun Try.prog Try.f36 ann_tape_Tape_Free [.one (.int .i64)] [.pointer t0] w J = VC_tape_Tape_Free t0 w J := by kernel_rfl
theorem c_tape_Tape_Free {t0 : Option Addr} {w : World} {J : Int → World → Prop} (h : VC_tape_Tape_Free t0 w J) : callJ Try.prog fn_tape_Tape_Free #[.pointer t0] w [.one (.int .i64)] J := vc_calls Try.func36 ann_tape_Tape_Free (Eq.mpr (eq_tape_Tape_Free t0 w J) h)

/-- (lectern/tape.sector).lay -/
def VC_tape_sector_lay (s0_0 : Int) (s0_1 : Int) (s0_2 : Int) (s0_3 : Int) (s0_4 : Int) (p1p : Option Addr) (p1l : Nat) (p1c : Nat) (w : World) (J : Option Addr → Nat → Nat → World → Prop) : Prop :=
  newB w (.cells ⟨[.int .u32 s0_0, .int .u16 s0_1, .int .u16 s0_2, .int .u16 s0_3, .int .u16 s0_4]⟩ T_tape_sector) fun b2 w1 =>
  mkS w1 T_uint8 (zeroC Try.prog T_uint8) 1 1 (4 : Int) (64 : Int) fun b8 w2 =>
  ldI .u32 w2 ⟨b2, 0, none⟩ fun x11 =>
  callJ Try.prog fn_num_Put #[.slice (some ⟨b8, 0, none⟩) 4 64, .int .u64 (IntKind.u64.wrap x11), .int .i64 (4 : Int)] w2 [.one .slice] fun (r13p : Option Addr) (r13l : Nat) (r13c : Nat) (w3 : World) =>
  ldI .u16 w3 ⟨b2, 1, none⟩ fun x15 =>
  ldI .u16 w3 ⟨b2, 2, none⟩ fun x17 =>
  ldI .u16 w3 ⟨b2, 3, none⟩ fun x19 =>
  ldI .u16 w3 ⟨b2, 4, none⟩ fun x21 =>
  newB w3 (.cells ⟨[.int .u16 x15, .int .u16 x17, .int .u16 x19, .int .u16 x21]⟩ T_uint16) fun b22 w4 =>
  ∃ I_5 : Option Addr → Nat → Nat → Int → World → Nat → Prop, (∃ m : Nat, I_5 r13p r13l r13c (0 : Int) w4 m) ∧ ∀ (b5p : Option Addr) (b5l : Nat) (b5c : Nat) (x24 : Int) (w5 : World) (m : Nat), I_5 b5p b5l b5c x24 w5 m → (
  condB (decide (x24 < ((4 : Nat) : Int))) (
  idxA (some ⟨b22, 0, none⟩) 4 x24 fun a26 =>
  ldI .u16 w5 ((a26.add (x24.toNat * 1))) fun x27 =>
  callJ Try.prog fn_num_Put #[.slice b5p b5l b5c, .int .u64 (IntKind.u64.wrap x27), .int .i64 (2 : Int)] w5 [.one .slice] fun (r31p : Option Addr) (r31l : Nat) (r31c : Nat) (w6 : World) =>
  ∃ m' : Nat, m' < m ∧ I_5 r31p r31l r31c (w64 (x24 + (1 : Int))) w6 m') (
  appJ Try.prog T_sl_uint8 T_sl_uint8 (.slice b5p b5l b5c) (.slice p1p p1l p1c) w5 fun q35p q35l q35c w7 =>
  slS q35p q35l q35c 1 none (some (64 : Int)) none fun q36p q36l q36c =>
  slS q36p q36l q36c 1 (some (4 : Int)) none none fun q39p q39l q39c =>
  callJ Try.prog fn_tape_Sum #[.slice q39p q39l q39c] w7 [.one (.int .u32)] fun (r40 : Int) (w8 : World) =>
  callJ Try.prog fn_num_Put #[.slice none 0 0, .int .u64 (IntKind.u64.wrap r40), .int .i64 (4 : Int)] w8 [.one .slice] fun (r42p : Option Addr) (r42l : Nat) (r42c : Nat) (w9 : World) =>
  cpyJ Try.prog T_sl_uint8 T_sl_uint8 (.slice q36p q36l q36c) (.slice r42p r42l r42c) w9 fun x43 w10 =>
  J q36p q36l q36c w10))
def ann_tape_sector_lay : Ann := .s (.o) (.s (.o) (.s (.o) (.s (.s (.o) (.b (.l [(5, .slice), (24, .int .i64)] (.s (.o) (.s (.c (.o) (.o)) (.s (.b (.s (.o) (.o))) (.o))))))) (.s (.o) (.s (.o) (.s (.o) (.o)))))))
theorem eq_tape_sector_lay (s0_0 : Int) (s0_1 : Int) (s0_2 : Int) (s0_3 : Int) (s0_4 : Int) (p1p : Option Addr) (p1l : Nat) (p1c : Nat) (w : World) (J : Option Addr → Nat → Nat → World → Prop) : vcFun Try.prog Try.f60 ann_tape_sector_lay [.one .slice] [.agg ⟨[.int .u32 s0_0, .int .u16 s0_1, .int .u16 s0_2, .int .u16 s0_3, .int .u16 s0_4]⟩, .slice p1p p1l p1c] w J = VC_tape_sector_lay s0_0 s0_1 s0_2 s0_3 s0_4 p1p p1l p1c w J := by kernel_rfl
theorem c_tape_sector_lay {s0_0 : Int} {s0_1 : Int} {s0_2 : Int} {s0_3 : Int} {s0_4 : Int} {p1p : Option Addr} {p1l : Nat} {p1c : Nat} {w : World} {J : Option Addr → Nat → Nat → World → Prop} (h : VC_tape_sector_lay s0_0 s0_1 s0_2 s0_3 s0_4 p1p p1l p1c w J) : callJ Try.prog fn_tape_sector_lay #[.agg ⟨[.int .u32 s0_0, .int .u16 s0_1, .int .u16 s0_2, .int .u16 s0_3, .int .u16 s0_4]⟩, .slice p1p p1l p1c] w [.one .slice] J := vc_calls Try.func60 ann_tape_sector_lay (Eq.mpr (eq_tape_sector_lay s0_0 s0_1 s0_2 s0_3 s0_4 p1p p1l p1c w J) h)

/-- lectern/tape.sectors -/
def VC_tape_sectors (n0 : Int) (w : World) (J : Int → World → Prop) : Prop :=
  (48 : Int) ≠ 0 ∧
  J (if (w64 (Int.tdiv (w64 ((w64 (n0 + (48 : Int))) - (1 : Int))) (48 : Int))) > (1 : Int) then (w64 (Int.tdiv (w64 ((w64 (n0 + (48 : Int))) - (1 : Int))) (48 : Int))) else (1 : Int)) w
def ann_tape_sectors : Ann := .s (.o) (.s (.o) (.o))
theorem eq_tape_sectors (n0 : Int) (w : World) (J : Int → World → Prop) : vcFun Try.prog Try.f61 ann_tape_sectors [.one (.int .i64)] [.int .i64 n0] w J = VC_tape_sectors n0 w J := by kernel_rfl
theorem c_tape_sectors {n0 : Int} {w : World} {J : Int → World → Prop} (h : VC_tape_sectors n0 w J) : callJ Try.prog fn_tape_sectors #[.int .i64 n0] w [.one (.int .i64)] J := vc_calls Try.func61 ann_tape_sectors (Eq.mpr (eq_tape_sectors n0 w J) h)

/-- lectern/num.Of -/
def VC_num_Of (b0p : Option Addr) (b0l : Nat) (b0c : Nat) (wide1 : Int) (w : World) (J : Int → World → Prop) : Prop :=
  slS b0p b0l b0c 1 none (some wide1) none fun q10p q10l q10c =>
  ∃ I_5 : Int → Int → World → Nat → Prop, (∃ m : Nat, I_5 (0 : Int) (0 : Int) w m) ∧ ∀ (n5 : Int) (x12 : Int) (w1 : World) (m : Nat), I_5 n5 x12 w1 m → (
  condB (decide (x12 < ((q10l : Nat) : Int))) (
  idxA q10p q10l x12 fun a14 =>
  ldI .u8 w1 ((a14.add (x12.toNat * 1))) fun x15 =>
  0 ≤ (8 : Int) ∧
  ∃ m' : Nat, m' < m ∧ I_5 (bOr .u64 (shlI .u64 n5 (8 : Int)) (IntKind.u64.wrap x15)) (w64 (x12 + (1 : Int))) w1 m') (
  J n5 w1))
def ann_num_Of : Ann := .s (.o) (.s (.o) (.s (.s (.o) (.b (.l [(5, .int .u64), (12, .int .i64)] (.s (.o) (.s (.c (.o) (.o)) (.s (.b (.s (.o) (.o))) (.o))))))) (.s (.o) (.o))))
theorem eq_num_Of (b0p : Option Addr) (b0l : Nat) (b0c : Nat) (wide1 : Int) (w : World) (J : Int → World → Prop) : vcFun Try.prog Try.f58 ann_num_Of [.one (.int .u64)] [.slice b0p b0l b0c, .int .i64 wide1] w J = VC_num_Of b0p b0l b0c wide1 w J := by kernel_rfl
theorem c_num_Of {b0p : Option Addr} {b0l : Nat} {b0c : Nat} {wide1 : Int} {w : World} {J : Int → World → Prop} (h : VC_num_Of b0p b0l b0c wide1 w J) : callJ Try.prog fn_num_Of #[.slice b0p b0l b0c, .int .i64 wide1] w [.one (.int .u64)] J := vc_calls Try.func58 ann_num_Of (Eq.mpr (eq_num_Of b0p b0l b0c wide1 w J) h)

/-- lectern/num.Put -/
def VC_num_Put (b0p : Option Addr) (b0l : Nat) (b0c : Nat) (n1 : Int) (wide2 : Int) (w : World) (J : Option Addr → Nat → Nat → World → Prop) : Prop :=
  ∃ I_0 : Option Addr → Nat → Nat → Int → World → Nat → Prop, (∃ m : Nat, I_0 b0p b0l b0c (w64 (wide2 - (1 : Int))) w m) ∧ ∀ (b0p : Option Addr) (b0l : Nat) (b0c : Nat) (i7 : Int) (w1 : World) (m : Nat), I_0 b0p b0l b0c i7 w1 m → (
  condB (decide (i7 ≥ (0 : Int))) (
  0 ≤ (w64 ((8 : Int) * i7)) ∧
  newB w1 (.cells ⟨[.int .u8 (IntKind.u8.wrap (shrI .u64 n1 (w64 ((8 : Int) * i7))))]⟩ T_uint8) fun b20 w2 =>
  appJ Try.prog T_sl_uint8 T_sl_uint8 (.slice b0p b0l b0c) (.slice (some ⟨b20, 0, none⟩) 1 1) w2 fun q21p q21l q21c w3 =>
  ∃ m' : Nat, m' < m ∧ I_0 q21p q21l q21c (w64 (i7 - (1 : Int))) w3 m') (
  J b0p b0l b0c w1))
def ann_num_Put : Ann := .s (.o) (.s (.s (.o) (.b (.l [(0, .slice), (7, .int .i64)] (.s (.s (.o) (.c (.o) (.o))) (.s (.b (.o)) (.o)))))) (.s (.o) (.o)))
theorem eq_num_Put (b0p : Option Addr) (b0l : Nat) (b0c : Nat) (n1 : Int) (wide2 : Int) (w : World) (J : Option Addr → Nat → Nat → World → Prop) : vcFun Try.prog Try.f67 ann_num_Put [.one .slice] [.slice b0p b0l b0c, .int .u64 n1, .int .i64 wide2] w J = VC_num_Put b0p b0l b0c n1 wide2 w J := by kernel_rfl
theorem c_num_Put {b0p : Option Addr} {b0l : Nat} {b0c : Nat} {n1 : Int} {wide2 : Int} {w : World} {J : Option Addr → Nat → Nat → World → Prop} (h : VC_num_Put b0p b0l b0c n1 wide2 w J) : callJ Try.prog fn_num_Put #[.slice b0p b0l b0c, .int .u64 n1, .int .i64 wide2] w [.one .slice] J := vc_calls Try.func67 ann_num_Put (Eq.mpr (eq_num_Put b0p b0l b0c n1 wide2 w J) h)

/-- bytes.Equal -/
def VC_bytes_Equal (a0p : Option Addr) (a0l : Nat) (a0c : Nat) (b1p : Option Addr) (b1l : Nat) (b1c : Nat) (w : World) (J : Bool → World → Prop) : Prop :=
  bytesOf w a0p a0l fun bs6 =>
  bytesOf w b1p b1l fun bs8 =>
  J ((⟨bs6.toArray⟩ : ByteArray).toList == (⟨bs8.toArray⟩ : ByteArray).toList) w
def ann_bytes_Equal : Ann := .s (.o) (.s (.o) (.o))
theorem eq_bytes_Equal (a0p : Option Addr) (a0l : Nat) (a0c : Nat) (b1p : Option Addr) (b1l : Nat) (b1c : Nat) (w : World) (J : Bool → World → Prop) : vcFun Try.prog Try.f59 ann_bytes_Equal [.one .bool] [.slice a0p a0l a0c, .slice b1p b1l b1c] w J = VC_bytes_Equal a0p a0l a0c b1p b1l b1c w J := by kernel_rfl
theorem c_bytes_Equal {a0p : Option Addr} {a0l : Nat} {a0c : Nat} {b1p : Option Addr} {b1l : Nat} {b1c : Nat} {w : World} {J : Bool → World → Prop} (h : VC_bytes_Equal a0p a0l a0c b1p b1l b1c w J) : callJ Try.prog fn_bytes_Equal #[.slice a0p a0l a0c, .slice b1p b1l b1c] w [.one .bool] J := vc_calls Try.func59 ann_bytes_Equal (Eq.mpr (eq_bytes_Equal a0p a0l a0c b1p b1l b1c w J) h)

end Go.Proofs.Ytfhmnodoahcmnaa
