/- What the conditions of these functions are, reckoned by the reading; printed by program. -/
import Derived.Test.YtfhmnodoahcmnaaNm
import Derived.KernelRfl
set_option maxRecDepth 100000
set_option linter.unusedVariables false
namespace Go.Proofs.Ytfhmnodoahcmnaa
open Go Go.Vc

/-- lectern/lecternlaw14.awake -/
def VC_law14_awake  (w : World) (J : Bool → World → Prop) : Prop :=
  callJ Try.prog fn_drum_New #[.int .i64 (4 : Int)] w [.one .ptr, .one (.int .i64)] fun (r9_0 : Option Addr) (r9_1 : Int) (w1 : World) =>
  withJ (fun (x17 : Bool) (w2 : World) =>
  condB x17 (
  J false w2) (
  callJ Try.prog fn_tape_Open #[.pointer r9_0, .int .i64 (0 : Int), .int .i64 (4 : Int), .int .i64 (1 : Int)] w2 [.one .ptr, .one .slice, .one (.int .i64)] fun (r20_0 : Option Addr) (r20_1p : Option Addr) (r20_1l : Nat) (r20_1c : Nat) (r20_2 : Int) (w3 : World) =>
  withJ (fun (x34 : Bool) (w4 : World) =>
  condB x34 (
  J false w4) (
  mkS w4 T_uint8 (zeroC Try.prog T_uint8) 1 1 (49 : Int) (49 : Int) fun b36 w5 =>
  callJ Try.prog fn_tape_Tape_Append #[.pointer r20_0, .slice (some ⟨b36, 0, none⟩) 49 49] w5 [.one (.int .i64)] fun (r37 : Int) (w6 : World) =>
  callJ Try.prog fn_tape_Tape_Append #[.pointer r20_0, .slice none 0 0] w6 [.one (.int .i64)] fun (r39 : Int) (w7 : World) =>
  withJ (fun (x0 : Bool) (w8 : World) =>
  J x0 w8) fun J_0 =>
  newB w7 (.cells ⟨[.int .u8 (49 : Int), .int .u8 (50 : Int), .int .u8 (51 : Int), .int .u8 (52 : Int), .int .u8 (53 : Int), .int .u8 (54 : Int), .int .u8 (55 : Int), .int .u8 (56 : Int), .int .u8 (57 : Int)]⟩ T_uint8) fun b40 w9 =>
  cvJ Try.prog T_sl_uint8 T_sl_uint8 (.slice (some ⟨b40, 0, none⟩) 9 9) w9 fun q41p q41l q41c w10 =>
  callJ Try.prog fn_tape_Sum #[.slice q41p q41l q41c] w10 [.one (.int .u32)] fun (r42 : Int) (w11 : World) =>
  condB (r42 == (3421780262 : Int)) (
  condB (r37 == (0 : Int)) (
  condB (r39 == (0 : Int)) (
  callJ Try.prog fn_tape_Tape_Free #[.pointer r20_0] w11 [.one (.int .i64)] fun (r54 : Int) (w12 : World) =>
  condB (r54 == (1 : Int)) (
  callJ Try.prog fn_tape_Tape_Groups #[.pointer r20_0] w12 [.one (.int .i64)] fun (r59 : Int) (w13 : World) =>
  condB (r59 == (2 : Int)) (
  mkS w13 T_uint8 (zeroC Try.prog T_uint8) 1 1 (49 : Int) (49 : Int) fun b64 w14 =>
  callJ Try.prog fn_tape_Tape_Append #[.pointer r20_0, .slice (some ⟨b64, 0, none⟩) 49 49] w14 [.one (.int .i64)] fun (r65 : Int) (w15 : World) =>
  J_0 (r65 == (4 : Int)) w15) (
  J_0 false w13)) (
  J_0 false w12)) (
  J_0 false w11)) (
  J_0 false w11)) (
  J_0 false w11))) fun J_34 =>
  condB (r20_2 != (0 : Int)) (
  J_34 true w3) (
  condB r20_0.isNone (
  J_34 true w3) (
  J_34 (((r20_1l : Nat) : Int) != (0 : Int)) w3)))) fun J_17 =>
  condB (r9_1 != (0 : Int)) (
  J_17 true w1) (
  J_17 r9_0.isNone w1)
def ann_law14_awake : Ann := .s (.o) (.s (.o) (.s (.j [(17, .bool)] (.o) (.c (.s (.o) (.o)) (.o))) (.s (.o) (.s (.j [(34, .bool)] (.o) (.c (.s (.o) (.o)) (.o))) (.s (.o) (.j [(0, .bool)] (.o) (.o)))))))
theorem eq_law14_awake  (w : World) (J : Bool → World → Prop) : vcFun Try.prog Try.f31 ann_law14_awake [.one .bool] [] w J = VC_law14_awake  w J := by kernel_rfl
theorem c_law14_awake {w : World} {J : Bool → World → Prop} (h : VC_law14_awake  w J) : callJ Try.prog fn_law14_awake #[] w [.one .bool] J := vc_calls Try.func31 ann_law14_awake (Eq.mpr (eq_law14_awake  w J) h)

/-- lectern/lecternlaw14.filled -/
def VC_law14_filled (s0p : Option Addr) (s0l : Nat) (s0c : Nat) (w : World) (J : Option Addr → World → Prop) : Prop :=
  callJ Try.prog fn_drum_New #[.int .i64 ((s0l : Nat) : Int)] w [.one .ptr, .one (.int .i64)] fun (r10_0 : Option Addr) (r10_1 : Int) (w1 : World) =>
  withJ (fun (x18 : Bool) (w2 : World) =>
  condB x18 (
  J none w2) (
  ∃ I_21 : Int → World → Nat → Prop, (∃ m : Nat, I_21 (0 : Int) w2 m) ∧ ∀ (x21 : Int) (w3 : World) (m : Nat), I_21 x21 w3 m → (
  condB (decide (x21 < ((s0l : Nat) : Int))) (
  idxA s0p s0l x21 fun a24 =>
  ldS w3 ((a24.add (x21.toNat * 1))) fun x25p x25l x25c =>
  callJ Try.prog fn_ref01_Twin #[.slice x25p x25l x25c] w3 [.one .slice] fun (r29p : Option Addr) (r29l : Nat) (r29c : Nat) (w4 : World) =>
  callJ Try.prog fn_drum_Drum_Write #[.pointer r10_0, .int .i64 x21, .slice r29p r29l r29c] w4 [.one (.int .i64)] fun (r30 : Int) (w5 : World) =>
  condB (r30 != (0 : Int)) (
  J none w5) (
  ∃ m' : Nat, m' < m ∧ I_21 (w64 (x21 + (1 : Int))) w5 m')) (
  J r10_0 w3)))) fun J_18 =>
  condB (r10_1 != (0 : Int)) (
  J_18 true w1) (
  J_18 r10_0.isNone w1)
def ann_law14_filled : Ann := .s (.o) (.s (.o) (.s (.j [(18, .bool)] (.o) (.c (.s (.o) (.o)) (.o))) (.s (.s (.o) (.b (.l [(21, .int .i64)] (.s (.o) (.s (.c (.o) (.o)) (.s (.b (.s (.o) (.s (.o) (.c (.s (.o) (.o)) (.o))))) (.o))))))) (.s (.o) (.o)))))
theorem eq_law14_filled (s0p : Option Addr) (s0l : Nat) (s0c : Nat) (w : World) (J : Option Addr → World → Prop) : vcFun Try.prog Try.f38 ann_law14_filled [.one .ptr] [.slice s0p s0l s0c] w J = VC_law14_filled s0p s0l s0c w J := by kernel_rfl
theorem c_law14_filled {s0p : Option Addr} {s0l : Nat} {s0c : Nat} {w : World} {J : Option Addr → World → Prop} (h : VC_law14_filled s0p s0l s0c w J) : callJ Try.prog fn_law14_filled #[.slice s0p s0l s0c] w [.one .ptr] J := vc_calls Try.func38 ann_law14_filled (Eq.mpr (eq_law14_filled s0p s0l s0c w J) h)

/-- lectern/lecternlaw14.sectors -/
def VC_law14_sectors (b0p : Option Addr) (b0l : Nat) (b0c : Nat) (most1 : Int) (w : World) (J : Option Addr → Nat → Nat → World → Prop) : Prop :=
  ∃ I_5 : Option Addr → Nat → Nat → Int → World → Nat → Prop, (∃ m : Nat, I_5 none 0 0 (0 : Int) w m) ∧ ∀ (s5p : Option Addr) (s5l : Nat) (s5c : Nat) (i6 : Int) (w1 : World) (m : Nat), I_5 s5p s5l s5c i6 w1 m → (
  withJ (fun (x16 : Bool) (w2 : World) =>
  condB x16 (
  slS b0p b0l b0c 1 (some i6) (some (if (w64 (i6 + (64 : Int))) < ((b0l : Nat) : Int) then (w64 (i6 + (64 : Int))) else ((b0l : Nat) : Int))) none fun q27p q27l q27c =>
  callJ Try.prog fn_ref14_Fill #[.slice q27p q27l q27c, .int .i64 (64 : Int)] w2 [.one .slice] fun (r28p : Option Addr) (r28l : Nat) (r28c : Nat) (w3 : World) =>
  newB w3 (.cells ⟨[.slice r28p r28l r28c]⟩ T_sl_uint8) fun b29 w4 =>
  appJ Try.prog T_sl_sl_uint8 T_sl_sl_uint8 (.slice s5p s5l s5c) (.slice (some ⟨b29, 0, none⟩) 1 1) w4 fun q30p q30l q30c w5 =>
  ∃ m' : Nat, m' < m ∧ I_5 q30p q30l q30c (w64 (i6 + (64 : Int))) w5 m') (
  J s5p s5l s5c w2)) fun J_16 =>
  condB (decide (i6 < ((b0l : Nat) : Int))) (
  J_16 (decide (((s5l : Nat) : Int) < most1)) w1) (
  J_16 false w1))
def ann_law14_sectors : Ann := .s (.o) (.s (.o) (.s (.s (.o) (.b (.l [(5, .slice), (6, .int .i64)] (.s (.j [(16, .bool)] (.o) (.c (.o) (.o))) (.s (.b (.o)) (.o)))))) (.s (.o) (.o))))
theorem eq_law14_sectors (b0p : Option Addr) (b0l : Nat) (b0c : Nat) (most1 : Int) (w : World) (J : Option Addr → Nat → Nat → World → Prop) : vcFun Try.prog Try.f37 ann_law14_sectors [.one .slice] [.slice b0p b0l b0c, .int .i64 most1] w J = VC_law14_sectors b0p b0l b0c most1 w J := by kernel_rfl
theorem c_law14_sectors {b0p : Option Addr} {b0l : Nat} {b0c : Nat} {most1 : Int} {w : World} {J : Option Addr → Nat → Nat → World → Prop} (h : VC_law14_sectors b0p b0l b0c most1 w J) : callJ Try.prog fn_law14_sectors #[.slice b0p b0l b0c, .int .i64 most1] w [.one .slice] J := vc_calls Try.func37 ann_law14_sectors (Eq.mpr (eq_law14_sectors b0p b0l b0c most1 w J) h)

/-- lectern/lecternlaw14.all -/
def VC_law14_all (d0 : Option Addr) (w : World) (J : Option Addr → Nat → Nat → World → Prop) : Prop :=
  callJ Try.prog fn_drum_Drum_Sectors #[.pointer d0] w [.one (.int .i64)] fun (r8 : Int) (w1 : World) =>
  ∃ I_3 : Option Addr → Nat → Nat → Int → World → Nat → Prop, (∃ m : Nat, I_3 none 0 0 (0 : Int) w1 m) ∧ ∀ (s3p : Option Addr) (s3l : Nat) (s3c : Nat) (x9 : Int) (w2 : World) (m : Nat), I_3 s3p s3l s3c x9 w2 m → (
  condB (decide (x9 < r8)) (
  callJ Try.prog fn_drum_Drum_Read #[.pointer d0, .int .i64 x9] w2 [.one .slice, .one (.int .i64)] fun (r15_0p : Option Addr) (r15_0l : Nat) (r15_0c : Nat) (r15_1 : Int) (w3 : World) =>
  condB (r15_1 != (0 : Int)) (
  J none 0 0 w3) (
  newB w3 (.cells ⟨[.slice r15_0p r15_0l r15_0c]⟩ T_sl_uint8) fun b22 w4 =>
  appJ Try.prog T_sl_sl_uint8 T_sl_sl_uint8 (.slice s3p s3l s3c) (.slice (some ⟨b22, 0, none⟩) 1 1) w4 fun q23p q23l q23c w5 =>
  ∃ m' : Nat, m' < m ∧ I_3 q23p q23l q23c (w64 (x9 + (1 : Int))) w5 m')) (
  J s3p s3l s3c w2))
def ann_law14_all : Ann := .s (.o) (.s (.o) (.s (.s (.o) (.b (.l [(3, .slice), (9, .int .i64)] (.s (.o) (.s (.c (.o) (.o)) (.s (.b (.s (.o) (.s (.o) (.s (.s (.o) (.c (.s (.o) (.o)) (.o))) (.o))))) (.o))))))) (.s (.o) (.o))))
theorem eq_law14_all (d0 : Option Addr) (w : World) (J : Option Addr → Nat → Nat → World → Prop) : vcFun Try.prog Try.f42 ann_law14_all [.one .slice] [.pointer d0] w J = VC_law14_all d0 w J := by kernel_rfl
theorem c_law14_all {d0 : Option Addr} {w : World} {J : Option Addr → Nat → Nat → World → Prop} (h : VC_law14_all d0 w J) : callJ Try.prog fn_law14_all #[.pointer d0] w [.one .slice] J := vc_calls Try.func42 ann_law14_all (Eq.mpr (eq_law14_all d0 w J) h)

/-- lectern/lecternlaw14.same -/
def VC_law14_same (a0p : Option Addr) (a0l : Nat) (a0c : Nat) (b1p : Option Addr) (b1l : Nat) (b1c : Nat) (w : World) (J : Bool → World → Prop) : Prop :=
  condB (((a0l : Nat) : Int) != ((b1l : Nat) : Int)) (
  J false w) (
  ∃ I_13 : Int → World → Nat → Prop, (∃ m : Nat, I_13 (0 : Int) w m) ∧ ∀ (x13 : Int) (w1 : World) (m : Nat), I_13 x13 w1 m → (
  condB (decide (x13 < ((a0l : Nat) : Int))) (
  idxA a0p a0l x13 fun a18 =>
  ldS w1.drew ((a18.add (x13.toNat * 1))) fun x19p x19l x19c =>
  bytesOf w1.drew x19p x19l fun bs20 =>
  idxA b1p b1l x13 fun a23 =>
  ldS w1.drew ((a23.add (x13.toNat * 1))) fun x24p x24l x24c =>
  bytesOf w1.drew x24p x24l fun bs25 =>
  condB (!((⟨bs20.toArray⟩ : ByteArray).toList == (⟨bs25.toArray⟩ : ByteArray).toList)) (
  J false w1.drew) (
  ∃ m' : Nat, m' < m ∧ I_13 (w64 (x13 + (1 : Int))) w1.drew m')) (
  J true w1)))
def ann_law14_same : Ann := .s (.o) (.s (.s (.o) (.c (.s (.o) (.o)) (.o))) (.s (.s (.o) (.b (.l [(13, .int .i64)] (.s (.o) (.s (.c (.o) (.o)) (.s (.b (.s (.o) (.s (.d (.take 0 (.take 1 (.take 2 (.take 3 (.take 4 (.take 5 (.take 6 (.take 7 (.take 8 (.take 9 (.take 10 (.done))))))))))))) (.c (.s (.o) (.o)) (.o))))) (.o))))))) (.s (.o) (.o))))
theorem eq_law14_same (a0p : Option Addr) (a0l : Nat) (a0c : Nat) (b1p : Option Addr) (b1l : Nat) (b1c : Nat) (w : World) (J : Bool → World → Prop) : vcFun Try.prog Try.f40 ann_law14_same [.one .bool] [.slice a0p a0l a0c, .slice b1p b1l b1c] w J = VC_law14_same a0p a0l a0c b1p b1l b1c w J := by kernel_rfl
theorem c_law14_same {a0p : Option Addr} {a0l : Nat} {a0c : Nat} {b1p : Option Addr} {b1l : Nat} {b1c : Nat} {w : World} {J : Bool → World → Prop} (h : VC_law14_same a0p a0l a0c b1p b1l b1c w J) : callJ Try.prog fn_law14_same #[.slice a0p a0l a0c, .slice b1p b1l b1c] w [.one .bool] J := vc_calls Try.func40 ann_law14_same (Eq.mpr (eq_law14_same a0p a0l a0c b1p b1l b1c w J) h)

/-- lectern/lecternlaw14.lasted -/
def VC_law14_lasted (d0 : Option Addr) (put1p : Option Addr) (put1l : Nat) (put1c : Nat) (safe2 : Int) (keep3p : Option Addr) (keep3l : Nat) (keep3c : Nat) (w : World) (J : Bool → World → Prop) : Prop :=
  newB w (.cells ⟨[]⟩ T_bool) fun b13 w1 =>
  appJ Try.prog T_sl_bool T_sl_bool (.slice (some ⟨b13, 0, none⟩) 0 0) (.slice keep3p keep3l keep3c) w1 fun q15p q15l q15c w2 =>
  callJ Try.prog fn_drum_Drum_Crash #[.pointer d0, .slice q15p q15l q15c] w2 [.one (.int .i64)] fun (r16 : Int) (w3 : World) =>
  condB (r16 != (0 : Int)) (
  J false w3) (
  ∃ I_18 : Int → World → Nat → Prop, (∃ m : Nat, I_18 (0 : Int) w3 m) ∧ ∀ (x18 : Int) (w4 : World) (m : Nat), I_18 x18 w4 m → (
  condB (decide (x18 < (2 : Int))) (
  callJ Try.prog fn_tape_Open #[.pointer d0, .int .i64 (2 : Int), .int .i64 (40 : Int), .int .i64 (7 : Int)] w4 [.one .ptr, .one .slice, .one (.int .i64)] fun (r22_0 : Option Addr) (r22_1p : Option Addr) (r22_1l : Nat) (r22_1c : Nat) (r22_2 : Int) (w5 : World) =>
  withJ (fun (x58 : Bool) (w6 : World) =>
  condB x58 (
  J false w6) (
  ∃ m' : Nat, m' < m ∧ I_18 (w64 (x18 + (1 : Int))) w6 m')) fun J_58 =>
  condB (r22_2 != (0 : Int)) (
  J_58 true w5) (
  condB r22_0.isNone (
  J_58 true w5) (
  condB (decide (((r22_1l : Nat) : Int) < safe2)) (
  J_58 true w5) (
  condB (decide (((r22_1l : Nat) : Int) > ((put1l : Nat) : Int))) (
  J_58 true w5) (
  slS put1p put1l put1c 1 none (some ((r22_1l : Nat) : Int)) none fun q50p q50l q50c =>
  callJ Try.prog fn_law14_same #[.slice r22_1p r22_1l r22_1c, .slice q50p q50l q50c] w5 [.one .bool] fun (r51 : Bool) (w7 : World) =>
  condB (!r51) (
  J_58 true w7) (
  callJ Try.prog fn_drum_Drum_Crash #[.pointer d0, .slice none 0 0] w7 [.one (.int .i64)] fun (r56 : Int) (w8 : World) =>
  J_58 (r56 != (0 : Int)) w8)))))) (
  J true w4)))
def ann_law14_lasted : Ann := .s (.o) (.s (.s (.o) (.c (.s (.o) (.o)) (.o))) (.s (.s (.o) (.b (.l [(18, .int .i64)] (.s (.o) (.s (.c (.o) (.o)) (.s (.b (.s (.o) (.j [(58, .bool)] (.o) (.c (.s (.o) (.o)) (.o))))) (.o))))))) (.s (.o) (.o))))
theorem eq_law14_lasted (d0 : Option Addr) (put1p : Option Addr) (put1l : Nat) (put1c : Nat) (safe2 : Int) (keep3p : Option Addr) (keep3l : Nat) (keep3c : Nat) (w : World) (J : Bool → World → Prop) : vcFun Try.prog Try.f45 ann_law14_lasted [.one .bool] [.pointer d0, .slice put1p put1l put1c, .int .i64 safe2, .slice keep3p keep3l keep3c] w J = VC_law14_lasted d0 put1p put1l put1c safe2 keep3p keep3l keep3c w J := by kernel_rfl
theorem c_law14_lasted {d0 : Option Addr} {put1p : Option Addr} {put1l : Nat} {put1c : Nat} {safe2 : Int} {keep3p : Option Addr} {keep3l : Nat} {keep3c : Nat} {w : World} {J : Bool → World → Prop} (h : VC_law14_lasted d0 put1p put1l put1c safe2 keep3p keep3l keep3c w J) : callJ Try.prog fn_law14_lasted #[.pointer d0, .slice put1p put1l put1c, .int .i64 safe2, .slice keep3p keep3l keep3c] w [.one .bool] J := vc_calls Try.func45 ann_law14_lasted (Eq.mpr (eq_law14_lasted d0 put1p put1l put1c safe2 keep3p keep3l keep3c w J) h)

/-- lectern/lecternlaw14.TapeSums -/
def VC_law14_TapeSums (p0p : Option Addr) (p0l : Nat) (p0c : Nat) (at1 : Int) (by2 : Int) (w : World) (J : Bool → World → Prop) : Prop :=
  callJ Try.prog fn_law14_awake #[] w [.one .bool] fun (r10 : Bool) (w1 : World) =>
  condB (!r10) (
  J false w1) (
  callJ Try.prog fn_tape_Sum #[.slice p0p p0l p0c] w1 [.one (.int .u32)] fun (r13 : Int) (w2 : World) =>
  callJ Try.prog fn_ref14_Sum #[.slice p0p p0l p0c] w2 [.one (.int .u32)] fun (r16 : Int) (w3 : World) =>
  condB (r13 != r16) (
  J false w3) (
  withJ (fun (x24 : Bool) (w4 : World) =>
  condB x24 (
  J true w4) (
  callJ Try.prog fn_ref01_Twin #[.slice p0p p0l p0c] w4 [.one .slice] fun (r26p : Option Addr) (r26l : Nat) (r26c : Nat) (w5 : World) =>
  (IntKind.u64.wrap ((p0l : Nat) : Int)) ≠ 0 ∧
  idxA r26p r26l (w64 (Int.tmod (IntKind.u64.wrap at1) (IntKind.u64.wrap ((p0l : Nat) : Int)))) fun a36 =>
  ldI .u8 w5 ((a36.add ((w64 (Int.tmod (IntKind.u64.wrap at1) (IntKind.u64.wrap ((p0l : Nat) : Int)))).toNat * 1))) fun x37 =>
  idxA r26p r26l (w64 (Int.tmod (IntKind.u64.wrap at1) (IntKind.u64.wrap ((p0l : Nat) : Int)))) fun a40 =>
  stV w5 ((a40.add ((w64 (Int.tmod (IntKind.u64.wrap at1) (IntKind.u64.wrap ((p0l : Nat) : Int)))).toNat * 1))) (.int .u8 (bXor .u8 x37 by2)) fun w6 =>
  callJ Try.prog fn_tape_Sum #[.slice r26p r26l r26c] w6 [.one (.int .u32)] fun (r42 : Int) (w7 : World) =>
  J (r42 != r13) w7)) fun J_24 =>
  condB (((p0l : Nat) : Int) == (0 : Int)) (
  J_24 true w3) (
  J_24 (by2 == (0 : Int)) w3)))
def ann_law14_TapeSums : Ann := .s (.o) (.s (.s (.o) (.c (.s (.o) (.o)) (.o))) (.s (.o) (.s (.s (.o) (.c (.s (.o) (.o)) (.o))) (.s (.j [(24, .bool)] (.o) (.c (.s (.o) (.o)) (.o))) (.s (.o) (.s (.o) (.s (.o) (.s (.o) (.o)))))))))
theorem eq_law14_TapeSums (p0p : Option Addr) (p0l : Nat) (p0c : Nat) (at1 : Int) (by2 : Int) (w : World) (J : Bool → World → Prop) : vcFun Try.prog Try.f8 ann_law14_TapeSums [.one .bool] [.slice p0p p0l p0c, .int .i64 at1, .int .u8 by2] w J = VC_law14_TapeSums p0p p0l p0c at1 by2 w J := by kernel_rfl
theorem c_law14_TapeSums {p0p : Option Addr} {p0l : Nat} {p0c : Nat} {at1 : Int} {by2 : Int} {w : World} {J : Bool → World → Prop} (h : VC_law14_TapeSums p0p p0l p0c at1 by2 w J) : callJ Try.prog fn_law14_TapeSums #[.slice p0p p0l p0c, .int .i64 at1, .int .u8 by2] w [.one .bool] J := vc_calls Try.func8 ann_law14_TapeSums (Eq.mpr (eq_law14_TapeSums p0p p0l p0c at1 by2 w J) h)

/-- lectern/lecternlaw14.TapeTurns -/
def VC_law14_TapeTurns (groups0p : Option Addr) (groups0l : Nat) (groups0c : Nat) (at1 : Int) (by2 : Int) (w : World) (J : Bool → World → Prop) : Prop :=
  callJ Try.prog fn_law14_awake #[] w [.one .bool] fun (r23 : Bool) (w1 : World) =>
  condB (!r23) (
  J false w1) (
  callJ Try.prog fn_drum_New #[.int .i64 (60 : Int)] w1 [.one .ptr, .one (.int .i64)] fun (r26_0 : Option Addr) (r26_1 : Int) (w2 : World) =>
  withJ (fun (x34 : Bool) (w3 : World) =>
  condB x34 (
  J false w3) (
  callJ Try.prog fn_tape_Open #[.pointer r26_0, .int .i64 (0 : Int), .int .i64 (60 : Int), .int .i64 (3 : Int)] w3 [.one .ptr, .one .slice, .one (.int .i64)] fun (r37_0 : Option Addr) (r37_1p : Option Addr) (r37_1l : Nat) (r37_1c : Nat) (r37_2 : Int) (w4 : World) =>
  withJ (fun (x46 : Bool) (w5 : World) =>
  condB x46 (
  J false w5) (
  ∃ I_12 : Option Addr → Nat → Nat → Int → World → Nat → Prop, (∃ m : Nat, I_12 none 0 0 (0 : Int) w5 m) ∧ ∀ (ends12p : Option Addr) (ends12l : Nat) (ends12c : Nat) (x49 : Int) (w6 : World) (m : Nat), I_12 ends12p ends12l ends12c x49 w6 m → (
  condB (decide (x49 < ((groups0l : Nat) : Int))) (
  withJ (fun (ends12_1p : Option Addr) (ends12_1l : Nat) (ends12_1c : Nat) (w7 : World) =>
  ∃ m' : Nat, m' < m ∧ I_12 ends12_1p ends12_1l ends12_1c (w64 (x49 + (1 : Int))) w7 m') fun J_12 =>
  idxA groups0p groups0l x49 fun a51 =>
  ldS w6 ((a51.add (x49.toNat * 1))) fun x52p x52l x52c =>
  callJ Try.prog fn_ref01_Twin #[.slice x52p x52l x52c] w6 [.one .slice] fun (r55p : Option Addr) (r55l : Nat) (r55c : Nat) (w8 : World) =>
  callJ Try.prog fn_tape_Tape_Append #[.pointer r37_0, .slice r55p r55l r55c] w8 [.one (.int .i64)] fun (r56 : Int) (w9 : World) =>
  condB (r56 == (0 : Int)) (
  callJ Try.prog fn_tape_Tape_Free #[.pointer r37_0] w9 [.one (.int .i64)] fun (r60 : Int) (w10 : World) =>
  newB w10 (.cells ⟨[.int .i64 (w64 ((60 : Int) - r60))]⟩ T_int) fun b62 w11 =>
  appJ Try.prog T_sl_int T_sl_int (.slice ends12p ends12l ends12c) (.slice (some ⟨b62, 0, none⟩) 1 1) w11 fun q63p q63l q63c w12 =>
  J_12 q63p q63l q63c w12) (
  J_12 ends12p ends12l ends12c w9)) (
  callJ Try.prog fn_tape_Tape_Free #[.pointer r37_0] w6 [.one (.int .i64)] fun (r66 : Int) (w13 : World) =>
  withJ (fun (x73 : Bool) (w14 : World) =>
  condB x73 (
  J true w14) (
  (IntKind.u64.wrap (w64 ((w64 ((60 : Int) - r66)) * (64 : Int)))) ≠ 0 ∧
  (64 : Int) ≠ 0 ∧
  callJ Try.prog fn_drum_Drum_Read #[.pointer r26_0, .int .i64 (w64 (Int.tdiv (w64 (Int.tmod (IntKind.u64.wrap at1) (IntKind.u64.wrap (w64 ((w64 ((60 : Int) - r66)) * (64 : Int)))))) (64 : Int)))] w14 [.one .slice, .one (.int .i64)] fun (r85_0p : Option Addr) (r85_0l : Nat) (r85_0c : Nat) (r85_1 : Int) (w15 : World) =>
  condB (r85_1 != (0 : Int)) (
  J false w15) (
  (64 : Int) ≠ 0 ∧
  idxA r85_0p r85_0l (Int.tmod (w64 (Int.tmod (IntKind.u64.wrap at1) (IntKind.u64.wrap (w64 ((w64 ((60 : Int) - r66)) * (64 : Int)))))) (64 : Int)) fun a93 =>
  ldI .u8 w15 ((a93.add ((Int.tmod (w64 (Int.tmod (IntKind.u64.wrap at1) (IntKind.u64.wrap (w64 ((w64 ((60 : Int) - r66)) * (64 : Int)))))) (64 : Int)).toNat * 1))) fun x94 =>
  idxA r85_0p r85_0l (Int.tmod (w64 (Int.tmod (IntKind.u64.wrap at1) (IntKind.u64.wrap (w64 ((w64 ((60 : Int) - r66)) * (64 : Int)))))) (64 : Int)) fun a97 =>
  stV w15 ((a97.add ((Int.tmod (w64 (Int.tmod (IntKind.u64.wrap at1) (IntKind.u64.wrap (w64 ((w64 ((60 : Int) - r66)) * (64 : Int)))))) (64 : Int)).toNat * 1))) (.int .u8 (bXor .u8 x94 by2)) fun w16 =>
  (64 : Int) ≠ 0 ∧
  callJ Try.prog fn_drum_Drum_Write #[.pointer r26_0, .int .i64 (w64 (Int.tdiv (w64 (Int.tmod (IntKind.u64.wrap at1) (IntKind.u64.wrap (w64 ((w64 ((60 : Int) - r66)) * (64 : Int)))))) (64 : Int))), .slice r85_0p r85_0l r85_0c] w16 [.one (.int .i64)] fun (r102 : Int) (w17 : World) =>
  condB (r102 != (0 : Int)) (
  J false w17) (
  ∃ I_19 : Int → World → Nat → Prop, (∃ m : Nat, I_19 (0 : Int) w17 m) ∧ ∀ (want19 : Int) (w18 : World) (m_1 : Nat), I_19 want19 w18 m_1 → (
  withJ (fun (x116 : Bool) (w19 : World) =>
  condB x116 (
  ∃ m' : Nat, m' < m_1 ∧ I_19 (w64 (want19 + (1 : Int))) w19 m') (
  callJ Try.prog fn_tape_Open #[.pointer r26_0, .int .i64 (0 : Int), .int .i64 (60 : Int), .int .i64 (3 : Int)] w19 [.one .ptr, .one .slice, .one (.int .i64)] fun (r121_0 : Option Addr) (r121_1p : Option Addr) (r121_1l : Nat) (r121_1c : Nat) (r121_2 : Int) (w20 : World) =>
  withJ (fun (x6 : Bool) (w21 : World) =>
  J x6 w21) fun J_6 =>
  condB (r121_2 == (0 : Int)) (
  J_6 (((r121_1l : Nat) : Int) == want19) w20) (
  J_6 false w20))) fun J_116 =>
  condB (decide (want19 < ((ends12l : Nat) : Int))) (
  idxA ends12p ends12l want19 fun a111 =>
  ldI .i64 w18 ((a111.add (want19.toNat * 1))) fun x112 =>
  (64 : Int) ≠ 0 ∧
  J_116 (decide (x112 ≤ (w64 (Int.tdiv (w64 (Int.tmod (IntKind.u64.wrap at1) (IntKind.u64.wrap (w64 ((w64 ((60 : Int) - r66)) * (64 : Int)))))) (64 : Int))))) w18) (
  J_116 false w18)))))) fun J_73 =>
  condB ((w64 ((60 : Int) - r66)) == (0 : Int)) (
  J_73 true w13) (
  J_73 (by2 == (0 : Int)) w13))))) fun J_46 =>
  condB (r37_2 != (0 : Int)) (
  J_46 true w4) (
  J_46 r37_0.isNone w4))) fun J_34 =>
  condB (r26_1 != (0 : Int)) (
  J_34 true w2) (
  J_34 r26_0.isNone w2))
def ann_law14_TapeTurns : Ann := .s (.o) (.s (.s (.o) (.c (.s (.o) (.o)) (.o))) (.s (.o) (.s (.j [(34, .bool)] (.o) (.c (.s (.o) (.o)) (.o))) (.s (.o) (.s (.j [(46, .bool)] (.o) (.c (.s (.o) (.o)) (.o))) (.s (.o) (.s (.s (.o) (.b (.l [(12, .slice), (49, .int .i64)] (.s (.o) (.s (.c (.o) (.o)) (.j [(12, .slice)] (.b (.s (.o) (.s (.o) (.c (.o) (.o))))) (.o))))))) (.s (.o) (.s (.j [(73, .bool)] (.o) (.c (.s (.o) (.o)) (.o))) (.s (.o) (.s (.o) (.s (.s (.o) (.c (.s (.o) (.o)) (.o))) (.s (.o) (.s (.s (.o) (.c (.s (.o) (.o)) (.o))) (.s (.o) (.s (.b (.l [(19, .int .i64)] (.s (.j [(116, .bool)] (.o) (.c (.o) (.o))) (.b (.o))))) (.s (.o) (.j [(6, .bool)] (.o) (.o)))))))))))))))))))
theorem eq_law14_TapeTurns (groups0p : Option Addr) (groups0l : Nat) (groups0c : Nat) (at1 : Int) (by2 : Int) (w : World) (J : Bool → World → Prop) : vcFun Try.prog Try.f9 ann_law14_TapeTurns [.one .bool] [.slice groups0p groups0l groups0c, .int .i64 at1, .int .u8 by2] w J = VC_law14_TapeTurns groups0p groups0l groups0c at1 by2 w J := by kernel_rfl
theorem c_law14_TapeTurns {groups0p : Option Addr} {groups0l : Nat} {groups0c : Nat} {at1 : Int} {by2 : Int} {w : World} {J : Bool → World → Prop} (h : VC_law14_TapeTurns groups0p groups0l groups0c at1 by2 w J) : callJ Try.prog fn_law14_TapeTurns #[.slice groups0p groups0l groups0c, .int .i64 at1, .int .u8 by2] w [.one .bool] J := vc_calls Try.func9 ann_law14_TapeTurns (Eq.mpr (eq_law14_TapeTurns groups0p groups0l groups0c at1 by2 w J) h)

/-- lectern/lecternlaw14.TapeOpens -/
def VC_law14_TapeOpens (b0p : Option Addr) (b0l : Nat) (b0c : Nat) (lo1 : Int) (hi2 : Int) (gen3 : Int) (w : World) (J : Bool → World → Prop) : Prop :=
  callJ Try.prog fn_law14_awake #[] w [.one .bool] fun (r21 : Bool) (w1 : World) =>
  condB (!r21) (
  J false w1) (
  callJ Try.prog fn_law14_sectors #[.slice b0p b0l b0c, .int .i64 (100 : Int)] w1 [.one .slice] fun (r24p : Option Addr) (r24l : Nat) (r24c : Nat) (w2 : World) =>
  condB (((r24l : Nat) : Int) == (0 : Int)) (
  callJ Try.prog fn_tape_Open #[.pointer none, .int .i64 lo1, .int .i64 hi2, .int .i64 gen3] w2 [.one .ptr, .one .slice, .one (.int .i64)] fun (r32_0 : Option Addr) (r32_1p : Option Addr) (r32_1l : Nat) (r32_1c : Nat) (r32_2 : Int) (w3 : World) =>
  withJ (fun (x8 : Bool) (w4 : World) =>
  J x8 w4) fun J_8 =>
  condB r32_0.isNone (
  condB (((r32_1l : Nat) : Int) == (0 : Int)) (
  J_8 (r32_2 == (2 : Int)) w3) (
  J_8 false w3)) (
  J_8 false w3)) (
  callJ Try.prog fn_law14_filled #[.slice r24p r24l r24c] w2 [.one .ptr] fun (r48 : Option Addr) (w5 : World) =>
  condB r48.isNone (
  J false w5) (
  callJ Try.prog fn_drum_Drum_Steps #[.pointer r48] w5 [.one (.int .i64)] fun (r52 : Int) (w6 : World) =>
  callJ Try.prog fn_drum_Drum_Loose #[.pointer r48] w6 [.one (.int .i64)] fun (r54 : Int) (w7 : World) =>
  callJ Try.prog fn_tape_Open #[.pointer r48, .int .i64 lo1, .int .i64 hi2, .int .i64 gen3] w7 [.one .ptr, .one .slice, .one (.int .i64)] fun (r60_0 : Option Addr) (r60_1p : Option Addr) (r60_1l : Nat) (r60_1c : Nat) (r60_2 : Int) (w8 : World) =>
  withJ (fun (x84 : Bool) (w9 : World) =>
  condB x84 (
  withJ (fun (x8_1 : Bool) (w10 : World) =>
  J x8_1 w10) fun J_8_1 =>
  condB r60_0.isNone (
  condB (((r60_1l : Nat) : Int) == (0 : Int)) (
  condB (r60_2 == (1 : Int)) (
  callJ Try.prog fn_drum_Drum_Steps #[.pointer r48] w9 [.one (.int .i64)] fun (r98 : Int) (w11 : World) =>
  J_8_1 (r98 == r52) w11) (
  J_8_1 false w9)) (
  J_8_1 false w9)) (
  J_8_1 false w9)) (
  slS r24p r24l r24c 1 (some lo1) (some hi2) none fun q106p q106l q106c =>
  callJ Try.prog fn_ref14_Groups #[.slice q106p q106l q106c, .int .i64 gen3] w9 [.one .slice, .one (.int .i64)] fun (r108_0p : Option Addr) (r108_0l : Nat) (r108_0c : Nat) (r108_1 : Int) (w12 : World) =>
  withJ (fun (x155 : Bool) (w13 : World) =>
  condB x155 (
  J false w13) (
  callJ Try.prog fn_law14_all #[.pointer r48] w13 [.one .slice] fun (r157p : Option Addr) (r157l : Nat) (r157c : Nat) (w14 : World) =>
  callJ Try.prog fn_law14_same #[.slice r157p r157l r157c, .slice r24p r24l r24c] w14 [.one .bool] fun (r159 : Bool) (w15 : World) =>
  J r159 w15)) fun J_155 =>
  condB (r60_2 != (0 : Int)) (
  J_155 true w12) (
  condB r60_0.isNone (
  J_155 true w12) (
  callJ Try.prog fn_law14_same #[.slice r60_1p r60_1l r60_1c, .slice r108_0p r108_0l r108_0c] w12 [.one .bool] fun (r120 : Bool) (w16 : World) =>
  condB (!r120) (
  J_155 true w16) (
  callJ Try.prog fn_tape_Tape_Groups #[.pointer r60_0] w16 [.one (.int .i64)] fun (r125 : Int) (w17 : World) =>
  condB (r125 != ((r108_0l : Nat) : Int)) (
  J_155 true w17) (
  callJ Try.prog fn_tape_Tape_Free #[.pointer r60_0] w17 [.one (.int .i64)] fun (r132 : Int) (w18 : World) =>
  condB (r132 != (w64 ((w64 (hi2 - lo1)) - r108_1))) (
  J_155 true w18) (
  callJ Try.prog fn_drum_Drum_Steps #[.pointer r48] w18 [.one (.int .i64)] fun (r142 : Int) (w19 : World) =>
  condB (decide ((w64 (r142 - r52)) > (w64 (hi2 - lo1)))) (
  J_155 true w19) (
  callJ Try.prog fn_drum_Drum_Loose #[.pointer r48] w19 [.one (.int .i64)] fun (r152 : Int) (w20 : World) =>
  J_155 (r152 != r54) w20)))))))) fun J_84 =>
  condB (decide (lo1 < (0 : Int))) (
  J_84 true w8) (
  condB (decide (hi2 > ((r24l : Nat) : Int))) (
  J_84 true w8) (
  condB (decide (lo1 ≥ hi2)) (
  J_84 true w8) (
  condB (decide (gen3 < (1 : Int))) (
  J_84 true w8) (
  J_84 (decide (gen3 > (4294967295 : Int))) w8)))))))
def ann_law14_TapeOpens : Ann := .s (.o) (.s (.s (.o) (.c (.s (.o) (.o)) (.o))) (.s (.o) (.s (.s (.o) (.c (.s (.o) (.j [(8, .bool)] (.o) (.o))) (.o))) (.s (.o) (.s (.s (.o) (.c (.s (.o) (.o)) (.o))) (.s (.o) (.s (.o) (.s (.j [(84, .bool)] (.o) (.c (.j [(8, .bool)] (.o) (.o)) (.o))) (.s (.o) (.s (.j [(155, .bool)] (.o) (.c (.s (.o) (.o)) (.o))) (.s (.o) (.o))))))))))))
theorem eq_law14_TapeOpens (b0p : Option Addr) (b0l : Nat) (b0c : Nat) (lo1 : Int) (hi2 : Int) (gen3 : Int) (w : World) (J : Bool → World → Prop) : vcFun Try.prog Try.f10 ann_law14_TapeOpens [.one .bool] [.slice b0p b0l b0c, .int .i64 lo1, .int .i64 hi2, .int .i64 gen3] w J = VC_law14_TapeOpens b0p b0l b0c lo1 hi2 gen3 w J := by kernel_rfl
theorem c_law14_TapeOpens {b0p : Option Addr} {b0l : Nat} {b0c : Nat} {lo1 : Int} {hi2 : Int} {gen3 : Int} {w : World} {J : Bool → World → Prop} (h : VC_law14_TapeOpens b0p b0l b0c lo1 hi2 gen3 w J) : callJ Try.prog fn_law14_TapeOpens #[.slice b0p b0l b0c, .int .i64 lo1, .int .i64 hi2, .int .i64 gen3] w [.one .bool] J := vc_calls Try.func10 ann_law14_TapeOpens (Eq.mpr (eq_law14_TapeOpens b0p b0l b0c lo1 hi2 gen3 w J) h)

/-- lectern/lecternlaw14.TapeNil -/
def VC_law14_TapeNil (p0p : Option Addr) (p0l : Nat) (p0c : Nat) (lo1 : Int) (hi2 : Int) (gen3 : Int) (w : World) (J : Bool → World → Prop) : Prop :=
  callJ Try.prog fn_law14_awake #[] w [.one .bool] fun (r13 : Bool) (w1 : World) =>
  condB (!r13) (
  J false w1) (
  callJ Try.prog fn_tape_Open #[.pointer none, .int .i64 lo1, .int .i64 hi2, .int .i64 gen3] w1 [.one .ptr, .one .slice, .one (.int .i64)] fun (r19_0 : Option Addr) (r19_1p : Option Addr) (r19_1l : Nat) (r19_1c : Nat) (r19_2 : Int) (w2 : World) =>
  withJ (fun (x8 : Bool) (w3 : World) =>
  J x8 w3) fun J_8 =>
  callJ Try.prog fn_tape_Tape_Append #[.pointer none, .slice p0p p0l p0c] w2 [.one (.int .i64)] fun (r25 : Int) (w4 : World) =>
  condB (r25 == (2 : Int)) (
  callJ Try.prog fn_tape_Tape_Flush #[.pointer none] w4 [.one (.int .i64)] fun (r29 : Int) (w5 : World) =>
  condB (r29 == (2 : Int)) (
  callJ Try.prog fn_tape_Tape_Groups #[.pointer none] w5 [.one (.int .i64)] fun (r34 : Int) (w6 : World) =>
  condB (r34 == (0 : Int)) (
  callJ Try.prog fn_tape_Tape_Free #[.pointer none] w6 [.one (.int .i64)] fun (r39 : Int) (w7 : World) =>
  condB (r39 == (0 : Int)) (
  condB r19_0.isNone (
  condB (((r19_1l : Nat) : Int) == (0 : Int)) (
  J_8 (r19_2 == (2 : Int)) w7) (
  J_8 false w7)) (
  J_8 false w7)) (
  J_8 false w7)) (
  J_8 false w6)) (
  J_8 false w5)) (
  J_8 false w4))
def ann_law14_TapeNil : Ann := .s (.o) (.s (.s (.o) (.c (.s (.o) (.o)) (.o))) (.s (.o) (.s (.o) (.j [(8, .bool)] (.o) (.o)))))
theorem eq_law14_TapeNil (p0p : Option Addr) (p0l : Nat) (p0c : Nat) (lo1 : Int) (hi2 : Int) (gen3 : Int) (w : World) (J : Bool → World → Prop) : vcFun Try.prog Try.f11 ann_law14_TapeNil [.one .bool] [.slice p0p p0l p0c, .int .i64 lo1, .int .i64 hi2, .int .i64 gen3] w J = VC_law14_TapeNil p0p p0l p0c lo1 hi2 gen3 w J := by kernel_rfl
theorem c_law14_TapeNil {p0p : Option Addr} {p0l : Nat} {p0c : Nat} {lo1 : Int} {hi2 : Int} {gen3 : Int} {w : World} {J : Bool → World → Prop} (h : VC_law14_TapeNil p0p p0l p0c lo1 hi2 gen3 w J) : callJ Try.prog fn_law14_TapeNil #[.slice p0p p0l p0c, .int .i64 lo1, .int .i64 hi2, .int .i64 gen3] w [.one .bool] J := vc_calls Try.func11 ann_law14_TapeNil (Eq.mpr (eq_law14_TapeNil p0p p0l p0c lo1 hi2 gen3 w J) h)

/-- lectern/lecternlaw14.TapeLasts -/
def VC_law14_TapeLasts (ops0p : Option Addr) (ops0l : Nat) (ops0c : Nat) (keep1p : Option Addr) (keep1l : Nat) (keep1c : Nat) (old2p : Option Addr) (old2l : Nat) (old2c : Nat) (w : World) (J : Bool → World → Prop) : Prop :=
  callJ Try.prog fn_law14_awake #[] w [.one .bool] fun (r20 : Bool) (w1 : World) =>
  condB (!r20) (
  J false w1) (
  callJ Try.prog fn_law14_sectors #[.slice old2p old2l old2c, .int .i64 (40 : Int)] w1 [.one .slice] fun (r23p : Option Addr) (r23l : Nat) (r23c : Nat) (w2 : World) =>
  ∃ I_7 : Option Addr → Nat → Nat → World → Nat → Prop, (∃ m : Nat, I_7 r23p r23l r23c w2 m) ∧ ∀ (s7p : Option Addr) (s7l : Nat) (s7c : Nat) (w3 : World) (m : Nat), I_7 s7p s7l s7c w3 m → (
  condB (decide (((s7l : Nat) : Int) < (40 : Int))) (
  mkS w3 T_uint8 (zeroC Try.prog T_uint8) 1 1 (64 : Int) (64 : Int) fun b28 w4 =>
  newB w4 (.cells ⟨[.slice (some ⟨b28, 0, none⟩) 64 64]⟩ T_sl_uint8) fun b29 w5 =>
  appJ Try.prog T_sl_sl_uint8 T_sl_sl_uint8 (.slice s7p s7l s7c) (.slice (some ⟨b29, 0, none⟩) 1 1) w5 fun q30p q30l q30c w6 =>
  ∃ m' : Nat, m' < m ∧ I_7 q30p q30l q30c w6 m') (
  callJ Try.prog fn_law14_filled #[.slice s7p s7l s7c] w3 [.one .ptr] fun (r32 : Option Addr) (w7 : World) =>
  withJ (fun (x39 : Bool) (w8 : World) =>
  condB x39 (
  J false w8) (
  callJ Try.prog fn_tape_Open #[.pointer r32, .int .i64 (2 : Int), .int .i64 (40 : Int), .int .i64 (7 : Int)] w8 [.one .ptr, .one .slice, .one (.int .i64)] fun (r42_0 : Option Addr) (r42_1p : Option Addr) (r42_1l : Nat) (r42_1c : Nat) (r42_2 : Int) (w9 : World) =>
  withJ (fun (x51 : Bool) (w10 : World) =>
  condB x51 (
  J false w10) (
  ∃ I_54 : Int → World → Nat → Prop, (∃ m : Nat, I_54 (0 : Int) w10 m) ∧ ∀ (x54 : Int) (w11 : World) (m_1 : Nat), I_54 x54 w11 m_1 → (
  condB (decide (x54 < ((s7l : Nat) : Int))) (
  idxA s7p s7l x54 fun a56 =>
  ldS w11 ((a56.add (x54.toNat * 1))) fun x57p x57l x57c =>
  slS x57p x57l x57c 1 (some (4 : Int)) (some (8 : Int)) none fun q59p q59l q59c =>
  callJ Try.prog fn_ref14_Value #[.slice q59p q59l q59c] w11 [.one (.int .i64)] fun (r60 : Int) (w12 : World) =>
  condB (r60 == (7 : Int)) (
  J true w12) (
  ∃ m' : Nat, m' < m_1 ∧ I_54 (w64 (x54 + (1 : Int))) w12 m')) (
  condB (decide (((r42_1l : Nat) : Int) > (0 : Int))) (
  J false w11) (
  withJ (fun (put14p : Option Addr) (put14l : Nat) (put14c : Nat) (safe15 : Int) (w13 : World) =>
  callJ Try.prog fn_law14_lasted #[.pointer r32, .slice put14p put14l put14c, .int .i64 safe15, .slice keep1p keep1l keep1c] w13 [.one .bool] fun (r124 : Bool) (w14 : World) =>
  J r124 w14) fun J_14 =>
  ∃ I_14 : Option Addr → Nat → Nat → Int → Int → World → Nat → Prop, (∃ m : Nat, I_14 none 0 0 (0 : Int) (0 : Int) w11 m) ∧ ∀ (put14_1p : Option Addr) (put14_1l : Nat) (put14_1c : Nat) (safe15_1 : Int) (x68 : Int) (w15 : World) (m_2 : Nat), I_14 put14_1p put14_1l put14_1c safe15_1 x68 w15 m_2 → (
  condB (decide (x68 < ((ops0l : Nat) : Int))) (
  withJ (fun (put14_2p : Option Addr) (put14_2l : Nat) (put14_2c : Nat) (safe15_2 : Int) (w16 : World) =>
  ∃ m' : Nat, m' < m_2 ∧ I_14 put14_2p put14_2l put14_2c safe15_2 (w64 (x68 + (1 : Int))) w16 m') fun J_14_1 =>
  idxA ops0p ops0l x68 fun a71 =>
  ldI .i64 w15 ((a71.add (x68.toNat * 3))) fun x72_0 =>
  ldI .i64 w15 (((a71.add (x68.toNat * 3)).add 1)) fun x72_1 =>
  ldS w15 (((a71.add (x68.toNat * 3)).add 2)) fun x72_2p x72_2l x72_2c =>
  newB w15 (.cells (zeroC Try.prog T_law14_Op) T_law14_Op) fun b17 w17 =>
  stN w17 ⟨b17, 0, none⟩ ⟨[.int .i64 x72_0, .int .i64 x72_1, .slice x72_2p x72_2l x72_2c]⟩ 3 fun w18 =>
  condB (decide (x68 ≥ (100 : Int))) (
  J_14 put14_1p put14_1l put14_1c safe15_1 w18) (
  ldI .i64 w18 ⟨b17, 0, none⟩ fun x76 =>
  condB (x76 == (0 : Int)) (
  ldS w18 ⟨b17, 2, none⟩ fun x81p x81l x81c =>
  callJ Try.prog fn_ref01_Twin #[.slice x81p x81l x81c] w18 [.one .slice] fun (r82p : Option Addr) (r82l : Nat) (r82c : Nat) (w19 : World) =>
  callJ Try.prog fn_tape_Tape_Append #[.pointer r42_0, .slice r82p r82l r82c] w19 [.one (.int .i64)] fun (r83 : Int) (w20 : World) =>
  withJ (fun (put14_3p : Option Addr) (put14_3l : Nat) (put14_3c : Nat) (w21 : World) =>
  condB (r83 == (9 : Int)) (
  callJ Try.prog fn_law14_lasted #[.pointer r32, .slice put14_3p put14_3l put14_3c, .int .i64 safe15_1, .slice keep1p keep1l keep1c] w21 [.one .bool] fun (r97 : Bool) (w22 : World) =>
  J r97 w22) (
  J_14_1 put14_3p put14_3l put14_3c safe15_1 w21)) fun J_14_2 =>
  condB (r83 != (4 : Int)) (
  ldS w20 ⟨b17, 2, none⟩ fun x88p x88l x88c =>
  newB w20 (.cells ⟨[.slice x88p x88l x88c]⟩ T_sl_uint8) fun b89 w23 =>
  appJ Try.prog T_sl_sl_uint8 T_sl_sl_uint8 (.slice put14_1p put14_1l put14_1c) (.slice (some ⟨b89, 0, none⟩) 1 1) w23 fun q90p q90l q90c w24 =>
  J_14_2 q90p q90l q90c w24) (
  J_14_2 put14_1p put14_1l put14_1c w20)) (
  condB (x76 == (1 : Int)) (
  callJ Try.prog fn_tape_Tape_Flush #[.pointer r42_0] w18 [.one (.int .i64)] fun (r101 : Int) (w25 : World) =>
  condB (r101 == (9 : Int)) (
  callJ Try.prog fn_law14_lasted #[.pointer r32, .slice put14_1p put14_1l put14_1c, .int .i64 safe15_1, .slice keep1p keep1l keep1c] w25 [.one .bool] fun (r108 : Bool) (w26 : World) =>
  J r108 w26) (
  condB (r101 != (0 : Int)) (
  J false w25) (
  J_14_1 put14_1p put14_1l put14_1c ((put14_1l : Nat) : Int) w25))) (
  condB (x76 == (2 : Int)) (
  ldI .i64 w18 ⟨b17, 1, none⟩ fun x117 =>
  callJ Try.prog fn_drum_Drum_Fuse #[.pointer r32, .int .i64 x117] w18 [.one (.int .i64)] fun (r118 : Int) (w27 : World) =>
  J_14_1 put14_1p put14_1l put14_1c safe15_1 w27) (
  J_14_1 put14_1p put14_1l put14_1c safe15_1 w18))))) (
  J_14 put14_1p put14_1l put14_1c safe15_1 w15))))))) fun J_51 =>
  condB (r42_2 != (0 : Int)) (
  J_51 true w9) (
  J_51 r42_0.isNone w9))) fun J_39 =>
  condB r32.isNone (
  J_39 true w7) (
  callJ Try.prog fn_drum_Drum_Flush #[.pointer r32] w7 [.one (.int .i64)] fun (r37 : Int) (w28 : World) =>
  J_39 (r37 != (0 : Int)) w28))))
def ann_law14_TapeLasts : Ann := .s (.o) (.s (.s (.o) (.c (.s (.o) (.o)) (.o))) (.s (.o) (.s (.b (.l [(7, .slice)] (.s (.s (.o) (.c (.o) (.o))) (.b (.o))))) (.s (.o) (.s (.j [(39, .bool)] (.o) (.c (.s (.o) (.o)) (.o))) (.s (.o) (.s (.j [(51, .bool)] (.o) (.c (.s (.o) (.o)) (.o))) (.s (.s (.o) (.b (.l [(54, .int .i64)] (.s (.o) (.s (.c (.o) (.o)) (.s (.b (.s (.o) (.s (.o) (.c (.s (.o) (.o)) (.o))))) (.o))))))) (.s (.s (.o) (.c (.s (.o) (.o)) (.o))) (.s (.o) (.s (.o) (.j [(14, .slice), (15, .int .i64)] (.s (.o) (.b (.l [(14, .slice), (15, .int .i64), (68, .int .i64)] (.s (.o) (.s (.c (.o) (.o)) (.j [(14, .slice), (15, .int .i64)] (.b (.s (.o) (.s (.s (.o) (.c (.o) (.o))) (.s (.o) (.b (.s (.o) (.c (.s (.o) (.j [(14, .slice)] (.s (.o) (.c (.o) (.o))) (.s (.o) (.c (.s (.o) (.o)) (.o))))) (.s (.o) (.c (.s (.o) (.s (.s (.o) (.c (.s (.o) (.o)) (.o))) (.s (.s (.o) (.c (.s (.o) (.o)) (.o))) (.o)))) (.s (.o) (.c (.o) (.o)))))))))))) (.o))))))) (.s (.o) (.o))))))))))))))
theorem eq_law14_TapeLasts (ops0p : Option Addr) (ops0l : Nat) (ops0c : Nat) (keep1p : Option Addr) (keep1l : Nat) (keep1c : Nat) (old2p : Option Addr) (old2l : Nat) (old2c : Nat) (w : World) (J : Bool → World → Prop) : vcFun Try.prog Try.f12 ann_law14_TapeLasts [.one .bool] [.slice ops0p ops0l ops0c, .slice keep1p keep1l keep1c, .slice old2p old2l old2c] w J = VC_law14_TapeLasts ops0p ops0l ops0c keep1p keep1l keep1c old2p old2l old2c w J := by kernel_rfl
theorem c_law14_TapeLasts {ops0p : Option Addr} {ops0l : Nat} {ops0c : Nat} {keep1p : Option Addr} {keep1l : Nat} {keep1c : Nat} {old2p : Option Addr} {old2l : Nat} {old2c : Nat} {w : World} {J : Bool → World → Prop} (h : VC_law14_TapeLasts ops0p ops0l ops0c keep1p keep1l keep1c old2p old2l old2c w J) : callJ Try.prog fn_law14_TapeLasts #[.slice ops0p ops0l ops0c, .slice keep1p keep1l keep1c, .slice old2p old2l old2c] w [.one .bool] J := vc_calls Try.func12 ann_law14_TapeLasts (Eq.mpr (eq_law14_TapeLasts ops0p ops0l ops0c keep1p keep1l keep1c old2p old2l old2c w J) h)

/-- lectern/lecternlaw14.TapeWrites -/
def VC_law14_TapeWrites (lo0 : Int) (hi1 : Int) (n2 : Int) (gen3 : Int) (ops4p : Option Addr) (ops4l : Nat) (ops4c : Nat) (w : World) (J : Bool → World → Prop) : Prop :=
  callJ Try.prog fn_law14_awake #[] w [.one .bool] fun (r32 : Bool) (w1 : World) =>
  condB (!r32) (
  J false w1) (
  withJ (fun (x61 : Bool) (w2 : World) =>
  condB x61 (
  J true w2) (
  callJ Try.prog fn_drum_New #[.int .i64 n2] w2 [.one .ptr, .one (.int .i64)] fun (r64_0 : Option Addr) (r64_1 : Int) (w3 : World) =>
  withJ (fun (x72 : Bool) (w4 : World) =>
  condB x72 (
  J false w4) (
  callJ Try.prog fn_tape_Open #[.pointer r64_0, .int .i64 lo0, .int .i64 hi1, .int .i64 gen3] w4 [.one .ptr, .one .slice, .one (.int .i64)] fun (r78_0 : Option Addr) (r78_1p : Option Addr) (r78_1l : Nat) (r78_1c : Nat) (r78_2 : Int) (w5 : World) =>
  withJ (fun (x92 : Bool) (w6 : World) =>
  condB x92 (
  J false w6) (
  callJ Try.prog fn_law14_all #[.pointer r64_0] w6 [.one .slice] fun (r94p : Option Addr) (r94l : Nat) (r94c : Nat) (w7 : World) =>
  withJ (fun (w8 : World) =>
  callJ Try.prog fn_drum_Drum_Loose #[.pointer r64_0] w8 [.one (.int .i64)] fun (r225 : Int) (w9 : World) =>
  mkS w9 T_bool (zeroC Try.prog T_bool) 1 1 r225 r225 fun b226 w10 =>
  ∃ I_229 : Int → World → Nat → Prop, (∃ m : Nat, I_229 (0 : Int) w10 m) ∧ ∀ (x229 : Int) (w11 : World) (m : Nat), I_229 x229 w11 m → (
  condB (decide (x229 < (((r225.toNat) : Nat) : Int))) (
  idxA (some ⟨b226, 0, none⟩) (r225.toNat) x229 fun a234 =>
  stV w11 ((a234.add (x229.toNat * 1))) (.bool true) fun w12 =>
  ∃ m' : Nat, m' < m ∧ I_229 (w64 (x229 + (1 : Int))) w12 m') (
  withJ (fun (x10 : Bool) (w13 : World) =>
  J x10 w13) fun J_10 =>
  callJ Try.prog fn_drum_Drum_Crash #[.pointer r64_0, .slice (some ⟨b226, 0, none⟩) (r225.toNat) (r225.toNat)] w11 [.one (.int .i64)] fun (r238 : Int) (w14 : World) =>
  condB (r238 == (0 : Int)) (
  callJ Try.prog fn_law14_all #[.pointer r64_0] w14 [.one .slice] fun (r242p : Option Addr) (r242l : Nat) (r242c : Nat) (w15 : World) =>
  callJ Try.prog fn_law14_same #[.slice r242p r242l r242c, .slice r94p r94l r94c] w15 [.one .bool] fun (r244 : Bool) (w16 : World) =>
  J_10 r244 w16) (
  J_10 false w14)))) fun J_0 =>
  ∃ I_17 : Int → Int → Bool → Int → Int → World → Nat → Prop, (∃ m : Nat, I_17 (0 : Int) (0 : Int) false (-1 : Int) (0 : Int) w7 m) ∧ ∀ (place17 : Int) (groups18 : Int) (down19 : Bool) (left20 : Int) (x97 : Int) (w17 : World) (m_1 : Nat), I_17 place17 groups18 down19 left20 x97 w17 m_1 → (
  condB (decide (x97 < ((ops4l : Nat) : Int))) (
  idxA ops4p ops4l x97 fun a100 =>
  ldI .i64 w17 ((a100.add (x97.toNat * 3))) fun x101_0 =>
  ldI .i64 w17 (((a100.add (x97.toNat * 3)).add 1)) fun x101_1 =>
  ldS w17 (((a100.add (x97.toNat * 3)).add 2)) fun x101_2p x101_2l x101_2c =>
  newB w17 (.cells (zeroC Try.prog T_law14_Op) T_law14_Op) fun b22 w18 =>
  stN w18 ⟨b22, 0, none⟩ ⟨[.int .i64 x101_0, .int .i64 x101_1, .slice x101_2p x101_2l x101_2c]⟩ 3 fun w19 =>
  condB (decide (x97 ≥ (100 : Int))) (
  J_0 w19) (
  withJ (fun (place17_1 : Int) (groups18_1 : Int) (down19_1 : Bool) (left20_1 : Int) (w20 : World) =>
  withJ (fun (x222 : Bool) (w21 : World) =>
  condB x222 (
  J false w21) (
  ∃ m' : Nat, m' < m_1 ∧ I_17 place17_1 groups18_1 down19_1 left20_1 (w64 (x97 + (1 : Int))) w21 m')) fun J_222 =>
  callJ Try.prog fn_tape_Tape_Groups #[.pointer r78_0] w20 [.one (.int .i64)] fun (r210 : Int) (w22 : World) =>
  condB (r210 != groups18_1) (
  J_222 true w22) (
  callJ Try.prog fn_tape_Tape_Free #[.pointer r78_0] w22 [.one (.int .i64)] fun (r215 : Int) (w23 : World) =>
  J_222 (r215 != (w64 ((w64 (hi1 - lo0)) - place17_1))) w23)) fun J_17 =>
  ldI .i64 w19 ⟨b22, 0, none⟩ fun x105 =>
  condB (x105 == (0 : Int)) (
  ldS w19 ⟨b22, 2, none⟩ fun x109p x109l x109c =>
  callJ Try.prog fn_ref14_Sectors #[.int .i64 ((x109l : Nat) : Int)] w19 [.one (.int .i64)] fun (r111 : Int) (w24 : World) =>
  withJ (fun (down19_2 : Bool) (left20_2 : Int) (err24 : Int) (w25 : World) =>
  withJ (fun (place17_2 : Int) (groups18_2 : Int) (w26 : World) =>
  ldS w26 ⟨b22, 2, none⟩ fun x157p x157l x157c =>
  callJ Try.prog fn_ref01_Spare #[.slice x157p x157l x157c] w26 [.one .slice] fun (r158p : Option Addr) (r158l : Nat) (r158c : Nat) (w27 : World) =>
  withJ (fun (x170 : Bool) (w28 : World) =>
  condB x170 (
  J false w28) (
  ∃ I_173 : Int → World → Nat → Prop, (∃ m : Nat, I_173 (0 : Int) w28 m) ∧ ∀ (x173 : Int) (w29 : World) (m_2 : Nat), I_173 x173 w29 m_2 → (
  condB (decide (x173 < ((r158l : Nat) : Int))) (
  idxA r158p r158l x173 fun a178 =>
  stV w29 ((a178.add (x173.toNat * 1))) (.int .u8 (5 : Int)) fun w30 =>
  ∃ m' : Nat, m' < m_2 ∧ I_173 (w64 (x173 + (1 : Int))) w30 m') (
  J_17 place17_2 groups18_2 down19_2 left20_2 w29)))) fun J_170 =>
  callJ Try.prog fn_tape_Tape_Append #[.pointer r78_0, .slice r158p r158l r158c] w27 [.one (.int .i64)] fun (r161 : Int) (w31 : World) =>
  condB (r161 != err24) (
  J_170 true w31) (
  ldS w31 ⟨b22, 2, none⟩ fun x167p x167l x167c =>
  callJ Try.prog fn_ref01_Kept #[.slice r158p r158l r158c, .slice x167p x167l x167c] w31 [.one .bool] fun (r168 : Bool) (w32 : World) =>
  J_170 (!r168) w32)) fun J_17_1 =>
  condB (err24 == (0 : Int)) (
  J_17_1 (w64 (place17 + r111)) (w64 (groups18 + (1 : Int))) w25) (
  J_17_1 place17 groups18 w25)) fun J_19 =>
  condB down19 (
  J_19 down19 left20 (9 : Int) w24) (
  condB (decide (r111 > (w64 ((w64 (hi1 - lo0)) - place17)))) (
  J_19 down19 left20 (4 : Int) w24) (
  ldS w24 ⟨b22, 2, none⟩ fun x116p x116l x116c =>
  callJ Try.prog fn_ref14_Group #[.int .i64 gen3, .int .i64 place17, .int .i64 groups18, .slice x116p x116l x116c] w24 [.one .slice] fun (r117p : Option Addr) (r117l : Nat) (r117c : Nat) (w33 : World) =>
  ∃ I_19 : Bool → Int → Int → Int → World → Nat → Prop, (∃ m : Nat, I_19 down19 left20 (0 : Int) (0 : Int) w33 m) ∧ ∀ (down19_3 : Bool) (left20_3 : Int) (err24_1 : Int) (x119 : Int) (w34 : World) (m_3 : Nat), I_19 down19_3 left20_3 err24_1 x119 w34 m_3 → (
  condB (decide (x119 < ((r117l : Nat) : Int))) (
  idxA r117p r117l x119 fun a122 =>
  ldS w34 ((a122.add (x119.toNat * 1))) fun x123p x123l x123c =>
  condB (left20_3 == (0 : Int)) (
  J_19 true left20_3 (9 : Int) w34) (
  withJ (fun (left20_4 : Int) (w35 : World) =>
  idxA r94p r94l (w64 ((w64 (lo0 + place17)) + x119)) fun a137 =>
  stV w35 ((a137.add ((w64 ((w64 (lo0 + place17)) + x119)).toNat * 1))) (.slice x123p x123l x123c) fun w36 =>
  ∃ m' : Nat, m' < m_3 ∧ I_19 down19_3 left20_4 err24_1 (w64 (x119 + (1 : Int))) w36 m') fun J_20 =>
  condB (decide (left20_3 > (0 : Int))) (
  J_20 (w64 (left20_3 - (1 : Int))) w34) (
  J_20 left20_3 w34))) (
  J_19 down19_3 left20_3 err24_1 w34))))) (
  condB (x105 == (1 : Int)) (
  withJ (fun (down19_4 : Bool) (err29 : Int) (w37 : World) =>
  callJ Try.prog fn_tape_Tape_Flush #[.pointer r78_0] w37 [.one (.int .i64)] fun (r188 : Int) (w38 : World) =>
  condB (r188 != err29) (
  J false w38) (
  condB (decide (left20 > (0 : Int))) (
  J_17 place17 groups18 down19_4 (w64 (left20 - (1 : Int))) w38) (
  J_17 place17 groups18 down19_4 left20 w38))) fun J_19_1 =>
  withJ (fun (x186 : Bool) (w39 : World) =>
  condB x186 (
  J_19_1 true (9 : Int) w39) (
  J_19_1 down19 (0 : Int) w39)) fun J_186 =>
  condB down19 (
  J_186 true w19) (
  J_186 (left20 == (0 : Int)) w19)) (
  condB (x105 == (2 : Int)) (
  withJ (fun (x206 : Bool) (w40 : World) =>
  condB x206 (
  ldI .i64 w40 ⟨b22, 1, none⟩ fun x208 =>
  J_17 place17 groups18 down19 x208 w40) (
  J_17 place17 groups18 down19 left20 w40)) fun J_206 =>
  ldI .i64 w19 ⟨b22, 1, none⟩ fun x198 =>
  condB (decide (x198 ≥ (0 : Int))) (
  ldI .i64 w19 ⟨b22, 1, none⟩ fun x203 =>
  callJ Try.prog fn_drum_Drum_Fuse #[.pointer r64_0, .int .i64 x203] w19 [.one (.int .i64)] fun (r204 : Int) (w41 : World) =>
  J_206 (r204 == (0 : Int)) w41) (
  J_206 false w19)) (
  J_17 place17 groups18 down19 left20 w19))))) (
  J_0 w17)))) fun J_92 =>
  condB (r78_2 != (0 : Int)) (
  J_92 true w5) (
  condB r78_0.isNone (
  J_92 true w5) (
  J_92 (((r78_1l : Nat) : Int) != (0 : Int)) w5)))) fun J_72 =>
  condB (r64_1 != (0 : Int)) (
  J_72 true w3) (
  J_72 r64_0.isNone w3))) fun J_61 =>
  condB (decide (n2 < (1 : Int))) (
  J_61 true w1) (
  condB (decide (n2 > (60 : Int))) (
  J_61 true w1) (
  condB (decide (lo0 < (0 : Int))) (
  J_61 true w1) (
  condB (decide (hi1 > n2)) (
  J_61 true w1) (
  condB (decide (lo0 ≥ hi1)) (
  J_61 true w1) (
  condB (decide (gen3 < (1 : Int))) (
  J_61 true w1) (
  J_61 (decide (gen3 > (4294967295 : Int))) w1)))))))
def ann_law14_TapeWrites : Ann := .s (.o) (.s (.s (.o) (.c (.s (.o) (.o)) (.o))) (.s (.j [(61, .bool)] (.o) (.c (.s (.o) (.o)) (.o))) (.s (.o) (.s (.j [(72, .bool)] (.o) (.c (.s (.o) (.o)) (.o))) (.s (.o) (.s (.j [(92, .bool)] (.o) (.c (.s (.o) (.o)) (.o))) (.s (.o) (.s (.o) (.j [] (.s (.o) (.b (.l [(17, .int .i64), (18, .int .i64), (19, .bool), (20, .int .i64), (97, .int .i64)] (.s (.o) (.s (.c (.o) (.o)) (.s (.b (.s (.o) (.s (.s (.o) (.c (.o) (.o))) (.j [(17, .int .i64), (18, .int .i64), (19, .bool), (20, .int .i64)] (.s (.o) (.b (.s (.o) (.c (.s (.o) (.s (.o) (.j [(19, .bool), (20, .int .i64), (24, .int .i64)] (.b (.s (.o) (.c (.o) (.s (.o) (.c (.o) (.s (.o) (.b (.l [(19, .bool), (20, .int .i64), (24, .int .i64), (119, .int .i64)] (.s (.o) (.s (.c (.o) (.o)) (.s (.b (.s (.o) (.s (.s (.o) (.c (.s (.o) (.o)) (.o))) (.j [(20, .int .i64)] (.s (.o) (.c (.o) (.o))) (.o))))) (.o)))))))))))) (.j [(17, .int .i64), (18, .int .i64)] (.s (.o) (.c (.o) (.o))) (.s (.o) (.s (.j [(170, .bool)] (.o) (.c (.s (.o) (.o)) (.o))) (.s (.o) (.b (.l [(173, .int .i64)] (.s (.o) (.s (.c (.o) (.o)) (.s (.b (.s (.o) (.o))) (.o))))))))))))) (.s (.o) (.c (.s (.o) (.j [(19, .bool), (29, .int .i64)] (.j [(186, .bool)] (.o) (.c (.o) (.o))) (.s (.s (.o) (.c (.s (.o) (.o)) (.o))) (.s (.o) (.c (.o) (.o)))))) (.s (.o) (.c (.j [(206, .bool)] (.o) (.c (.o) (.o))) (.o))))))))) (.j [(222, .bool)] (.o) (.c (.s (.o) (.o)) (.o))))))) (.o))))))) (.s (.o) (.s (.s (.o) (.b (.l [(229, .int .i64)] (.s (.o) (.s (.c (.o) (.o)) (.s (.b (.s (.o) (.o))) (.o))))))) (.j [(10, .bool)] (.o) (.o)))))))))))))
theorem eq_law14_TapeWrites (lo0 : Int) (hi1 : Int) (n2 : Int) (gen3 : Int) (ops4p : Option Addr) (ops4l : Nat) (ops4c : Nat) (w : World) (J : Bool → World → Prop) : vcFun Try.prog Try.f13 ann_law14_TapeWrites [.one .bool] [.int .i64 lo0, .int .i64 hi1, .int .i64 n2, .int .i64 gen3, .slice ops4p ops4l ops4c] w J = VC_law14_TapeWrites lo0 hi1 n2 gen3 ops4p ops4l ops4c w J := by kernel_rfl
theorem c_law14_TapeWrites {lo0 : Int} {hi1 : Int} {n2 : Int} {gen3 : Int} {ops4p : Option Addr} {ops4l : Nat} {ops4c : Nat} {w : World} {J : Bool → World → Prop} (h : VC_law14_TapeWrites lo0 hi1 n2 gen3 ops4p ops4l ops4c w J) : callJ Try.prog fn_law14_TapeWrites #[.int .i64 lo0, .int .i64 hi1, .int .i64 n2, .int .i64 gen3, .slice ops4p ops4l ops4c] w [.one .bool] J := vc_calls Try.func13 ann_law14_TapeWrites (Eq.mpr (eq_law14_TapeWrites lo0 hi1 n2 gen3 ops4p ops4l ops4c w J) h)

end Go.Proofs.Ytfhmnodoahcmnaa
