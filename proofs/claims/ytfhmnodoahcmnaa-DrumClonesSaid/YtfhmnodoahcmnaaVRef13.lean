/- What the conditions of these functions are, reckoned by the reading; printed by program. -/
import Derived.Test.YtfhmnodoahcmnaaNm
import Derived.KernelRfl
set_option maxRecDepth 100000
set_option linter.unusedVariables false
namespace Go.Proofs.Ytfhmnodoahcmnaa
open Go Go.Vc

/-- lectern/lecternref13.New -/
def VC_ref13_New (sectors0 : Int) (w : World) (J : Option Addr → Nat → Nat → Option Addr → Nat → Nat → Int → Int → Bool → World → Prop) : Prop :=
  newB w (.cells (zeroC Try.prog T_ref13_Drum) T_ref13_Drum) fun b2 w1 =>
  newB w1 (.cells (zeroC Try.prog T_ref13_Drum) T_ref13_Drum) fun b3 w2 =>
  stN w2 ⟨b3, 0, none⟩ ⟨[.slice none 0 0, .slice none 0 0, .int .i64 (0 : Int), .int .i64 (-1 : Int), .bool false]⟩ 5 fun w3 =>
  ∃ I_4 : Int → World → Nat → Prop, (∃ m : Nat, I_4 (0 : Int) w3 m) ∧ ∀ (i4 : Int) (w4 : World) (m : Nat), I_4 i4 w4 m → (
  condB (decide (i4 < sectors0)) (
  ldS w4.drew ⟨b3, 0, none⟩ fun x12p x12l x12c =>
  mkS w4.drew T_uint8 (zeroC Try.prog T_uint8) 1 1 (64 : Int) (64 : Int) fun b13 w5 =>
  w5.cell? ⟨b3, 0, none⟩ = some (.slice x12p x12l x12c) ∧
  newB w5 (.cells ⟨[.slice (some ⟨b13, 0, none⟩) 64 64]⟩ T_sl_uint8) fun b14 w6 =>
  w6.cell? ⟨b3, 0, none⟩ = some (.slice x12p x12l x12c) ∧
  appJ Try.prog T_sl_sl_uint8 T_sl_sl_uint8 (.slice x12p x12l x12c) (.slice (some ⟨b14, 0, none⟩) 1 1) w6 fun q15p q15l q15c w7 =>
  stV w7 ⟨b3, 0, none⟩ (.slice q15p q15l q15c) fun w8 =>
  ∃ m' : Nat, m' < m ∧ I_4 (w64 (i4 + (1 : Int))) w8 m') (
  ldS w4 ⟨b3, 0, none⟩ fun x17_0p x17_0l x17_0c =>
  ldS w4 ⟨b3, 1, none⟩ fun x17_1p x17_1l x17_1c =>
  ldI .i64 w4 ⟨b3, 2, none⟩ fun x17_2 =>
  ldI .i64 w4 ⟨b3, 3, none⟩ fun x17_3 =>
  ldB w4 ⟨b3, 4, none⟩ fun x17_4 =>
  stN w4 ⟨b2, 0, none⟩ ⟨[.slice x17_0p x17_0l x17_0c, .slice x17_1p x17_1l x17_1c, .int .i64 x17_2, .int .i64 x17_3, .bool x17_4]⟩ 5 fun w9 =>
  ldS w9 ⟨b2, 0, none⟩ fun r_0p r_0l r_0c =>
  ldS w9 ⟨b2, 1, none⟩ fun r_1p r_1l r_1c =>
  ldI .i64 w9 ⟨b2, 2, none⟩ fun r_2 =>
  ldI .i64 w9 ⟨b2, 3, none⟩ fun r_3 =>
  ldB w9 ⟨b2, 4, none⟩ fun r_4 =>
  J r_0p r_0l r_0c r_1p r_1l r_1c r_2 r_3 r_4 w9))
def ann_ref13_New : Ann := .s (.o) (.s (.o) (.s (.s (.o) (.b (.l [(4, .int .i64)] (.s (.s (.o) (.c (.o) (.o))) (.s (.b (.d (.take 0 (.take 1 (.eff 2 (.eff 3 (.eff 4 (.take 5 (.eff 6 (.done) (.none))) (.none)) (.none)) (.none)))))) (.o)))))) (.s (.o) (.o))))
theorem eq_ref13_New (sectors0 : Int) (w : World) (J : Option Addr → Nat → Nat → Option Addr → Nat → Nat → Int → Int → Bool → World → Prop) : vcFun Try.prog Try.f27 ann_ref13_New [.agg [.slice, .slice, .int .i64, .int .i64, .bool]] [.int .i64 sectors0] w J = VC_ref13_New sectors0 w J := by kernel_rfl
theorem c_ref13_New {sectors0 : Int} {w : World} {J : Option Addr → Nat → Nat → Option Addr → Nat → Nat → Int → Int → Bool → World → Prop} (h : VC_ref13_New sectors0 w J) : callJ Try.prog fn_ref13_New #[.int .i64 sectors0] w [.agg [.slice, .slice, .int .i64, .int .i64, .bool]] J := vc_calls Try.func27 ann_ref13_New (Eq.mpr (eq_ref13_New sectors0 w J) h)

/-- lectern/lecternref13.full -/
def VC_ref13_full (p0p : Option Addr) (p0l : Nat) (p0c : Nat) (w : World) (J : Option Addr → Nat → Nat → World → Prop) : Prop :=
  mkS w T_uint8 (zeroC Try.prog T_uint8) 1 1 (64 : Int) (64 : Int) fun b5 w1 =>
  ∃ I_8 : Int → World → Nat → Prop, (∃ m : Nat, I_8 (0 : Int) w1 m) ∧ ∀ (x8 : Int) (w2 : World) (m : Nat), I_8 x8 w2 m → (
  condB (decide (x8 < ((p0l : Nat) : Int))) (
  idxA p0p p0l x8 fun a15 =>
  ldI .u8 w2 ((a15.add (x8.toNat * 1))) fun x16 =>
  idxA (some ⟨b5, 0, none⟩) 64 x8 fun a17 =>
  stV w2 ((a17.add (x8.toNat * 1))) (.int .u8 x16) fun w3 =>
  ∃ m' : Nat, m' < m ∧ I_8 (w64 (x8 + (1 : Int))) w3 m') (
  J (some ⟨b5, 0, none⟩) 64 64 w2))
def ann_ref13_full : Ann := .s (.o) (.s (.o) (.s (.s (.o) (.b (.l [(8, .int .i64)] (.s (.o) (.s (.c (.o) (.o)) (.s (.b (.s (.o) (.o))) (.o))))))) (.s (.o) (.o))))
theorem eq_ref13_full (p0p : Option Addr) (p0l : Nat) (p0c : Nat) (w : World) (J : Option Addr → Nat → Nat → World → Prop) : vcFun Try.prog Try.f65 ann_ref13_full [.one .slice] [.slice p0p p0l p0c] w J = VC_ref13_full p0p p0l p0c w J := by kernel_rfl
theorem c_ref13_full {p0p : Option Addr} {p0l : Nat} {p0c : Nat} {w : World} {J : Option Addr → Nat → Nat → World → Prop} (h : VC_ref13_full p0p p0l p0c w J) : callJ Try.prog fn_ref13_full #[.slice p0p p0l p0c] w [.one .slice] J := vc_calls Try.func65 ann_ref13_full (Eq.mpr (eq_ref13_full p0p p0l p0c w J) h)

/-- (lectern/lecternref13.Drum).step -/
def VC_ref13_Drum_step (d0 : Option Addr) (w : World) (J : Bool → World → Prop) : Prop :=
  withJ (fun (w1 : World) =>
  nonNil d0 fun a12 =>
  ldB w1 ((a12.add 4)) fun x14 =>
  condB x14 (
  J false w1) (
  nonNil d0 fun a16 =>
  ldI .i64 w1 ((a16.add 2)) fun x18 =>
  nonNil d0 fun a20 =>
  stV w1 ((a20.add 2)) (.int .i64 (w64 (x18 + (1 : Int)))) fun w2 =>
  withJ (fun (w3 : World) =>
  J true w3) fun J_0_1 =>
  nonNil d0 fun a23 =>
  ldI .i64 w2 ((a23.add 3)) fun x25 =>
  condB (decide (x25 > (0 : Int))) (
  nonNil d0 fun a28 =>
  ldI .i64 w2 ((a28.add 3)) fun x30 =>
  nonNil d0 fun a32 =>
  stV w2 ((a32.add 3)) (.int .i64 (w64 (x30 - (1 : Int)))) fun w4 =>
  J_0_1 w4) (
  J_0_1 w2))) fun J_0 =>
  nonNil d0 fun a4 =>
  ldI .i64 w ((a4.add 3)) fun x6 =>
  condB (x6 == (0 : Int)) (
  nonNil d0 fun a9 =>
  stV w ((a9.add 4)) (.bool true) fun w5 =>
  J_0 w5) (
  J_0 w)
def ann_ref13_Drum_step : Ann := .s (.o) (.j [] (.s (.o) (.c (.o) (.o))) (.s (.s (.o) (.c (.s (.o) (.o)) (.o))) (.s (.o) (.j [] (.s (.o) (.c (.o) (.o))) (.s (.o) (.o))))))
theorem eq_ref13_Drum_step (d0 : Option Addr) (w : World) (J : Bool → World → Prop) : vcFun Try.prog Try.f64 ann_ref13_Drum_step [.one .bool] [.pointer d0] w J = VC_ref13_Drum_step d0 w J := by kernel_rfl
theorem c_ref13_Drum_step {d0 : Option Addr} {w : World} {J : Bool → World → Prop} (h : VC_ref13_Drum_step d0 w J) : callJ Try.prog fn_ref13_Drum_step #[.pointer d0] w [.one .bool] J := vc_calls Try.func64 ann_ref13_Drum_step (Eq.mpr (eq_ref13_Drum_step d0 w J) h)

/-- (lectern/lecternref13.Drum).stand -/
def VC_ref13_Drum_stand (d0 : Option Addr) (keep1p : Option Addr) (keep1l : Nat) (keep1c : Nat) (all2 : Bool) (w : World) (J : World → Prop) : Prop :=
  newB w (.cells ⟨[]⟩ T_sl_uint8) fun b9 w1 =>
  nonNil d0 fun a11 =>
  ldS w1 a11 fun x13p x13l x13c =>
  appJ Try.prog T_sl_sl_uint8 T_sl_sl_uint8 (.slice (some ⟨b9, 0, none⟩) 0 0) (.slice x13p x13l x13c) w1 fun q14p q14l q14c w2 =>
  nonNil d0 fun a16 =>
  ldS w2 ((a16.add 1)) fun x18p x18l x18c =>
  ∃ I_20 : Int → World → Nat → Prop, (∃ m : Nat, I_20 (0 : Int) w2 m) ∧ ∀ (x20 : Int) (w3 : World) (m : Nat), I_20 x20 w3 m → (
  condB (decide (x20 < ((x18l : Nat) : Int))) (
  withJ (fun (w4 : World) =>
  ∃ m' : Nat, m' < m ∧ I_20 (w64 (x20 + (1 : Int))) w4 m') fun J_0 =>
  idxA x18p x18l x20 fun a23 =>
  ldI .i64 w3 ((a23.add (x20.toNat * 2))) fun x24_0 =>
  ldS w3 (((a23.add (x20.toNat * 2)).add 1)) fun x24_1p x24_1l x24_1c =>
  newB w3 (.cells (zeroC Try.prog T_ref13_Write) T_ref13_Write) fun b8 w5 =>
  stN w5 ⟨b8, 0, none⟩ ⟨[.int .i64 x24_0, .slice x24_1p x24_1l x24_1c]⟩ 2 fun w6 =>
  withJ (fun (x37 : Bool) (w7 : World) =>
  condB x37 (
  ldI .i64 w7 ⟨b8, 0, none⟩ fun x40 =>
  ldS w7 ⟨b8, 1, none⟩ fun x42p x42l x42c =>
  idxA q14p q14l x40 fun a43 =>
  stV w7 ((a43.add (x40.toNat * 1))) (.slice x42p x42l x42c) fun w8 =>
  J_0 w8) (
  J_0 w7)) fun J_37 =>
  condB all2 (
  J_37 true w6) (
  condB (decide (x20 < ((keep1l : Nat) : Int))) (
  idxA keep1p keep1l x20 fun a34 =>
  ldB w6 ((a34.add (x20.toNat * 1))) fun x35 =>
  J_37 x35 w6) (
  J_37 false w6))) (
  nonNil d0 fun a47 =>
  stV w3 a47 (.slice q14p q14l q14c) fun w9 =>
  nonNil d0 fun a50 =>
  stV w9 ((a50.add 1)) (.slice none 0 0) fun w10 =>
  J w10))
def ann_ref13_Drum_stand : Ann := .s (.o) (.s (.s (.o) (.b (.l [(20, .int .i64)] (.s (.o) (.s (.c (.o) (.o)) (.j [] (.b (.s (.o) (.j [(37, .bool)] (.o) (.c (.o) (.o))))) (.o))))))) (.s (.o) (.o)))
theorem eq_ref13_Drum_stand (d0 : Option Addr) (keep1p : Option Addr) (keep1l : Nat) (keep1c : Nat) (all2 : Bool) (w : World) (J : World → Prop) : vcFun Try.prog Try.f66 ann_ref13_Drum_stand [] [.pointer d0, .slice keep1p keep1l keep1c, .bool all2] w J = VC_ref13_Drum_stand d0 keep1p keep1l keep1c all2 w J := by kernel_rfl
theorem c_ref13_Drum_stand {d0 : Option Addr} {keep1p : Option Addr} {keep1l : Nat} {keep1c : Nat} {all2 : Bool} {w : World} {J : World → Prop} (h : VC_ref13_Drum_stand d0 keep1p keep1l keep1c all2 w J) : callJ Try.prog fn_ref13_Drum_stand #[.pointer d0, .slice keep1p keep1l keep1c, .bool all2] w [] J := vc_calls Try.func66 ann_ref13_Drum_stand (Eq.mpr (eq_ref13_Drum_stand d0 keep1p keep1l keep1c all2 w J) h)

/-- (lectern/lecternref13.Drum).Read -/
def VC_ref13_Drum_Read (d0 : Option Addr) (n1 : Int) (w : World) (J : Option Addr → Nat → Nat → Int → World → Prop) : Prop :=
  withJ (fun (x19 : Bool) (w1 : World) =>
  condB x19 (
  J none 0 0 (1 : Int) w1) (
  callJ Try.prog fn_ref13_Drum_step #[.pointer d0] w1 [.one .bool] fun (r21 : Bool) (w2 : World) =>
  condB (!r21) (
  J none 0 0 (9 : Int) w2) (
  nonNil d0 fun a24 =>
  ldS w2 a24 fun x26p x26l x26c =>
  idxA x26p x26l n1 fun a28 =>
  ldS w2 ((a28.add (n1.toNat * 1))) fun x29p x29l x29c =>
  nonNil d0 fun a31 =>
  ldS w2 ((a31.add 1)) fun x33p x33l x33c =>
  ∃ I_6 : Option Addr → Nat → Nat → Int → World → Nat → Prop, (∃ m : Nat, I_6 x29p x29l x29c (0 : Int) w2 m) ∧ ∀ (b6p : Option Addr) (b6l : Nat) (b6c : Nat) (x35 : Int) (w3 : World) (m : Nat), I_6 b6p b6l b6c x35 w3 m → (
  condB (decide (x35 < ((x33l : Nat) : Int))) (
  withJ (fun (b6_1p : Option Addr) (b6_1l : Nat) (b6_1c : Nat) (w4 : World) =>
  ∃ m' : Nat, m' < m ∧ I_6 b6_1p b6_1l b6_1c (w64 (x35 + (1 : Int))) w4 m') fun J_6 =>
  idxA x33p x33l x35 fun a37 =>
  ldI .i64 w3 ((a37.add (x35.toNat * 2))) fun x38_0 =>
  ldS w3 (((a37.add (x35.toNat * 2)).add 1)) fun x38_1p x38_1l x38_1c =>
  newB w3 (.cells (zeroC Try.prog T_ref13_Write) T_ref13_Write) fun b8 w5 =>
  stN w5 ⟨b8, 0, none⟩ ⟨[.int .i64 x38_0, .slice x38_1p x38_1l x38_1c]⟩ 2 fun w6 =>
  ldI .i64 w6 ⟨b8, 0, none⟩ fun x40 =>
  condB (x40 == n1) (
  ldS w6 ⟨b8, 1, none⟩ fun x44p x44l x44c =>
  J_6 x44p x44l x44c w6) (
  J_6 b6p b6l b6c w6)) (
  newB w3 (.cells ⟨[]⟩ T_uint8) fun b46 w7 =>
  appJ Try.prog T_sl_uint8 T_sl_uint8 (.slice (some ⟨b46, 0, none⟩) 0 0) (.slice b6p b6l b6c) w7 fun q48p q48l q48c w8 =>
  J q48p q48l q48c (0 : Int) w8))))) fun J_19 =>
  condB (decide (n1 < (0 : Int))) (
  J_19 true w) (
  nonNil d0 fun a14 =>
  ldS w a14 fun x16p x16l x16c =>
  J_19 (decide (n1 ≥ ((x16l : Nat) : Int))) w)
def ann_ref13_Drum_Read : Ann := .s (.o) (.s (.j [(19, .bool)] (.o) (.c (.s (.o) (.o)) (.o))) (.s (.s (.o) (.c (.s (.o) (.o)) (.o))) (.s (.o) (.s (.s (.o) (.b (.l [(6, .slice), (35, .int .i64)] (.s (.o) (.s (.c (.o) (.o)) (.j [(6, .slice)] (.b (.s (.o) (.s (.o) (.c (.o) (.o))))) (.o))))))) (.s (.o) (.o))))))
theorem eq_ref13_Drum_Read (d0 : Option Addr) (n1 : Int) (w : World) (J : Option Addr → Nat → Nat → Int → World → Prop) : vcFun Try.prog Try.f53 ann_ref13_Drum_Read [.one .slice, .one (.int .i64)] [.pointer d0, .int .i64 n1] w J = VC_ref13_Drum_Read d0 n1 w J := by kernel_rfl
theorem c_ref13_Drum_Read {d0 : Option Addr} {n1 : Int} {w : World} {J : Option Addr → Nat → Nat → Int → World → Prop} (h : VC_ref13_Drum_Read d0 n1 w J) : callJ Try.prog fn_ref13_Drum_Read #[.pointer d0, .int .i64 n1] w [.one .slice, .one (.int .i64)] J := vc_calls Try.func53 ann_ref13_Drum_Read (Eq.mpr (eq_ref13_Drum_Read d0 n1 w J) h)

/-- (lectern/lecternref13.Drum).Write -/
def VC_ref13_Drum_Write (d0 : Option Addr) (n1 : Int) (p2p : Option Addr) (p2l : Nat) (p2c : Nat) (w : World) (J : Int → World → Prop) : Prop :=
  withJ (fun (x17 : Bool) (w1 : World) =>
  condB x17 (
  J (1 : Int) w1) (
  condB (decide (((p2l : Nat) : Int) > (64 : Int))) (
  J (6 : Int) w1) (
  callJ Try.prog fn_ref13_Drum_step #[.pointer d0] w1 [.one .bool] fun (r22 : Bool) (w2 : World) =>
  condB (!r22) (
  J (9 : Int) w2) (
  newB w2 (.cells ⟨[]⟩ T_ref13_Write) fun b25 w3 =>
  nonNil d0 fun a27 =>
  ldS w3 ((a27.add 1)) fun x29p x29l x29c =>
  appJ Try.prog T_sl_ref13_Write T_sl_ref13_Write (.slice (some ⟨b25, 0, none⟩) 0 0) (.slice x29p x29l x29c) w3 fun q30p q30l q30c w4 =>
  callJ Try.prog fn_ref13_full #[.slice p2p p2l p2c] w4 [.one .slice] fun (r33p : Option Addr) (r33l : Nat) (r33c : Nat) (w5 : World) =>
  Array.size (⟨[.int .i64 n1, .slice r33p r33l r33c]⟩ : Array Value) = 2 ∧
  newB w5 (.cells ⟨[.int .i64 n1, .slice r33p r33l r33c]⟩ T_ref13_Write) fun b35 w6 =>
  appJ Try.prog T_sl_ref13_Write T_sl_ref13_Write (.slice q30p q30l q30c) (.slice (some ⟨b35, 0, none⟩) 1 1) w6 fun q36p q36l q36c w7 =>
  nonNil d0 fun a37 =>
  stV w7 ((a37.add 1)) (.slice q36p q36l q36c) fun w8 =>
  J (0 : Int) w8)))) fun J_17 =>
  condB (decide (n1 < (0 : Int))) (
  J_17 true w) (
  nonNil d0 fun a12 =>
  ldS w a12 fun x14p x14l x14c =>
  J_17 (decide (n1 ≥ ((x14l : Nat) : Int))) w)
def ann_ref13_Drum_Write : Ann := .s (.o) (.s (.j [(17, .bool)] (.o) (.c (.s (.o) (.o)) (.o))) (.s (.s (.o) (.c (.s (.o) (.o)) (.o))) (.s (.s (.o) (.c (.s (.o) (.o)) (.o))) (.s (.o) (.s (.o) (.o))))))
theorem eq_ref13_Drum_Write (d0 : Option Addr) (n1 : Int) (p2p : Option Addr) (p2l : Nat) (p2c : Nat) (w : World) (J : Int → World → Prop) : vcFun Try.prog Try.f54 ann_ref13_Drum_Write [.one (.int .i64)] [.pointer d0, .int .i64 n1, .slice p2p p2l p2c] w J = VC_ref13_Drum_Write d0 n1 p2p p2l p2c w J := by kernel_rfl
theorem c_ref13_Drum_Write {d0 : Option Addr} {n1 : Int} {p2p : Option Addr} {p2l : Nat} {p2c : Nat} {w : World} {J : Int → World → Prop} (h : VC_ref13_Drum_Write d0 n1 p2p p2l p2c w J) : callJ Try.prog fn_ref13_Drum_Write #[.pointer d0, .int .i64 n1, .slice p2p p2l p2c] w [.one (.int .i64)] J := vc_calls Try.func54 ann_ref13_Drum_Write (Eq.mpr (eq_ref13_Drum_Write d0 n1 p2p p2l p2c w J) h)

/-- (lectern/lecternref13.Drum).Flush -/
def VC_ref13_Drum_Flush (d0 : Option Addr) (w : World) (J : Int → World → Prop) : Prop :=
  callJ Try.prog fn_ref13_Drum_step #[.pointer d0] w [.one .bool] fun (r4 : Bool) (w1 : World) =>
  condB (!r4) (
  J (9 : Int) w1) (
  callJ Try.prog fn_ref13_Drum_stand #[.pointer d0, .slice none 0 0, .bool true] w1 [] fun (w2 : World) =>
  J (0 : Int) w2)
def ann_ref13_Drum_Flush : Ann := .s (.o) (.s (.s (.o) (.c (.s (.o) (.o)) (.o))) (.s (.o) (.s (.o) (.o))))
theorem eq_ref13_Drum_Flush (d0 : Option Addr) (w : World) (J : Int → World → Prop) : vcFun Try.prog Try.f55 ann_ref13_Drum_Flush [.one (.int .i64)] [.pointer d0] w J = VC_ref13_Drum_Flush d0 w J := by kernel_rfl
theorem c_ref13_Drum_Flush {d0 : Option Addr} {w : World} {J : Int → World → Prop} (h : VC_ref13_Drum_Flush d0 w J) : callJ Try.prog fn_ref13_Drum_Flush #[.pointer d0] w [.one (.int .i64)] J := vc_calls Try.func55 ann_ref13_Drum_Flush (Eq.mpr (eq_ref13_Drum_Flush d0 w J) h)

/-- (lectern/lecternref13.Drum).Crash -/
def VC_ref13_Drum_Crash (d0 : Option Addr) (keep1p : Option Addr) (keep1l : Nat) (keep1c : Nat) (w : World) (J : World → Prop) : Prop :=
  callJ Try.prog fn_ref13_Drum_stand #[.pointer d0, .slice keep1p keep1l keep1c, .bool false] w [] fun (w1 : World) =>
  nonNil d0 fun a8 =>
  stV w1 ((a8.add 3)) (.int .i64 (-1 : Int)) fun w2 =>
  nonNil d0 fun a11 =>
  stV w2 ((a11.add 4)) (.bool false) fun w3 =>
  J w3
def ann_ref13_Drum_Crash : Ann := .s (.o) (.s (.o) (.o))
theorem eq_ref13_Drum_Crash (d0 : Option Addr) (keep1p : Option Addr) (keep1l : Nat) (keep1c : Nat) (w : World) (J : World → Prop) : vcFun Try.prog Try.f56 ann_ref13_Drum_Crash [] [.pointer d0, .slice keep1p keep1l keep1c] w J = VC_ref13_Drum_Crash d0 keep1p keep1l keep1c w J := by kernel_rfl
theorem c_ref13_Drum_Crash {d0 : Option Addr} {keep1p : Option Addr} {keep1l : Nat} {keep1c : Nat} {w : World} {J : World → Prop} (h : VC_ref13_Drum_Crash d0 keep1p keep1l keep1c w J) : callJ Try.prog fn_ref13_Drum_Crash #[.pointer d0, .slice keep1p keep1l keep1c] w [] J := vc_calls Try.func56 ann_ref13_Drum_Crash (Eq.mpr (eq_ref13_Drum_Crash d0 keep1p keep1l keep1c w J) h)

/-- (lectern/lecternref13.Drum).Twin -/
def VC_ref13_Drum_Twin (d0 : Option Addr) (w : World) (J : Option Addr → Nat → Nat → Option Addr → Nat → Nat → Int → Int → Bool → World → Prop) : Prop :=
  newB w (.cells (zeroC Try.prog T_ref13_Drum) T_ref13_Drum) fun b2 w1 =>
  withJ (fun (w2 : World) =>
  ldS w2 ⟨b2, 0, none⟩ fun r_0p r_0l r_0c =>
  ldS w2 ⟨b2, 1, none⟩ fun r_1p r_1l r_1c =>
  ldI .i64 w2 ⟨b2, 2, none⟩ fun r_2 =>
  ldI .i64 w2 ⟨b2, 3, none⟩ fun r_3 =>
  ldB w2 ⟨b2, 4, none⟩ fun r_4 =>
  J r_0p r_0l r_0c r_1p r_1l r_1c r_2 r_3 r_4 w2) fun J_0 =>
  nonNil d0 fun a5 =>
  ldS w1.drew a5 fun x7p x7l x7c =>
  nonNil d0 fun a11 =>
  ldS w1.drew ((a11.add 1)) fun x13p x13l x13c =>
  nonNil d0 fun a16 =>
  ldI .i64 w1.drew ((a16.add 2)) fun x18 =>
  nonNil d0 fun a20 =>
  ldI .i64 w1.drew ((a20.add 3)) fun x22 =>
  nonNil d0 fun a24 =>
  ldB w1.drew ((a24.add 4)) fun x26 =>
  (
  newB w1.drew (.cells ⟨[]⟩ T_sl_uint8) fun b3 w3 =>
  w3.cell? ((a24.add 4)) = some (.bool x26) ∧
  w3.cell? ((a20.add 3)) = some (.int .i64 x22) ∧
  w3.cell? ((a16.add 2)) = some (.int .i64 x18) ∧
  w3.cell? ((a11.add 1)) = some (.slice x13p x13l x13c) ∧
  w3.cell? a5 = some (.slice x7p x7l x7c) ∧
  (
  appJ Try.prog T_sl_sl_uint8 T_sl_sl_uint8 (.slice (some ⟨b3, 0, none⟩) 0 0) (.slice x7p x7l x7c) w3 fun q8p q8l q8c w4 =>
  w4.cell? ((a24.add 4)) = some (.bool x26) ∧
  w4.cell? ((a20.add 3)) = some (.int .i64 x22) ∧
  w4.cell? ((a16.add 2)) = some (.int .i64 x18) ∧
  w4.cell? ((a11.add 1)) = some (.slice x13p x13l x13c) ∧
  newB w4 (.cells ⟨[]⟩ T_ref13_Write) fun b9 w5 =>
  w5.cell? ((a24.add 4)) = some (.bool x26) ∧
  w5.cell? ((a20.add 3)) = some (.int .i64 x22) ∧
  w5.cell? ((a16.add 2)) = some (.int .i64 x18) ∧
  w5.cell? ((a11.add 1)) = some (.slice x13p x13l x13c) ∧
  w5.cell? a5 = some (.slice x7p x7l x7c) ∧
  appJ Try.prog T_sl_ref13_Write T_sl_ref13_Write (.slice (some ⟨b9, 0, none⟩) 0 0) (.slice x13p x13l x13c) w5 fun q14p q14l q14c w6 =>
  w6.cell? ((a24.add 4)) = some (.bool x26) ∧
  w6.cell? ((a20.add 3)) = some (.int .i64 x22) ∧
  w6.cell? ((a16.add 2)) = some (.int .i64 x18) ∧
  stN w6 ⟨b2, 0, none⟩ ⟨[.slice q8p q8l q8c, .slice q14p q14l q14c, .int .i64 x18, .int .i64 x22, .bool x26]⟩ 5 fun w7 =>
  J_0 w7) ∧ (
  newB w3 (.cells ⟨[]⟩ T_ref13_Write) fun b9_1 w8 =>
  w8.cell? ((a24.add 4)) = some (.bool x26) ∧
  w8.cell? ((a20.add 3)) = some (.int .i64 x22) ∧
  w8.cell? ((a16.add 2)) = some (.int .i64 x18) ∧
  w8.cell? ((a11.add 1)) = some (.slice x13p x13l x13c) ∧
  w8.cell? a5 = some (.slice x7p x7l x7c) ∧
  appJ Try.prog T_sl_sl_uint8 T_sl_sl_uint8 (.slice (some ⟨b3, 0, none⟩) 0 0) (.slice x7p x7l x7c) w8 fun q8_1p q8_1l q8_1c w9 =>
  w9.cell? ((a24.add 4)) = some (.bool x26) ∧
  w9.cell? ((a20.add 3)) = some (.int .i64 x22) ∧
  w9.cell? ((a16.add 2)) = some (.int .i64 x18) ∧
  w9.cell? ((a11.add 1)) = some (.slice x13p x13l x13c) ∧
  appJ Try.prog T_sl_ref13_Write T_sl_ref13_Write (.slice (some ⟨b9_1, 0, none⟩) 0 0) (.slice x13p x13l x13c) w9 fun q14_1p q14_1l q14_1c w10 =>
  w10.cell? ((a24.add 4)) = some (.bool x26) ∧
  w10.cell? ((a20.add 3)) = some (.int .i64 x22) ∧
  w10.cell? ((a16.add 2)) = some (.int .i64 x18) ∧
  stN w10 ⟨b2, 0, none⟩ ⟨[.slice q8_1p q8_1l q8_1c, .slice q14_1p q14_1l q14_1c, .int .i64 x18, .int .i64 x22, .bool x26]⟩ 5 fun w11 =>
  J_0 w11)) ∧ (
  newB w1.drew (.cells ⟨[]⟩ T_ref13_Write) fun b9_2 w12 =>
  w12.cell? ((a24.add 4)) = some (.bool x26) ∧
  w12.cell? ((a20.add 3)) = some (.int .i64 x22) ∧
  w12.cell? ((a16.add 2)) = some (.int .i64 x18) ∧
  w12.cell? ((a11.add 1)) = some (.slice x13p x13l x13c) ∧
  w12.cell? a5 = some (.slice x7p x7l x7c) ∧
  newB w12 (.cells ⟨[]⟩ T_sl_uint8) fun b3_1 w13 =>
  w13.cell? ((a24.add 4)) = some (.bool x26) ∧
  w13.cell? ((a20.add 3)) = some (.int .i64 x22) ∧
  w13.cell? ((a16.add 2)) = some (.int .i64 x18) ∧
  w13.cell? ((a11.add 1)) = some (.slice x13p x13l x13c) ∧
  w13.cell? a5 = some (.slice x7p x7l x7c) ∧
  appJ Try.prog T_sl_sl_uint8 T_sl_sl_uint8 (.slice (some ⟨b3_1, 0, none⟩) 0 0) (.slice x7p x7l x7c) w13 fun q8_2p q8_2l q8_2c w14 =>
  w14.cell? ((a24.add 4)) = some (.bool x26) ∧
  w14.cell? ((a20.add 3)) = some (.int .i64 x22) ∧
  w14.cell? ((a16.add 2)) = some (.int .i64 x18) ∧
  w14.cell? ((a11.add 1)) = some (.slice x13p x13l x13c) ∧
  appJ Try.prog T_sl_ref13_Write T_sl_ref13_Write (.slice (some ⟨b9_2, 0, none⟩) 0 0) (.slice x13p x13l x13c) w14 fun q14_2p q14_2l q14_2c w15 =>
  w15.cell? ((a24.add 4)) = some (.bool x26) ∧
  w15.cell? ((a20.add 3)) = some (.int .i64 x22) ∧
  w15.cell? ((a16.add 2)) = some (.int .i64 x18) ∧
  stN w15 ⟨b2, 0, none⟩ ⟨[.slice q8_2p q8_2l q8_2c, .slice q14_2p q14_2l q14_2c, .int .i64 x18, .int .i64 x22, .bool x26]⟩ 5 fun w16 =>
  J_0 w16)
def ann_ref13_Drum_Twin : Ann := .s (.o) (.j [] (.d (.take 1 (.take 2 (.take 3 (.take 4 (.take 7 (.take 8 (.take 9 (.take 10 (.take 12 (.take 13 (.take 14 (.take 15 (.take 16 (.take 17 (.take 18 (.take 19 (.take 20 (.take 21 (.take 22 (.take 23 (.eff 0 (.eff 5 (.eff 6 (.eff 11 (.take 24 (.eff 25 (.done) (.none))) (.none)) (.none)) (.eff 6 (.eff 5 (.eff 11 (.take 24 (.eff 25 (.done) (.none))) (.none)) (.none)) (.none))) (.eff 6 (.eff 0 (.eff 5 (.eff 11 (.take 24 (.eff 25 (.done) (.none))) (.none)) (.none)) (.none)) (.none)))))))))))))))))))))))) (.o))
theorem eq_ref13_Drum_Twin (d0 : Option Addr) (w : World) (J : Option Addr → Nat → Nat → Option Addr → Nat → Nat → Int → Int → Bool → World → Prop) : vcFun Try.prog Try.f30 ann_ref13_Drum_Twin [.agg [.slice, .slice, .int .i64, .int .i64, .bool]] [.pointer d0] w J = VC_ref13_Drum_Twin d0 w J := by kernel_rfl
theorem c_ref13_Drum_Twin {d0 : Option Addr} {w : World} {J : Option Addr → Nat → Nat → Option Addr → Nat → Nat → Int → Int → Bool → World → Prop} (h : VC_ref13_Drum_Twin d0 w J) : callJ Try.prog fn_ref13_Drum_Twin #[.pointer d0] w [.agg [.slice, .slice, .int .i64, .int .i64, .bool]] J := vc_calls Try.func30 ann_ref13_Drum_Twin (Eq.mpr (eq_ref13_Drum_Twin d0 w J) h)

end Go.Proofs.Ytfhmnodoahcmnaa
