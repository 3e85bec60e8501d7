/- What the conditions of these functions are, reckoned by the reading; printed by program. -/
import Derived.Test.YtgplflecgnldeaaNm
import Derived.KernelRfl
set_option maxRecDepth 100000
set_option linter.unusedVariables false
namespace Go.Proofs.Ytgplflecgnldeaa
open Go Go.Vc

/-- lectern/drum.New -/
def VC_drum_New (sectors0 : Int) (w : World) (J : Option Addr → Int → World → Prop) : Prop :=
  withJ (fun (x9 : Bool) (w1 : World) =>
  condB x9 (
  J none (1 : Int) w1) (
  withJ (fun (x2 : Option Addr) (x3 : Int) (w2 : World) =>
  J x2 x3 w2) fun J_2 =>
  (
  mkS w1.drew T_drum_sector (zeroC Try.prog T_drum_sector) 64 64 sectors0 sectors0 fun b11 w3 =>
  mkS w3 T_drum_sector (zeroC Try.prog T_drum_sector) 64 64 sectors0 sectors0 fun b13 w4 =>
  newB w4 (.cells ⟨[.slice (some ⟨b11, 0, none⟩) (sectors0.toNat) (sectors0.toNat), .slice (some ⟨b13, 0, none⟩) (sectors0.toNat) (sectors0.toNat), .slice none 0 0, .int .i64 (0 : Int), .int .i64 (-1 : Int), .bool false]⟩ T_drum_Drum) fun b15 w5 =>
  J_2 (some ⟨b15, 0, none⟩) (0 : Int) w5) ∧ (
  mkS w1.drew T_drum_sector (zeroC Try.prog T_drum_sector) 64 64 sectors0 sectors0 fun b13_1 w6 =>
  mkS w6 T_drum_sector (zeroC Try.prog T_drum_sector) 64 64 sectors0 sectors0 fun b11_1 w7 =>
  newB w7 (.cells ⟨[.slice (some ⟨b11_1, 0, none⟩) (sectors0.toNat) (sectors0.toNat), .slice (some ⟨b13_1, 0, none⟩) (sectors0.toNat) (sectors0.toNat), .slice none 0 0, .int .i64 (0 : Int), .int .i64 (-1 : Int), .bool false]⟩ T_drum_Drum) fun b15_1 w8 =>
  J_2 (some ⟨b15_1, 0, none⟩) (0 : Int) w8))) fun J_9 =>
  condB (decide (sectors0 < (1 : Int))) (
  J_9 true w) (
  J_9 (decide (sectors0 > (16384 : Int))) w)
def ann_drum_New : Ann := .s (.o) (.s (.j [(9, .bool)] (.o) (.c (.s (.o) (.o)) (.o))) (.j [(2, .ptr), (3, .int .i64)] (.d (.take 0 (.take 2 (.eff 1 (.eff 3 (.take 4 (.eff 5 (.take 6 (.take 7 (.done))) (.none))) (.none)) (.eff 3 (.eff 1 (.take 4 (.eff 5 (.take 6 (.take 7 (.done))) (.none))) (.none)) (.none)))))) (.o)))
theorem eq_drum_New (sectors0 : Int) (w : World) (J : Option Addr → Int → World → Prop) : vcFun Try.prog Try.f25 ann_drum_New [.one .ptr, .one (.int .i64)] [.int .i64 sectors0] w J = VC_drum_New sectors0 w J := by kernel_rfl
theorem c_drum_New {sectors0 : Int} {w : World} {J : Option Addr → Int → World → Prop} (h : VC_drum_New sectors0 w J) : callJ Try.prog fn_drum_New #[.int .i64 sectors0] w [.one .ptr, .one (.int .i64)] J := vc_calls Try.func25 ann_drum_New (Eq.mpr (eq_drum_New sectors0 w J) h)

/-- (lectern/drum.Drum).Write -/
def VC_drum_Drum_Write (d0 : Option Addr) (n1 : Int) (p2p : Option Addr) (p2l : Nat) (p2c : Nat) (w : World) (J : Int → World → Prop) : Prop :=
  condB d0.isNone (
  J (2 : Int) w) (
  withJ (fun (x12 : Bool) (w1 : World) =>
  condB x12 (
  J (1 : Int) w1) (
  condB (decide (((p2l : Nat) : Int) > (64 : Int))) (
  J (6 : Int) w1) (
  callJ Try.prog fn_drum_Drum_step #[.pointer d0] w1 [.one (.int .i64)] fun (r29 : Int) (w2 : World) =>
  condB (r29 != (0 : Int)) (
  J r29 w2) (
  newB w2 (.cells (zeroC Try.prog T_drum_sector) T_drum_sector) fun b8 w3 =>
  slS (some ⟨b8, 0, none⟩) 64 64 1 none none none fun q33p q33l q33c =>
  cpyJ Try.prog T_sl_uint8 T_sl_uint8 (.slice q33p q33l q33c) (.slice p2p p2l p2c) w3 fun x35 w4 =>
  nonNil d0 fun a37 =>
  ldS w4.drew ((a37.add 1)) fun x39p x39l x39c =>
  ldN w4.drew ⟨b8, 0, none⟩ 64 fun x41cs =>
  idxA x39p x39l n1 fun a42 =>
  stN w4.drew ((a42.add (n1.toNat * 64))) ⟨x41cs⟩ 64 fun w5 =>
  nonNil d0 fun a45 =>
  ldS w5.drew ((a45.add 2)) fun x47p x47l x47c =>
  ldN w5.drew ⟨b8, 0, none⟩ 64 fun x49cs =>
  Array.size (⟨x49cs⟩ : Array Value) = 64 ∧
  Array.size (⟨([.int .i64 n1] ++ x49cs)⟩ : Array Value) = 65 ∧
  newB w5.drew (.cells ⟨([.int .i64 n1] ++ x49cs)⟩ T_drum_write) fun b51 w6 =>
  w6.cell? ((a45.add 2)) = some (.slice x47p x47l x47c) ∧
  appJ Try.prog T_sl_drum_write T_sl_drum_write (.slice x47p x47l x47c) (.slice (some ⟨b51, 0, none⟩) 1 1) w6 fun q52p q52l q52c w7 =>
  nonNil d0 fun a53 =>
  stV w7 ((a53.add 2)) (.slice q52p q52l q52c) fun w8 =>
  J (0 : Int) w8)))) fun J_12 =>
  condB (decide (n1 < (0 : Int))) (
  J_12 true w) (
  nonNil d0 fun a18 =>
  ldS w ((a18.add 1)) fun x20p x20l x20c =>
  J_12 (decide (n1 ≥ ((x20l : Nat) : Int))) w))
def ann_drum_Drum_Write : Ann := .s (.o) (.s (.b (.s (.o) (.c (.s (.o) (.o)) (.j [(12, .bool)] (.o) (.c (.s (.o) (.o)) (.s (.o) (.c (.s (.o) (.o)) (.o)))))))) (.s (.s (.o) (.s (.o) (.c (.s (.o) (.o)) (.o)))) (.s (.o) (.s (.o) (.s (.d (.take 0 (.take 1 (.take 2 (.take 3 (.take 4 (.take 5 (.take 6 (.eff 7 (.done) (.none)))))))))) (.s (.d (.take 0 (.take 1 (.take 2 (.take 3 (.take 4 (.take 5 (.take 6 (.take 7 (.eff 8 (.eff 9 (.take 10 (.take 11 (.eff 12 (.done) (.none)))) (.none)) (.none))))))))))) (.s (.o) (.o))))))))
theorem eq_drum_Drum_Write (d0 : Option Addr) (n1 : Int) (p2p : Option Addr) (p2l : Nat) (p2c : Nat) (w : World) (J : Int → World → Prop) : vcFun Try.prog Try.f45 ann_drum_Drum_Write [.one (.int .i64)] [.pointer d0, .int .i64 n1, .slice p2p p2l p2c] w J = VC_drum_Drum_Write d0 n1 p2p p2l p2c w J := by kernel_rfl
theorem c_drum_Drum_Write {d0 : Option Addr} {n1 : Int} {p2p : Option Addr} {p2l : Nat} {p2c : Nat} {w : World} {J : Int → World → Prop} (h : VC_drum_Drum_Write d0 n1 p2p p2l p2c w J) : callJ Try.prog fn_drum_Drum_Write #[.pointer d0, .int .i64 n1, .slice p2p p2l p2c] w [.one (.int .i64)] J := vc_calls Try.func45 ann_drum_Drum_Write (Eq.mpr (eq_drum_Drum_Write d0 n1 p2p p2l p2c w J) h)

/-- (lectern/drum.Drum).Read -/
def VC_drum_Drum_Read (d0 : Option Addr) (n1 : Int) (w : World) (J : Option Addr → Nat → Nat → Int → World → Prop) : Prop :=
  condB d0.isNone (
  J none 0 0 (2 : Int) w) (
  withJ (fun (x19 : Bool) (w1 : World) =>
  condB x19 (
  J none 0 0 (1 : Int) w1) (
  callJ Try.prog fn_drum_Drum_step #[.pointer d0] w1 [.one (.int .i64)] fun (r21 : Int) (w2 : World) =>
  condB (r21 != (0 : Int)) (
  J none 0 0 r21 w2) (
  nonNil d0 fun a26 =>
  ldS w2 ((a26.add 1)) fun x28p x28l x28c =>
  idxA x28p x28l n1 fun a30 =>
  slS (some ((a30.add (n1.toNat * 64)))) 64 64 1 none none none fun q31p q31l q31c =>
  callJ Try.prog fn_slices_Clone_sl_byte_byte #[.slice q31p q31l q31c] w2 [.one .slice] fun (r32p : Option Addr) (r32l : Nat) (r32c : Nat) (w3 : World) =>
  J r32p r32l r32c (0 : Int) w3))) fun J_19 =>
  condB (decide (n1 < (0 : Int))) (
  J_19 true w) (
  nonNil d0 fun a14 =>
  ldS w ((a14.add 1)) fun x16p x16l x16c =>
  J_19 (decide (n1 ≥ ((x16l : Nat) : Int))) w))
def ann_drum_Drum_Read : Ann := .s (.o) (.s (.s (.o) (.c (.s (.o) (.o)) (.o))) (.s (.j [(19, .bool)] (.o) (.c (.s (.o) (.o)) (.o))) (.s (.s (.o) (.s (.o) (.c (.s (.o) (.o)) (.o)))) (.s (.o) (.o)))))
theorem eq_drum_Drum_Read (d0 : Option Addr) (n1 : Int) (w : World) (J : Option Addr → Nat → Nat → Int → World → Prop) : vcFun Try.prog Try.f30 ann_drum_Drum_Read [.one .slice, .one (.int .i64)] [.pointer d0, .int .i64 n1] w J = VC_drum_Drum_Read d0 n1 w J := by kernel_rfl
theorem c_drum_Drum_Read {d0 : Option Addr} {n1 : Int} {w : World} {J : Option Addr → Nat → Nat → Int → World → Prop} (h : VC_drum_Drum_Read d0 n1 w J) : callJ Try.prog fn_drum_Drum_Read #[.pointer d0, .int .i64 n1] w [.one .slice, .one (.int .i64)] J := vc_calls Try.func30 ann_drum_Drum_Read (Eq.mpr (eq_drum_Drum_Read d0 n1 w J) h)

/-- (lectern/drum.Drum).Flush -/
def VC_drum_Drum_Flush (d0 : Option Addr) (w : World) (J : Int → World → Prop) : Prop :=
  condB d0.isNone (
  J (2 : Int) w) (
  callJ Try.prog fn_drum_Drum_step #[.pointer d0] w [.one (.int .i64)] fun (r9 : Int) (w1 : World) =>
  condB (r9 != (0 : Int)) (
  J r9 w1) (
  nonNil d0 fun a14 =>
  ldS w1 ((a14.add 2)) fun x16p x16l x16c =>
  ∃ I_18 : Int → World → Nat → Prop, (∃ m : Nat, I_18 (0 : Int) w1 m) ∧ ∀ (x18 : Int) (w2 : World) (m : Nat), I_18 x18 w2 m → (
  condB (decide (x18 < ((x16l : Nat) : Int))) (
  idxA x16p x16l x18 fun a20 =>
  ldN w2 ((a20.add (x18.toNat * 65))) 65 fun x21cs =>
  newB w2 (.cells (zeroC Try.prog T_drum_write) T_drum_write) fun b5 w3 =>
  stN w3 ⟨b5, 0, none⟩ ⟨x21cs⟩ 65 fun w4 =>
  nonNil d0 fun a23 =>
  ldS w4.drew a23 fun x25p x25l x25c =>
  ldI .i64 w4.drew ⟨b5, 0, none⟩ fun x27 =>
  ldN w4.drew ⟨b5, 1, none⟩ 64 fun x29cs =>
  idxA x25p x25l x27 fun a30 =>
  stN w4.drew ((a30.add (x27.toNat * 64))) ⟨x29cs⟩ 64 fun w5 =>
  ∃ m' : Nat, m' < m ∧ I_18 (w64 (x18 + (1 : Int))) w5 m') (
  nonNil d0 fun a33 =>
  stV w2 ((a33.add 2)) (.slice none 0 0) fun w6 =>
  J (0 : Int) w6))))
def ann_drum_Drum_Flush : Ann := .s (.o) (.s (.s (.o) (.c (.s (.o) (.o)) (.o))) (.s (.s (.o) (.s (.o) (.c (.s (.o) (.o)) (.o)))) (.s (.s (.o) (.b (.l [(18, .int .i64)] (.s (.o) (.s (.c (.o) (.o)) (.s (.b (.s (.o) (.d (.take 0 (.take 1 (.take 2 (.take 3 (.take 4 (.take 5 (.take 6 (.take 7 (.take 8 (.eff 9 (.done) (.none)))))))))))))) (.o))))))) (.s (.o) (.s (.o) (.o))))))
theorem eq_drum_Drum_Flush (d0 : Option Addr) (w : World) (J : Int → World → Prop) : vcFun Try.prog Try.f31 ann_drum_Drum_Flush [.one (.int .i64)] [.pointer d0] w J = VC_drum_Drum_Flush d0 w J := by kernel_rfl
theorem c_drum_Drum_Flush {d0 : Option Addr} {w : World} {J : Int → World → Prop} (h : VC_drum_Drum_Flush d0 w J) : callJ Try.prog fn_drum_Drum_Flush #[.pointer d0] w [.one (.int .i64)] J := vc_calls Try.func31 ann_drum_Drum_Flush (Eq.mpr (eq_drum_Drum_Flush d0 w J) h)

/-- (lectern/drum.Drum).Crash -/
def VC_drum_Drum_Crash (d0 : Option Addr) (keep1p : Option Addr) (keep1l : Nat) (keep1c : Nat) (w : World) (J : Int → World → Prop) : Prop :=
  condB d0.isNone (
  J (2 : Int) w) (
  nonNil d0 fun a10 =>
  ldS w ((a10.add 2)) fun x12p x12l x12c =>
  ∃ I_14 : Int → World → Nat → Prop, (∃ m : Nat, I_14 (0 : Int) w m) ∧ ∀ (x14 : Int) (w1 : World) (m : Nat), I_14 x14 w1 m → (
  condB (decide (x14 < ((x12l : Nat) : Int))) (
  withJ (fun (w2 : World) =>
  ∃ m' : Nat, m' < m ∧ I_14 (w64 (x14 + (1 : Int))) w2 m') fun J_0 =>
  idxA x12p x12l x14 fun a17 =>
  ldN w1 ((a17.add (x14.toNat * 65))) 65 fun x18cs =>
  newB w1 (.cells (zeroC Try.prog T_drum_write) T_drum_write) fun b6 w3 =>
  stN w3 ⟨b6, 0, none⟩ ⟨x18cs⟩ 65 fun w4 =>
  withJ (fun (x28 : Bool) (w5 : World) =>
  condB x28 (
  nonNil d0 fun a30 =>
  ldS w5.drew a30 fun x32p x32l x32c =>
  ldI .i64 w5.drew ⟨b6, 0, none⟩ fun x34 =>
  ldN w5.drew ⟨b6, 1, none⟩ 64 fun x36cs =>
  idxA x32p x32l x34 fun a37 =>
  stN w5.drew ((a37.add (x34.toNat * 64))) ⟨x36cs⟩ 64 fun w6 =>
  J_0 w6) (
  J_0 w5)) fun J_28 =>
  condB (decide (x14 < ((keep1l : Nat) : Int))) (
  idxA keep1p keep1l x14 fun a26 =>
  ldB w4 ((a26.add (x14.toNat * 1))) fun x27 =>
  J_28 x27 w4) (
  J_28 false w4)) (
  nonNil d0 fun a41 =>
  ldS w1 a41 fun x43p x43l x43c =>
  callJ Try.prog fn_slices_Clone_sl_drum_sector_drum_sector #[.slice x43p x43l x43c] w1 [.one .slice] fun (r44p : Option Addr) (r44l : Nat) (r44c : Nat) (w7 : World) =>
  nonNil d0 fun a45 =>
  stV w7 ((a45.add 1)) (.slice r44p r44l r44c) fun w8 =>
  nonNil d0 fun a50 =>
  stV w8 ((a50.add 2)) (.slice none 0 0) fun w9 =>
  nonNil d0 fun a52 =>
  stV w9 ((a52.add 4)) (.int .i64 (-1 : Int)) fun w10 =>
  nonNil d0 fun a54 =>
  stV w10 ((a54.add 5)) (.bool false) fun w11 =>
  J (0 : Int) w11)))
def ann_drum_Drum_Crash : Ann := .s (.o) (.s (.s (.o) (.c (.s (.o) (.o)) (.o))) (.s (.s (.o) (.b (.l [(14, .int .i64)] (.s (.o) (.s (.c (.o) (.o)) (.j [] (.b (.s (.o) (.j [(28, .bool)] (.o) (.c (.d (.take 0 (.take 1 (.take 2 (.take 3 (.take 4 (.take 5 (.take 6 (.take 7 (.take 8 (.eff 9 (.done) (.none)))))))))))) (.o))))) (.o))))))) (.s (.o) (.s (.o) (.s (.o) (.o))))))
theorem eq_drum_Drum_Crash (d0 : Option Addr) (keep1p : Option Addr) (keep1l : Nat) (keep1c : Nat) (w : World) (J : Int → World → Prop) : vcFun Try.prog Try.f33 ann_drum_Drum_Crash [.one (.int .i64)] [.pointer d0, .slice keep1p keep1l keep1c] w J = VC_drum_Drum_Crash d0 keep1p keep1l keep1c w J := by kernel_rfl
theorem c_drum_Drum_Crash {d0 : Option Addr} {keep1p : Option Addr} {keep1l : Nat} {keep1c : Nat} {w : World} {J : Int → World → Prop} (h : VC_drum_Drum_Crash d0 keep1p keep1l keep1c w J) : callJ Try.prog fn_drum_Drum_Crash #[.pointer d0, .slice keep1p keep1l keep1c] w [.one (.int .i64)] J := vc_calls Try.func33 ann_drum_Drum_Crash (Eq.mpr (eq_drum_Drum_Crash d0 keep1p keep1l keep1c w J) h)

/-- (lectern/drum.Drum).Fuse -/
def VC_drum_Drum_Fuse (d0 : Option Addr) (steps1 : Int) (w : World) (J : Int → World → Prop) : Prop :=
  condB d0.isNone (
  J (2 : Int) w) (
  condB (decide (steps1 < (0 : Int))) (
  J (1 : Int) w) (
  nonNil d0 fun a13 =>
  stV w ((a13.add 4)) (.int .i64 steps1) fun w1 =>
  J (0 : Int) w1))
def ann_drum_Drum_Fuse : Ann := .s (.o) (.s (.b (.s (.o) (.c (.s (.o) (.o)) (.s (.o) (.c (.s (.o) (.o)) (.o)))))) (.s (.o) (.s (.o) (.o))))
theorem eq_drum_Drum_Fuse (d0 : Option Addr) (steps1 : Int) (w : World) (J : Int → World → Prop) : vcFun Try.prog Try.f32 ann_drum_Drum_Fuse [.one (.int .i64)] [.pointer d0, .int .i64 steps1] w J = VC_drum_Drum_Fuse d0 steps1 w J := by kernel_rfl
theorem c_drum_Drum_Fuse {d0 : Option Addr} {steps1 : Int} {w : World} {J : Int → World → Prop} (h : VC_drum_Drum_Fuse d0 steps1 w J) : callJ Try.prog fn_drum_Drum_Fuse #[.pointer d0, .int .i64 steps1] w [.one (.int .i64)] J := vc_calls Try.func32 ann_drum_Drum_Fuse (Eq.mpr (eq_drum_Drum_Fuse d0 steps1 w J) h)

/-- (lectern/drum.Drum).Sectors -/
def VC_drum_Drum_Sectors (d0 : Option Addr) (w : World) (J : Int → World → Prop) : Prop :=
  condB d0.isNone (
  J (0 : Int) w) (
  nonNil d0 fun a6 =>
  ldS w ((a6.add 1)) fun x8p x8l x8c =>
  J ((x8l : Nat) : Int) w)
def ann_drum_Drum_Sectors : Ann := .s (.o) (.s (.s (.o) (.c (.s (.o) (.o)) (.o))) (.s (.o) (.o)))
theorem eq_drum_Drum_Sectors (d0 : Option Addr) (w : World) (J : Int → World → Prop) : vcFun Try.prog Try.f53 ann_drum_Drum_Sectors [.one (.int .i64)] [.pointer d0] w J = VC_drum_Drum_Sectors d0 w J := by kernel_rfl
theorem c_drum_Drum_Sectors {d0 : Option Addr} {w : World} {J : Int → World → Prop} (h : VC_drum_Drum_Sectors d0 w J) : callJ Try.prog fn_drum_Drum_Sectors #[.pointer d0] w [.one (.int .i64)] J := vc_calls Try.func53 ann_drum_Drum_Sectors (Eq.mpr (eq_drum_Drum_Sectors d0 w J) h)

/-- (lectern/drum.Drum).step -/
def VC_drum_Drum_step (d0 : Option Addr) (w : World) (J : Int → World → Prop) : Prop :=
  withJ (fun (w1 : World) =>
  nonNil d0 fun a12 =>
  ldB w1 ((a12.add 5)) fun x14 =>
  condB x14 (
  J (9 : Int) w1) (
  nonNil d0 fun a16 =>
  ldI .i64 w1 ((a16.add 3)) fun x18 =>
  nonNil d0 fun a20 =>
  stV w1 ((a20.add 3)) (.int .i64 (w64 (x18 + (1 : Int)))) fun w2 =>
  withJ (fun (w3 : World) =>
  J (0 : Int) w3) fun J_0_1 =>
  nonNil d0 fun a23 =>
  ldI .i64 w2 ((a23.add 4)) fun x25 =>
  condB (decide (x25 > (0 : Int))) (
  nonNil d0 fun a28 =>
  ldI .i64 w2 ((a28.add 4)) fun x30 =>
  nonNil d0 fun a32 =>
  stV w2 ((a32.add 4)) (.int .i64 (w64 (x30 - (1 : Int)))) fun w4 =>
  J_0_1 w4) (
  J_0_1 w2))) fun J_0 =>
  nonNil d0 fun a4 =>
  ldI .i64 w ((a4.add 4)) fun x6 =>
  condB (x6 == (0 : Int)) (
  nonNil d0 fun a9 =>
  stV w ((a9.add 5)) (.bool true) fun w5 =>
  J_0 w5) (
  J_0 w)
def ann_drum_Drum_step : Ann := .s (.o) (.j [] (.s (.o) (.c (.o) (.o))) (.s (.s (.o) (.c (.s (.o) (.o)) (.o))) (.s (.o) (.j [] (.s (.o) (.c (.o) (.o))) (.s (.o) (.o))))))
theorem eq_drum_Drum_step (d0 : Option Addr) (w : World) (J : Int → World → Prop) : vcFun Try.prog Try.f46 ann_drum_Drum_step [.one (.int .i64)] [.pointer d0] w J = VC_drum_Drum_step d0 w J := by kernel_rfl
theorem c_drum_Drum_step {d0 : Option Addr} {w : World} {J : Int → World → Prop} (h : VC_drum_Drum_step d0 w J) : callJ Try.prog fn_drum_Drum_step #[.pointer d0] w [.one (.int .i64)] J := vc_calls Try.func46 ann_drum_Drum_step (Eq.mpr (eq_drum_Drum_step d0 w J) h)

/-- slices.Clone[[]byte,byte] -/
def VC_slices_Clone_sl_byte_byte (s0p : Option Addr) (s0l : Nat) (s0c : Nat) (w : World) (J : Option Addr → Nat → Nat → World → Prop) : Prop :=
  condB s0p.isNone (
  J none 0 0 w) (
  newB w (.cells ⟨[]⟩ T_uint8) fun b5 w1 =>
  appJ Try.prog T_sl_uint8 T_sl_uint8 (.slice (some ⟨b5, 0, none⟩) 0 0) (.slice s0p s0l s0c) w1 fun q7p q7l q7c w2 =>
  J q7p q7l q7c w2)
def ann_slices_Clone_sl_byte_byte : Ann := .s (.o) (.s (.s (.o) (.c (.s (.o) (.o)) (.o))) (.s (.o) (.o)))
theorem eq_slices_Clone_sl_byte_byte (s0p : Option Addr) (s0l : Nat) (s0c : Nat) (w : World) (J : Option Addr → Nat → Nat → World → Prop) : vcFun Try.prog Try.f47 ann_slices_Clone_sl_byte_byte [.one .slice] [.slice s0p s0l s0c] w J = VC_slices_Clone_sl_byte_byte s0p s0l s0c w J := by kernel_rfl
theorem c_slices_Clone_sl_byte_byte {s0p : Option Addr} {s0l : Nat} {s0c : Nat} {w : World} {J : Option Addr → Nat → Nat → World → Prop} (h : VC_slices_Clone_sl_byte_byte s0p s0l s0c w J) : callJ Try.prog fn_slices_Clone_sl_byte_byte #[.slice s0p s0l s0c] w [.one .slice] J := vc_calls Try.func47 ann_slices_Clone_sl_byte_byte (Eq.mpr (eq_slices_Clone_sl_byte_byte s0p s0l s0c w J) h)

/-- slices.Clone[[]lectern/drum.sector,lectern/drum.sector] -/
def VC_slices_Clone_sl_drum_sector_drum_sector (s0p : Option Addr) (s0l : Nat) (s0c : Nat) (w : World) (J : Option Addr → Nat → Nat → World → Prop) : Prop :=
  condB s0p.isNone (
  J none 0 0 w) (
  newB w (.cells ⟨[]⟩ T_drum_sector) fun b5 w1 =>
  appJ Try.prog T_sl_drum_sector T_sl_drum_sector (.slice (some ⟨b5, 0, none⟩) 0 0) (.slice s0p s0l s0c) w1 fun q7p q7l q7c w2 =>
  J q7p q7l q7c w2)
def ann_slices_Clone_sl_drum_sector_drum_sector : Ann := .s (.o) (.s (.s (.o) (.c (.s (.o) (.o)) (.o))) (.s (.o) (.o)))
theorem eq_slices_Clone_sl_drum_sector_drum_sector (s0p : Option Addr) (s0l : Nat) (s0c : Nat) (w : World) (J : Option Addr → Nat → Nat → World → Prop) : vcFun Try.prog Try.f48 ann_slices_Clone_sl_drum_sector_drum_sector [.one .slice] [.slice s0p s0l s0c] w J = VC_slices_Clone_sl_drum_sector_drum_sector s0p s0l s0c w J := by kernel_rfl
theorem c_slices_Clone_sl_drum_sector_drum_sector {s0p : Option Addr} {s0l : Nat} {s0c : Nat} {w : World} {J : Option Addr → Nat → Nat → World → Prop} (h : VC_slices_Clone_sl_drum_sector_drum_sector s0p s0l s0c w J) : callJ Try.prog fn_slices_Clone_sl_drum_sector_drum_sector #[.slice s0p s0l s0c] w [.one .slice] J := vc_calls Try.func48 ann_slices_Clone_sl_drum_sector_drum_sector (Eq.mpr (eq_slices_Clone_sl_drum_sector_drum_sector s0p s0l s0c w J) h)

end Go.Proofs.Ytgplflecgnldeaa
