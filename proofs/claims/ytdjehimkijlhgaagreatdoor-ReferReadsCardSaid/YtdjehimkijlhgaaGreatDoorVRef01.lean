/- What the conditions of these functions are, reckoned by the reading; printed by program. -/
import Derived.Test.YtdjehimkijlhgaaGreatDoorNm
import Derived.KernelRfl
set_option maxRecDepth 100000
set_option linter.unusedVariables false
namespace Go.Proofs.YtdjehimkijlhgaaGreatDoor
open Go Go.Vc

/-- lectern/lecternref01.Same -/
def VC_ref01_Same (a0p : Option Addr) (a0l : Nat) (a0c : Nat) (b1p : Option Addr) (b1l : Nat) (b1c : Nat) (w : World) (J : Bool → World → Prop) : Prop :=
  bytesOf w a0p a0l fun bs6 =>
  bytesOf w b1p b1l fun bs8 =>
  J ((⟨bs6.toArray⟩ : ByteArray).toList == (⟨bs8.toArray⟩ : ByteArray).toList) w
def ann_ref01_Same : Ann := .s (.o) (.s (.o) (.o))
theorem eq_ref01_Same (a0p : Option Addr) (a0l : Nat) (a0c : Nat) (b1p : Option Addr) (b1l : Nat) (b1c : Nat) (w : World) (J : Bool → World → Prop) : vcFun Tryz.prog Tryz.f16 ann_ref01_Same [.one .bool] [.slice a0p a0l a0c, .slice b1p b1l b1c] w J = VC_ref01_Same a0p a0l a0c b1p b1l b1c w J := by kernel_rfl
theorem c_ref01_Same {a0p : Option Addr} {a0l : Nat} {a0c : Nat} {b1p : Option Addr} {b1l : Nat} {b1c : Nat} {w : World} {J : Bool → World → Prop} (h : VC_ref01_Same a0p a0l a0c b1p b1l b1c w J) : callJ Tryz.prog fn_ref01_Same #[.slice a0p a0l a0c, .slice b1p b1l b1c] w [.one .bool] J := vc_calls Tryz.func16 ann_ref01_Same (Eq.mpr (eq_ref01_Same a0p a0l a0c b1p b1l b1c w J) h)

/-- lectern/lecternref01.Spare -/
def VC_ref01_Spare (b0p : Option Addr) (b0l : Nat) (b0c : Nat) (w : World) (J : Option Addr → Nat → Nat → World → Prop) : Prop :=
  mkS w T_uint8 (zeroC Tryz.prog T_uint8) 1 1 (0 : Int) (w64 (((b0l : Nat) : Int) + (3 : Int))) fun b6 w1 =>
  appJ Tryz.prog T_sl_uint8 T_sl_uint8 (.slice (some ⟨b6, 0, none⟩) 0 ((w64 (((b0l : Nat) : Int) + (3 : Int))).toNat)) (.slice b0p b0l b0c) w1 fun q8p q8l q8c w2 =>
  newB w2 (.cells ⟨[.int .u8 (165 : Int)]⟩ T_uint8) fun b9 w3 =>
  appJ Tryz.prog T_sl_uint8 T_sl_uint8 (.slice q8p q8l q8c) (.slice (some ⟨b9, 0, none⟩) 1 1) w3 fun q10p q10l q10c w4 =>
  slS q10p q10l q10c 1 none (some ((b0l : Nat) : Int)) none fun q13p q13l q13c =>
  J q13p q13l q13c w4
def ann_ref01_Spare : Ann := .s (.o) (.s (.o) (.o))
theorem eq_ref01_Spare (b0p : Option Addr) (b0l : Nat) (b0c : Nat) (w : World) (J : Option Addr → Nat → Nat → World → Prop) : vcFun Tryz.prog Tryz.f5 ann_ref01_Spare [.one .slice] [.slice b0p b0l b0c] w J = VC_ref01_Spare b0p b0l b0c w J := by kernel_rfl
theorem c_ref01_Spare {b0p : Option Addr} {b0l : Nat} {b0c : Nat} {w : World} {J : Option Addr → Nat → Nat → World → Prop} (h : VC_ref01_Spare b0p b0l b0c w J) : callJ Tryz.prog fn_ref01_Spare #[.slice b0p b0l b0c] w [.one .slice] J := vc_calls Tryz.func5 ann_ref01_Spare (Eq.mpr (eq_ref01_Spare b0p b0l b0c w J) h)

/-- lectern/lecternref01.Kept -/
def VC_ref01_Kept (b0p : Option Addr) (b0l : Nat) (b0c : Nat) (was1p : Option Addr) (was1l : Nat) (was1c : Nat) (w : World) (J : Bool → World → Prop) : Prop :=
  withJ (fun (x4 : Bool) (w1 : World) =>
  J x4 w1) fun J_4 =>
  callJ Tryz.prog fn_ref01_Same #[.slice b0p b0l b0c, .slice was1p was1l was1c] w [.one .bool] fun (r7 : Bool) (w2 : World) =>
  condB r7 (
  condB (decide (((b0c : Nat) : Int) > ((b0l : Nat) : Int))) (
  slS b0p b0l b0c 1 none (some (w64 (((b0l : Nat) : Int) + (1 : Int)))) none fun q20p q20l q20c =>
  idxA q20p q20l ((b0l : Nat) : Int) fun a23 =>
  ldI .u8 w2 ((a23.add (((b0l : Nat) : Int).toNat * 1))) fun x24 =>
  J_4 (x24 == (165 : Int)) w2) (
  J_4 false w2)) (
  J_4 false w2)
def ann_ref01_Kept : Ann := .s (.o) (.j [(4, .bool)] (.o) (.o))
theorem eq_ref01_Kept (b0p : Option Addr) (b0l : Nat) (b0c : Nat) (was1p : Option Addr) (was1l : Nat) (was1c : Nat) (w : World) (J : Bool → World → Prop) : vcFun Tryz.prog Tryz.f9 ann_ref01_Kept [.one .bool] [.slice b0p b0l b0c, .slice was1p was1l was1c] w J = VC_ref01_Kept b0p b0l b0c was1p was1l was1c w J := by kernel_rfl
theorem c_ref01_Kept {b0p : Option Addr} {b0l : Nat} {b0c : Nat} {was1p : Option Addr} {was1l : Nat} {was1c : Nat} {w : World} {J : Bool → World → Prop} (h : VC_ref01_Kept b0p b0l b0c was1p was1l was1c w J) : callJ Tryz.prog fn_ref01_Kept #[.slice b0p b0l b0c, .slice was1p was1l was1c] w [.one .bool] J := vc_calls Tryz.func9 ann_ref01_Kept (Eq.mpr (eq_ref01_Kept b0p b0l b0c was1p was1l was1c w J) h)

/-- lectern/lecternref01.Char -/
def VC_ref01_Char (r0 : Int) (w : World) (J : Bool → World → Prop) : Prop :=
  withJ (fun (x2 : Bool) (w1 : World) =>
  J x2 w1) fun J_2 =>
  condB (r0 == (9 : Int)) (
  J_2 true w) (
  condB (r0 == (10 : Int)) (
  J_2 true w) (
  condB (r0 == (13 : Int)) (
  J_2 true w) (
  condB (decide (r0 ≥ (32 : Int))) (
  condB (decide (r0 ≤ (55295 : Int))) (
  J_2 true w) (
  condB (decide (r0 ≥ (57344 : Int))) (
  condB (decide (r0 ≤ (65533 : Int))) (
  J_2 true w) (
  condB (decide (r0 ≥ (65536 : Int))) (
  J_2 (decide (r0 ≤ (1114111 : Int))) w) (
  J_2 false w))) (
  condB (decide (r0 ≥ (65536 : Int))) (
  J_2 (decide (r0 ≤ (1114111 : Int))) w) (
  J_2 false w)))) (
  condB (decide (r0 ≥ (57344 : Int))) (
  condB (decide (r0 ≤ (65533 : Int))) (
  J_2 true w) (
  condB (decide (r0 ≥ (65536 : Int))) (
  J_2 (decide (r0 ≤ (1114111 : Int))) w) (
  J_2 false w))) (
  condB (decide (r0 ≥ (65536 : Int))) (
  J_2 (decide (r0 ≤ (1114111 : Int))) w) (
  J_2 false w))))))
def ann_ref01_Char : Ann := .s (.o) (.j [(2, .bool)] (.o) (.o))
theorem eq_ref01_Char (r0 : Int) (w : World) (J : Bool → World → Prop) : vcFun Tryz.prog Tryz.f14 ann_ref01_Char [.one .bool] [.int .i64 r0] w J = VC_ref01_Char r0 w J := by kernel_rfl
theorem c_ref01_Char {r0 : Int} {w : World} {J : Bool → World → Prop} (h : VC_ref01_Char r0 w J) : callJ Tryz.prog fn_ref01_Char #[.int .i64 r0] w [.one .bool] J := vc_calls Tryz.func14 ann_ref01_Char (Eq.mpr (eq_ref01_Char r0 w J) h)

/-- lectern/lecternref01.Read -/
def VC_ref01_Read (b0p : Option Addr) (b0l : Nat) (b0c : Nat) (at1 : Int) (w : World) (J : Int → Int → World → Prop) : Prop :=
  idxA b0p b0l at1 fun a14 =>
  ldI .u8 w ((a14.add (at1.toNat * 1))) fun x15 =>
  withJ (fun (n7 : Int) (r8 : Int) (least9 : Int) (w1 : World) =>
  condB (decide ((w64 (at1 + n7)) > ((b0l : Nat) : Int))) (
  J (0 : Int) (0 : Int) w1) (
  ∃ I_8 : Int → Int → World → Nat → Prop, (∃ m : Nat, I_8 r8 (1 : Int) w1 m) ∧ ∀ (r8_1 : Int) (i10 : Int) (w2 : World) (m : Nat), I_8 r8_1 i10 w2 m → (
  condB (decide (i10 < n7)) (
  idxA b0p b0l (w64 (at1 + i10)) fun a64 =>
  ldI .u8 w2 ((a64.add ((w64 (at1 + i10)).toNat * 1))) fun x65 =>
  withJ (fun (x72 : Bool) (w3 : World) =>
  condB x72 (
  J (0 : Int) (0 : Int) w3) (
  ∃ m' : Nat, m' < m ∧ I_8 (w64 ((w64 ((w64 ((64 : Int) * r8_1)) + (w64 x65))) - (128 : Int))) (w64 (i10 + (1 : Int))) w3 m')) fun J_72 =>
  condB (decide ((w64 x65) < (128 : Int))) (
  J_72 true w2) (
  J_72 (decide ((w64 x65) > (191 : Int))) w2)) (
  withJ (fun (x92 : Bool) (w4 : World) =>
  condB x92 (
  J (0 : Int) (0 : Int) w4) (
  J r8_1 n7 w4)) fun J_92 =>
  condB (decide (r8_1 < least9)) (
  J_92 true w2) (
  condB (decide (r8_1 > (1114111 : Int))) (
  J_92 true w2) (
  condB (decide (r8_1 ≥ (55296 : Int))) (
  J_92 (decide (r8_1 ≤ (57343 : Int))) w2) (
  J_92 false w2))))))) fun J_7 =>
  condB (decide ((w64 x15) < (128 : Int))) (
  J (w64 x15) (1 : Int) w) (
  withJ (fun (x22 : Bool) (w5 : World) =>
  condB x22 (
  J_7 (2 : Int) (w64 ((w64 x15) - (192 : Int))) (128 : Int) w5) (
  withJ (fun (x31 : Bool) (w6 : World) =>
  condB x31 (
  J_7 (3 : Int) (w64 ((w64 x15) - (224 : Int))) (2048 : Int) w6) (
  withJ (fun (x40 : Bool) (w7 : World) =>
  condB x40 (
  J_7 (4 : Int) (w64 ((w64 x15) - (240 : Int))) (65536 : Int) w7) (
  J (0 : Int) (0 : Int) w7)) fun J_40 =>
  condB (decide ((w64 x15) ≥ (240 : Int))) (
  J_40 (decide ((w64 x15) < (248 : Int))) w6) (
  J_40 false w6))) fun J_31 =>
  condB (decide ((w64 x15) ≥ (224 : Int))) (
  J_31 (decide ((w64 x15) < (240 : Int))) w5) (
  J_31 false w5))) fun J_22 =>
  condB (decide ((w64 x15) ≥ (192 : Int))) (
  J_22 (decide ((w64 x15) < (224 : Int))) w) (
  J_22 false w))
def ann_ref01_Read : Ann := .s (.o) (.s (.o) (.s (.o) (.j [(7, .int .i64), (8, .int .i64), (9, .int .i64)] (.b (.s (.o) (.c (.s (.o) (.o)) (.j [(22, .bool)] (.o) (.c (.o) (.j [(31, .bool)] (.o) (.c (.o) (.j [(40, .bool)] (.o) (.c (.o) (.s (.o) (.o))))))))))) (.s (.s (.o) (.c (.s (.o) (.o)) (.o))) (.s (.s (.o) (.b (.l [(8, .int .i64), (10, .int .i64)] (.s (.s (.o) (.c (.o) (.o))) (.s (.b (.s (.o) (.s (.j [(72, .bool)] (.o) (.c (.s (.o) (.o)) (.o))) (.o)))) (.o)))))) (.s (.j [(92, .bool)] (.o) (.c (.s (.o) (.o)) (.o))) (.s (.o) (.o))))))))
theorem eq_ref01_Read (b0p : Option Addr) (b0l : Nat) (b0c : Nat) (at1 : Int) (w : World) (J : Int → Int → World → Prop) : vcFun Tryz.prog Tryz.f13 ann_ref01_Read [.one (.int .i64), .one (.int .i64)] [.slice b0p b0l b0c, .int .i64 at1] w J = VC_ref01_Read b0p b0l b0c at1 w J := by kernel_rfl
theorem c_ref01_Read {b0p : Option Addr} {b0l : Nat} {b0c : Nat} {at1 : Int} {w : World} {J : Int → Int → World → Prop} (h : VC_ref01_Read b0p b0l b0c at1 w J) : callJ Tryz.prog fn_ref01_Read #[.slice b0p b0l b0c, .int .i64 at1] w [.one (.int .i64), .one (.int .i64)] J := vc_calls Tryz.func13 ann_ref01_Read (Eq.mpr (eq_ref01_Read b0p b0l b0c at1 w J) h)

end Go.Proofs.YtdjehimkijlhgaaGreatDoor
