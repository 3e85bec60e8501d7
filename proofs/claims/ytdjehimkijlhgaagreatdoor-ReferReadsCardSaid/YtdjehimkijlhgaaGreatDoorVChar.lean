/- What the conditions of these functions are, reckoned by the reading; printed by program. -/
import Derived.Test.YtdjehimkijlhgaaGreatDoorNm
import Derived.KernelRfl
set_option maxRecDepth 100000
set_option linter.unusedVariables false
namespace Go.Proofs.YtdjehimkijlhgaaGreatDoor
open Go Go.Vc

/-- lectern/char.IsChar -/
def VC_char_IsChar (r0 : Int) (w : World) (J : Bool → World → Prop) : Prop :=
  withJ (fun (x2 : Bool) (w1 : World) =>
  J x2 w1) fun J_2 =>
  condB (r0 == (9 : Int)) (
  J_2 true w) (
  condB (r0 == (10 : Int)) (
  J_2 true w) (
  condB (r0 == (13 : Int)) (
  J_2 true w) (
  Array.size (⟨[.int .i32 (32 : Int), .int .i32 (55295 : Int)]⟩ : Array Value) = 2 ∧
  Array.size (⟨[.int .i32 (57344 : Int), .int .i32 (65533 : Int)]⟩ : Array Value) = 2 ∧
  Array.size (⟨[.int .i32 (65536 : Int), .int .i32 (1114111 : Int)]⟩ : Array Value) = 2 ∧
  newB w (.cells ⟨[.int .i32 (32 : Int), .int .i32 (55295 : Int), .int .i32 (57344 : Int), .int .i32 (65533 : Int), .int .i32 (65536 : Int), .int .i32 (1114111 : Int)]⟩ T_char_span) fun b18 w2 =>
  callJ Tryz.prog fn_char_in #[.int .i32 r0, .slice (some ⟨b18, 0, none⟩) 3 3] w2 [.one .bool] fun (r19 : Bool) (w3 : World) =>
  J_2 r19 w3)))
def ann_char_IsChar : Ann := .s (.o) (.j [(2, .bool)] (.o) (.o))
theorem eq_char_IsChar (r0 : Int) (w : World) (J : Bool → World → Prop) : vcFun Tryz.prog Tryz.f28 ann_char_IsChar [.one .bool] [.int .i32 r0] w J = VC_char_IsChar r0 w J := by kernel_rfl
theorem c_char_IsChar {r0 : Int} {w : World} {J : Bool → World → Prop} (h : VC_char_IsChar r0 w J) : callJ Tryz.prog fn_char_IsChar #[.int .i32 r0] w [.one .bool] J := vc_calls Tryz.func28 ann_char_IsChar (Eq.mpr (eq_char_IsChar r0 w J) h)

/-- lectern/char.in -/
def VC_char_in (r0 : Int) (l1p : Option Addr) (l1l : Nat) (l1c : Nat) (w : World) (J : Bool → World → Prop) : Prop :=
  ∃ I_9 : Int → World → Nat → Prop, (∃ m : Nat, I_9 (0 : Int) w m) ∧ ∀ (x9 : Int) (w1 : World) (m : Nat), I_9 x9 w1 m → (
  condB (decide (x9 < ((l1l : Nat) : Int))) (
  idxA l1p l1l x9 fun a11 =>
  ldI .i32 w1 ((a11.add (x9.toNat * 2))) fun x12_0 =>
  ldI .i32 w1 (((a11.add (x9.toNat * 2)).add 1)) fun x12_1 =>
  newB w1 (.cells (zeroC Tryz.prog T_char_span) T_char_span) fun b6 w2 =>
  stN w2 ⟨b6, 0, none⟩ ⟨[.int .i32 x12_0, .int .i32 x12_1]⟩ 2 fun w3 =>
  ldI .i32 w3 ⟨b6, 1, none⟩ fun x15 =>
  condB (decide (r0 ≤ x15)) (
  ldI .i32 w3 ⟨b6, 0, none⟩ fun x19 =>
  J (decide (r0 ≥ x19)) w3) (
  ∃ m' : Nat, m' < m ∧ I_9 (w64 (x9 + (1 : Int))) w3 m')) (
  J false w1))
def ann_char_in : Ann := .s (.o) (.s (.s (.o) (.b (.l [(9, .int .i64)] (.s (.o) (.s (.c (.o) (.o)) (.s (.b (.s (.o) (.s (.o) (.c (.s (.o) (.o)) (.o))))) (.o))))))) (.s (.o) (.o)))
theorem eq_char_in (r0 : Int) (l1p : Option Addr) (l1l : Nat) (l1c : Nat) (w : World) (J : Bool → World → Prop) : vcFun Tryz.prog Tryz.f34 ann_char_in [.one .bool] [.int .i32 r0, .slice l1p l1l l1c] w J = VC_char_in r0 l1p l1l l1c w J := by kernel_rfl
theorem c_char_in {r0 : Int} {l1p : Option Addr} {l1l : Nat} {l1c : Nat} {w : World} {J : Bool → World → Prop} (h : VC_char_in r0 l1p l1l l1c w J) : callJ Tryz.prog fn_char_in #[.int .i32 r0, .slice l1p l1l l1c] w [.one .bool] J := vc_calls Tryz.func34 ann_char_in (Eq.mpr (eq_char_in r0 l1p l1l l1c w J) h)

/-- lectern/char.Next -/
def VC_char_Next (b0p : Option Addr) (b0l : Nat) (b0c : Nat) (at1 : Int) (w : World) (J : Int → Int → Int → World → Prop) : Prop :=
  withJ (fun (x16 : Bool) (w1 : World) =>
  condB x16 (
  J (0 : Int) (0 : Int) (1 : Int) w1) (
  slS b0p b0l b0c 1 (some at1) none none fun q20p q20l q20c =>
  callJ Tryz.prog fn_unicode_utf8_DecodeRune #[.slice q20p q20l q20c] w1 [.one (.int .i32), .one (.int .i64)] fun (r21_0 : Int) (r21_1 : Int) (w2 : World) =>
  withJ (fun (x24 : Bool) (w3 : World) =>
  condB x24 (
  J (0 : Int) (0 : Int) (20 : Int) w3) (
  callJ Tryz.prog fn_char_IsChar #[.int .i32 r21_0] w3 [.one .bool] fun (r33 : Bool) (w4 : World) =>
  condB (!r33) (
  J (0 : Int) (0 : Int) (21 : Int) w4) (
  J r21_0 (w64 (at1 + r21_1)) (0 : Int) w4))) fun J_24 =>
  condB (r21_0 == (65533 : Int)) (
  J_24 (decide (r21_1 < (3 : Int))) w2) (
  J_24 false w2))) fun J_16 =>
  condB (decide (at1 < (0 : Int))) (
  J_16 true w) (
  J_16 (decide (at1 ≥ ((b0l : Nat) : Int))) w)
def ann_char_Next : Ann := .s (.o) (.s (.j [(16, .bool)] (.o) (.c (.s (.o) (.o)) (.o))) (.s (.o) (.s (.b (.j [(24, .bool)] (.o) (.c (.s (.o) (.o)) (.s (.o) (.c (.s (.o) (.o)) (.o)))))) (.s (.o) (.o)))))
theorem eq_char_Next (b0p : Option Addr) (b0l : Nat) (b0c : Nat) (at1 : Int) (w : World) (J : Int → Int → Int → World → Prop) : vcFun Tryz.prog Tryz.f21 ann_char_Next [.one (.int .i32), .one (.int .i64), .one (.int .i64)] [.slice b0p b0l b0c, .int .i64 at1] w J = VC_char_Next b0p b0l b0c at1 w J := by kernel_rfl
theorem c_char_Next {b0p : Option Addr} {b0l : Nat} {b0c : Nat} {at1 : Int} {w : World} {J : Int → Int → Int → World → Prop} (h : VC_char_Next b0p b0l b0c at1 w J) : callJ Tryz.prog fn_char_Next #[.slice b0p b0l b0c, .int .i64 at1] w [.one (.int .i32), .one (.int .i64), .one (.int .i64)] J := vc_calls Tryz.func21 ann_char_Next (Eq.mpr (eq_char_Next b0p b0l b0c at1 w J) h)

end Go.Proofs.YtdjehimkijlhgaaGreatDoor
