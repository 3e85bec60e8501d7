/- What the conditions of these functions are, reckoned by the reading; printed by program. -/
import Derived.Test.YtkgfbphdmnapdaaGreatDoorNm
import Derived.KernelRfl
set_option maxRecDepth 100000
set_option linter.unusedVariables false
namespace Go.Proofs.YtkgfbphdmnapdaaGreatDoor
open Go Go.Vc

/-- cmp.Compare[string] -/
def VC_cmp_Compare_string (x0 : ByteArray) (y1 : ByteArray) (w : World) (J : Int → World → Prop) : Prop :=
  callJ Tryz.prog fn_cmp_isNaN_string #[.string x0] w [.one .bool] fun (r8 : Bool) (w1 : World) =>
  callJ Tryz.prog fn_cmp_isNaN_string #[.string y1] w1 [.one .bool] fun (r10 : Bool) (w2 : World) =>
  condB r8 (
  condB r10 (
  J (0 : Int) w2) (
  J (-1 : Int) w2)) (
  condB r10 (
  J (1 : Int) w2) (
  condB (Op.bytesLess x0.toList y1.toList) (
  J (-1 : Int) w2) (
  condB (!((Op.bytesLess x0.toList y1.toList) || (x0.toList == y1.toList))) (
  J (1 : Int) w2) (
  J (0 : Int) w2))))
def ann_cmp_Compare_string : Ann := .s (.o) (.s (.o) (.s (.o) (.s (.s (.o) (.c (.s (.s (.o) (.c (.s (.o) (.o)) (.o))) (.s (.o) (.o))) (.o))) (.s (.s (.o) (.c (.s (.o) (.o)) (.o))) (.s (.s (.o) (.c (.s (.o) (.o)) (.o))) (.s (.s (.o) (.c (.s (.o) (.o)) (.o))) (.s (.o) (.o))))))))
theorem eq_cmp_Compare_string (x0 : ByteArray) (y1 : ByteArray) (w : World) (J : Int → World → Prop) : vcFun Tryz.prog Tryz.f85 ann_cmp_Compare_string [.one (.int .i64)] [.string x0, .string y1] w J = VC_cmp_Compare_string x0 y1 w J := by kernel_rfl
theorem c_cmp_Compare_string {x0 : ByteArray} {y1 : ByteArray} {w : World} {J : Int → World → Prop} (h : VC_cmp_Compare_string x0 y1 w J) : callJ Tryz.prog fn_cmp_Compare_string #[.string x0, .string y1] w [.one (.int .i64)] J := vc_calls Tryz.func85 ann_cmp_Compare_string (Eq.mpr (eq_cmp_Compare_string x0 y1 w J) h)

/-- cmp.isNaN[string] -/
def VC_cmp_isNaN_string (x0 : ByteArray) (w : World) (J : Bool → World → Prop) : Prop :=
  J (!(x0.toList == x0.toList)) w
def ann_cmp_isNaN_string : Ann := .s (.o) (.s (.o) (.o))
theorem eq_cmp_isNaN_string (x0 : ByteArray) (w : World) (J : Bool → World → Prop) : vcFun Tryz.prog Tryz.f105 ann_cmp_isNaN_string [.one .bool] [.string x0] w J = VC_cmp_isNaN_string x0 w J := by kernel_rfl
theorem c_cmp_isNaN_string {x0 : ByteArray} {w : World} {J : Bool → World → Prop} (h : VC_cmp_isNaN_string x0 w J) : callJ Tryz.prog fn_cmp_isNaN_string #[.string x0] w [.one .bool] J := vc_calls Tryz.func105 ann_cmp_isNaN_string (Eq.mpr (eq_cmp_isNaN_string x0 w J) h)

/-- cmp.Or[int] -/
def VC_cmp_Or_int (vals0p : Option Addr) (vals0l : Nat) (vals0c : Nat) (w : World) (J : Int → World → Prop) : Prop :=
  ∃ I_8 : Int → World → Nat → Prop, (∃ m : Nat, I_8 (0 : Int) w m) ∧ ∀ (x8 : Int) (w1 : World) (m : Nat), I_8 x8 w1 m → (
  condB (decide (x8 < ((vals0l : Nat) : Int))) (
  idxA vals0p vals0l x8 fun a10 =>
  ldI .i64 w1 ((a10.add (x8.toNat * 1))) fun x11 =>
  condB (x11 != (0 : Int)) (
  J x11 w1) (
  ∃ m' : Nat, m' < m ∧ I_8 (w64 (x8 + (1 : Int))) w1 m')) (
  J (0 : Int) w1))
def ann_cmp_Or_int : Ann := .s (.o) (.s (.o) (.s (.s (.o) (.b (.l [(8, .int .i64)] (.s (.o) (.s (.c (.o) (.o)) (.s (.b (.s (.o) (.s (.o) (.c (.s (.o) (.o)) (.o))))) (.o))))))) (.s (.o) (.o))))
theorem eq_cmp_Or_int (vals0p : Option Addr) (vals0l : Nat) (vals0c : Nat) (w : World) (J : Int → World → Prop) : vcFun Tryz.prog Tryz.f84 ann_cmp_Or_int [.one (.int .i64)] [.slice vals0p vals0l vals0c] w J = VC_cmp_Or_int vals0p vals0l vals0c w J := by kernel_rfl
theorem c_cmp_Or_int {vals0p : Option Addr} {vals0l : Nat} {vals0c : Nat} {w : World} {J : Int → World → Prop} (h : VC_cmp_Or_int vals0p vals0l vals0c w J) : callJ Tryz.prog fn_cmp_Or_int #[.slice vals0p vals0l vals0c] w [.one (.int .i64)] J := vc_calls Tryz.func84 ann_cmp_Or_int (Eq.mpr (eq_cmp_Or_int vals0p vals0l vals0c w J) h)

end Go.Proofs.YtkgfbphdmnapdaaGreatDoor
