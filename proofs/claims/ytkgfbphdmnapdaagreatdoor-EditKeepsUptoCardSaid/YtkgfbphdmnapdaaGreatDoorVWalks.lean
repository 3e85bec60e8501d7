/- What the conditions of these functions are, reckoned by the reading; printed by program. -/
import Derived.Test.YtkgfbphdmnapdaaGreatDoorNm
import Derived.KernelRfl
set_option maxRecDepth 100000
set_option linter.unusedVariables false
namespace Go.Proofs.YtkgfbphdmnapdaaGreatDoor
open Go Go.Vc

/-- slices.Clone[[]int,int] -/
def VC_slices_Clone_sl_int_int (s0p : Option Addr) (s0l : Nat) (s0c : Nat) (w : World) (J : Option Addr → Nat → Nat → World → Prop) : Prop :=
  condB s0p.isNone (
  J none 0 0 w) (
  newB w (.cells ⟨[]⟩ T_int) fun b5 w1 =>
  appJ Tryz.prog T_sl_int T_sl_int (.slice (some ⟨b5, 0, none⟩) 0 0) (.slice s0p s0l s0c) w1 fun q7p q7l q7c w2 =>
  J q7p q7l q7c w2)
def ann_slices_Clone_sl_int_int : Ann := .s (.o) (.s (.s (.o) (.c (.s (.o) (.o)) (.o))) (.s (.o) (.o)))
theorem eq_slices_Clone_sl_int_int (s0p : Option Addr) (s0l : Nat) (s0c : Nat) (w : World) (J : Option Addr → Nat → Nat → World → Prop) : vcFun Tryz.prog Tryz.f24 ann_slices_Clone_sl_int_int [.one .slice] [.slice s0p s0l s0c] w J = VC_slices_Clone_sl_int_int s0p s0l s0c w J := by kernel_rfl
theorem c_slices_Clone_sl_int_int {s0p : Option Addr} {s0l : Nat} {s0c : Nat} {w : World} {J : Option Addr → Nat → Nat → World → Prop} (h : VC_slices_Clone_sl_int_int s0p s0l s0c w J) : callJ Tryz.prog fn_slices_Clone_sl_int_int #[.slice s0p s0l s0c] w [.one .slice] J := vc_calls Tryz.func24 ann_slices_Clone_sl_int_int (Eq.mpr (eq_slices_Clone_sl_int_int s0p s0l s0c w J) h)

end Go.Proofs.YtkgfbphdmnapdaaGreatDoor
