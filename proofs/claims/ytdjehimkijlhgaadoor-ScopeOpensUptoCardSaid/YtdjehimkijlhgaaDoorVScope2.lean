/- What the conditions of these functions are, reckoned by the reading; printed by program. -/
import Derived.Test.YtdjehimkijlhgaaDoorNm
import Derived.KernelRfl
set_option maxRecDepth 100000
set_option linter.unusedVariables false
namespace Go.Proofs.YtdjehimkijlhgaaDoor
open Go Go.Vc

/-- (lectern/scope.Scope).Prefixes -/
def VC_scope_Scope_Prefixes (s0_0p : Option Addr) (s0_0l : Nat) (s0_0c : Nat) (w : World) (J : Option Addr → Nat → Nat → World → Prop) : Prop :=
  newB w (.cells ⟨[.slice s0_0p s0_0l s0_0c]⟩ T_scope_Scope) fun b1 w1 =>
  ldS w1 ⟨b1, 0, none⟩ fun x7p x7l x7c =>
  ∃ I_3 : Option Addr → Nat → Nat → Int → World → Nat → Prop, (∃ m : Nat, I_3 none 0 0 (0 : Int) w1 m) ∧ ∀ (l3p : Option Addr) (l3l : Nat) (l3c : Nat) (x9 : Int) (w2 : World) (m : Nat), I_3 l3p l3l l3c x9 w2 m → (
  condB (decide (x9 < ((x7l : Nat) : Int))) (
  idxA x7p x7l x9 fun a11 =>
  ldStr w2 ((a11.add (x9.toNat * 2))) fun x12_0 =>
  ldStr w2 (((a11.add (x9.toNat * 2)).add 1)) fun x12_1 =>
  newB w2 (.cells (zeroC Tryd.prog T_scope_bind) T_scope_bind) fun b5 w3 =>
  stN w3 ⟨b5, 0, none⟩ ⟨[.string x12_0, .string x12_1]⟩ 2 fun w4 =>
  ldStr w4 ⟨b5, 0, none⟩ fun x15 =>
  newB w4 (.cells ⟨[.string x15]⟩ T_string) fun b16 w5 =>
  appJ Tryd.prog T_sl_string T_sl_string (.slice l3p l3l l3c) (.slice (some ⟨b16, 0, none⟩) 1 1) w5 fun q17p q17l q17c w6 =>
  ∃ m' : Nat, m' < m ∧ I_3 q17p q17l q17c (w64 (x9 + (1 : Int))) w6 m') (
  callJ Tryd.prog fn_slices_Sort_sl_string_string #[.slice l3p l3l l3c] w2 [] fun (w7 : World) =>
  J l3p l3l l3c w7))
def ann_scope_Scope_Prefixes : Ann := .s (.o) (.s (.o) (.s (.s (.o) (.b (.l [(3, .slice), (9, .int .i64)] (.s (.o) (.s (.c (.o) (.o)) (.s (.b (.s (.o) (.o))) (.o))))))) (.s (.o) (.s (.o) (.o)))))
theorem eq_scope_Scope_Prefixes (s0_0p : Option Addr) (s0_0l : Nat) (s0_0c : Nat) (w : World) (J : Option Addr → Nat → Nat → World → Prop) : vcFun Tryd.prog Tryd.f38 ann_scope_Scope_Prefixes [.one .slice] [.agg ⟨[.slice s0_0p s0_0l s0_0c]⟩] w J = VC_scope_Scope_Prefixes s0_0p s0_0l s0_0c w J := by kernel_rfl
theorem c_scope_Scope_Prefixes {s0_0p : Option Addr} {s0_0l : Nat} {s0_0c : Nat} {w : World} {J : Option Addr → Nat → Nat → World → Prop} (h : VC_scope_Scope_Prefixes s0_0p s0_0l s0_0c w J) : callJ Tryd.prog fn_scope_Scope_Prefixes #[.agg ⟨[.slice s0_0p s0_0l s0_0c]⟩] w [.one .slice] J := vc_calls Tryd.func38 ann_scope_Scope_Prefixes (Eq.mpr (eq_scope_Scope_Prefixes s0_0p s0_0l s0_0c w J) h)

/-- slices.Sort[[]string,string] -/
def VC_slices_Sort_sl_string_string (x0p : Option Addr) (x0l : Nat) (x0c : Nat) (w : World) (J : World → Prop) : Prop :=
  callJ Tryd.prog fn_math_bits_Len #[.int .u64 (IntKind.u64.wrap ((x0l : Nat) : Int))] w [.one (.int .i64)] fun (r9 : Int) (w1 : World) =>
  callJ Tryd.prog fn_slices_pdqsortOrdered_string #[.slice x0p x0l x0c, .int .i64 (0 : Int), .int .i64 ((x0l : Nat) : Int), .int .i64 r9] w1 [] fun (w2 : World) =>
  J w2
def ann_slices_Sort_sl_string_string : Ann := .s (.o) (.o)
theorem eq_slices_Sort_sl_string_string (x0p : Option Addr) (x0l : Nat) (x0c : Nat) (w : World) (J : World → Prop) : vcFun Tryd.prog Tryd.f70 ann_slices_Sort_sl_string_string [] [.slice x0p x0l x0c] w J = VC_slices_Sort_sl_string_string x0p x0l x0c w J := by kernel_rfl
theorem c_slices_Sort_sl_string_string {x0p : Option Addr} {x0l : Nat} {x0c : Nat} {w : World} {J : World → Prop} (h : VC_slices_Sort_sl_string_string x0p x0l x0c w J) : callJ Tryd.prog fn_slices_Sort_sl_string_string #[.slice x0p x0l x0c] w [] J := vc_calls Tryd.func70 ann_slices_Sort_sl_string_string (Eq.mpr (eq_slices_Sort_sl_string_string x0p x0l x0c w J) h)

end Go.Proofs.YtdjehimkijlhgaaDoor
