/- What the conditions of these functions are, reckoned by the reading; printed by program. -/
import Derived.Test.YtmmfookfpdcohaaGreatDoorNm
import Derived.KernelRfl
set_option maxRecDepth 100000
set_option linter.unusedVariables false
namespace Go.Proofs.YtmmfookfpdcohaaGreatDoor
open Go Go.Vc

/-- slices.Sort[[]string,string] -/
def VC_slices_Sort_sl_string_string (x0p : Option Addr) (x0l : Nat) (x0c : Nat) (w : World) (J : World → Prop) : Prop :=
  callJ Tryz.prog fn_math_bits_Len #[.int .u64 (IntKind.u64.wrap ((x0l : Nat) : Int))] w [.one (.int .i64)] fun (r9 : Int) (w1 : World) =>
  callJ Tryz.prog fn_slices_pdqsortOrdered_string #[.slice x0p x0l x0c, .int .i64 (0 : Int), .int .i64 ((x0l : Nat) : Int), .int .i64 r9] w1 [] fun (w2 : World) =>
  J w2
def ann_slices_Sort_sl_string_string : Ann := .s (.o) (.o)
theorem eq_slices_Sort_sl_string_string (x0p : Option Addr) (x0l : Nat) (x0c : Nat) (w : World) (J : World → Prop) : vcFun Tryz.prog Tryz.f46 ann_slices_Sort_sl_string_string [] [.slice x0p x0l x0c] w J = VC_slices_Sort_sl_string_string x0p x0l x0c w J := by kernel_rfl
theorem c_slices_Sort_sl_string_string {x0p : Option Addr} {x0l : Nat} {x0c : Nat} {w : World} {J : World → Prop} (h : VC_slices_Sort_sl_string_string x0p x0l x0c w J) : callJ Tryz.prog fn_slices_Sort_sl_string_string #[.slice x0p x0l x0c] w [] J := vc_calls Tryz.func46 ann_slices_Sort_sl_string_string (Eq.mpr (eq_slices_Sort_sl_string_string x0p x0l x0c w J) h)

end Go.Proofs.YtmmfookfpdcohaaGreatDoor
