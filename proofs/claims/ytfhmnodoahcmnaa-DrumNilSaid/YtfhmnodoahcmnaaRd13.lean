/-
  What the readings of the arguments of chapter 13's statements say.
-/
import Derived.Test.YtfhmnodoahcmnaaBase
import Derived.Test.YtfhmnodoahcmnaaLift
namespace Go.Proofs.Ytfhmnodoahcmnaa
open Go Go.Vc

section
variable {w : World}
theorem rd_int : Rd Try.prog w T_int (fun n : Int => [.int .i64 n]) InI := Rd.i64 (by kernel_rfl)
theorem rd_sl_uint8 : Rd Try.prog w T_sl_uint8 BV.cells (fun b => b.Ok w) := Rd.bytes (e := T_uint8) (by kernel_rfl) (by kernel_rfl) (by kernel_rfl) (by kernel_rfl)
theorem rd_sl_bool : Rd Try.prog w T_sl_bool SlV.cells (fun s : SlV Bool => s.Ok w 1 1 (fun b => [.bool b]) (fun _ => True)) := Rd.slice (e := T_bool) (by kernel_rfl) (by kernel_rfl) (by kernel_rfl) (Rd.bool (by kernel_rfl))
end

end Go.Proofs.Ytfhmnodoahcmnaa
