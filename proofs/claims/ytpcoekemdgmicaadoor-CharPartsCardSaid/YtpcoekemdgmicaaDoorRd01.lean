/-
  What the readings of the arguments of chapter 1's statements say.
-/
import Derived.Test.YtpcoekemdgmicaaDoorBase
import Derived.Test.YtpcoekemdgmicaaDoorLift
namespace Go.Proofs.YtpcoekemdgmicaaDoor
open Go Go.Vc
/-- A number of 32 bits, a text that came in. -/
def In32 (n : Int) : Prop := -2147483648 ≤ n ∧ n ≤ 2147483647
def InS (s : ByteArray) : Prop := s.size ≤ 140737488351232
section
variable {w : World}
theorem rd_int : Rd Tryd.prog w T_int (fun n : Int => [.int .i64 n]) InI := Rd.i64 (by kernel_rfl)
theorem rd_int32 : Rd Tryd.prog w T_int32 (fun n : Int => [.int .i32 n]) In32 := by
  intro H enc fuel cs x h hw
  obtain ⟨n, h1, h2⟩ := Rd.int (k := .i32) (by kernel_rfl) H enc fuel cs x h hw
  simp [IntKind.min, IntKind.max, IntKind.signed, IntKind.bits] at h2
  exact ⟨n, h1, h2⟩
theorem rd_string : Rd Tryd.prog w T_string (fun s : ByteArray => [.string s]) InS := Rd.str (by kernel_rfl)
theorem rd_sl_uint8 : Rd Tryd.prog w T_sl_uint8 BV.cells (fun b => b.Ok w) := Rd.bytes (e := T_uint8) (by kernel_rfl) (by kernel_rfl) (by kernel_rfl) (by kernel_rfl)
end
end Go.Proofs.YtpcoekemdgmicaaDoor

