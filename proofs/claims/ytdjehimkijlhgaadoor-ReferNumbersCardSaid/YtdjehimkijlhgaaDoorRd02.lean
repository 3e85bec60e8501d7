/-
  What the readings of the arguments of chapter 2's statements say.
-/
import Derived.Test.YtdjehimkijlhgaaDoorBulk
import Derived.Test.YtdjehimkijlhgaaDoorStr
import Derived.Test.YtdjehimkijlhgaaDoorNm
namespace Go.Proofs.YtdjehimkijlhgaaDoor
open Go Go.Vc
def InS (s : ByteArray) : Prop := s.size ≤ 140737488351232
def InU8 (n : Int) : Prop := 0 ≤ n ∧ n ≤ 255
section
variable {w : World}
theorem rd_int : Rd Tryd.prog w T_int (fun n : Int => [.int .i64 n]) InI := Rd.i64 (by kernel_rfl)
theorem rd_uint8 : Rd Tryd.prog w T_uint8 (fun n : Int => [.int .u8 n]) InU8 := by
  intro H enc fuel cs x h hw
  obtain ⟨a, ha, g⟩ := Rd.int (P := Tryd.prog) (w := w) (t := T_uint8) (k := .u8) (by kernel_rfl) H enc fuel cs x h hw
  exact ⟨a, ha, g⟩
theorem rd_bool : Rd Tryd.prog w T_bool (fun b : Bool => [.bool b]) (fun b => b = b) := by
  intro H enc fuel cs x h hw
  obtain ⟨b, hb, _⟩ := Rd.bool (P := Tryd.prog) (w := w) (t := T_bool) (by kernel_rfl) H enc fuel cs x h hw
  exact ⟨b, hb, rfl⟩
theorem rd_string : Rd Tryd.prog w T_string (fun s : ByteArray => [.string s]) InS := Rd.str (by kernel_rfl)
theorem rd_sl_uint8 : Rd Tryd.prog w T_sl_uint8 BV.cells (fun b => b.Ok w) := Rd.bytes (e := T_uint8) (by kernel_rfl) (by kernel_rfl) (by kernel_rfl) (by kernel_rfl)
end
end Go.Proofs.YtdjehimkijlhgaaDoor

