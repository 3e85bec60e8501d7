/-
  The library's tables, as the rows list them.
-/
import Derived.Test.YtkgfbphdmnapdaaGreatDoorU8F
import Derived.Test.YtkgfbphdmnapdaaGreatDoorRows
import Derived.Lib.LaidU8T
import Derived.MakeChecks
import GoSem.PinnedTables
namespace Go.Proofs.YtkgfbphdmnapdaaGreatDoor
open Go Go.Vc Go.Lib Go.Shelf
def ren8 : Ren := ⟨fun x => x, fun n => if n = 5 then T_uint8 else if n = 119 then T_256_uint8 else if n = 138 then T_utf8_acceptRange else T_16_utf8_acceptRange, fun n => if n = 3 then 0 else 1⟩
theorem u8Types : U8Types Tryz.prog ren8 := ⟨by kernel_rfl, by kernel_rfl, by kernel_rfl, by kernel_rfl⟩
theorem u8Extra : U8Extra Tryz.prog ren8 := ⟨by kernel_rfl, by kernel_rfl, by kernel_rfl, by kernel_rfl, by kernel_rfl, by kernel_rfl, by kernel_rfl⟩
theorem first_eq : Rows.laid_unicode_utf8_first = firstData := by kernel_rfl
theorem accept_eq : Rows.laid_unicode_utf8_acceptRanges (H := Unit) = acceptData := by kernel_rfl
end Go.Proofs.YtkgfbphdmnapdaaGreatDoor

