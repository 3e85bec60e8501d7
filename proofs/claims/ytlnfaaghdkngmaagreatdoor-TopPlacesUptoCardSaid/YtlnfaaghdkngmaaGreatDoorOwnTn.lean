/-
  The tie, part 3: the names of the variables.
-/
import Derived.Test.YtlnfaaghdkngmaaGreatDoorRows
import Derived.LaidByTextLater
import Derived.SevenTiedAt
import Derived.LaidSub
import Derived.LaidOnce
set_option maxRecDepth 100000
namespace Go.Proofs.YtlnfaaghdkngmaaGreatDoor
open Go
theorem ownN : varsNamedLaterB Tryz.prog (varsId Tryz.prog) [("unicode/utf8.acceptRanges", Rows.laid_unicode_utf8_acceptRanges), ("unicode.asciiFold", Rows.laid_unicode_asciiFold), ("unicode.caseOrbit", Rows.laid_unicode_caseOrbit), ("internal/strconv.uint64pow10", Rows.laid_internal_strconv_uint64pow10), ("math/bits.deBruijn32tab", Rows.laid_math_bits_deBruijn32tab), ("math/bits.deBruijn64tab", Rows.laid_math_bits_deBruijn64tab), ("strconv.ErrSyntax", Rows.laid_strconv_ErrSyntax), ("strconv.ErrRange", Rows.laid_strconv_ErrRange)] = true := by kernel_rfl
end Go.Proofs.YtlnfaaghdkngmaaGreatDoor
