/-
  NARROWER THAN 'FOR EVERY INPUT', by the rows' own cells (each row's printed sentence says how): CharSets: laid · CharReads: laid · CharNames: laid · CharSpells: laid · CharParts: laid · CharFaults: laid · CharJoins: laid · CharLines: laid · CharEnds: laid.
  DERIVED. THE GIVEN ROWS OF THIS SEAT. 9 by the template 'for every input the law returns true; each argument reads behind the call as it read before'; 0 by the template 'total and deterministic' (their statements: YtpcoekemdgmicaaDoorTotals.lean).
  GIVEN WITH THE SEED: the statements are not yours to turn. If you find one false, say at which input.
  Laid BY PROGRAM, IN A SANDBOX (cutbox-rows.mjs): the forced cells as the released guide's own fill.sh prints them over the translation 8c308a229057ef8d… (all of the seat's roots in one cut). By AI agents, Wed Nov 11 2026. No macro, syntax, notation, axiom, sorry.
-/
import Derived.Test.YtpcoekemdgmicaaDoorChecked
import GoSem.PinnedTables
import GoSem.Claim
import GoSem.ClaimJoined
import GoSem.ClaimMapViews
import Derived.JoinedTies
import Derived.KernelRfl
namespace Go.Proofs.YtpcoekemdgmicaaDoor
/- THE CELL 'sum', in the pinned program and in every row, IS THE sha256 OF THE DUMP (.gsa) THAT YtpcoekemdgmicaaDoorProg.lean LOADS. Nothing in Lean hashes anything: it is a label: what it is worth is what the hold of that sum in a sandbox is worth. -/
noncomputable def Tryd.pinned : Pinned := { name := "ytpcoekemdgmicaadoor", sum := "8c308a229057ef8dd327925fdea9c931bfaf5374eb421cab332d7db3e04db639", checked := Tryd.checked }
namespace Rows
def none {H : Type} : Left H := { results := [], args := [] }

/- WHAT THE LISTED PACKAGE-LEVEL VARIABLES READ AS WHEN THE CALL BEGINS. Each datum BY PROGRAM (the guide's laid-datum.mjs) off the statement by which the dump's own 'gosem.cut.vars' lays the variable. In a bare row this is a premise. The card (YtpcoekemdgmicaaDoorCards.lean) ties it to the program's text. -/
def laid_unicode_utf8_acceptRanges {H : Type} : DataW H := .agg [.agg [.lit (.int .u8 128), .lit (.int .u8 191)], .agg [.lit (.int .u8 160), .lit (.int .u8 191)], .agg [.lit (.int .u8 128), .lit (.int .u8 159)], .agg [.lit (.int .u8 144), .lit (.int .u8 191)], .agg [.lit (.int .u8 128), .lit (.int .u8 143)], .agg [.lit (.int .u8 0), .lit (.int .u8 0)], .agg [.lit (.int .u8 0), .lit (.int .u8 0)], .agg [.lit (.int .u8 0), .lit (.int .u8 0)], .agg [.lit (.int .u8 0), .lit (.int .u8 0)], .agg [.lit (.int .u8 0), .lit (.int .u8 0)], .agg [.lit (.int .u8 0), .lit (.int .u8 0)], .agg [.lit (.int .u8 0), .lit (.int .u8 0)], .agg [.lit (.int .u8 0), .lit (.int .u8 0)], .agg [.lit (.int .u8 0), .lit (.int .u8 0)], .agg [.lit (.int .u8 0), .lit (.int .u8 0)], .agg [.lit (.int .u8 0), .lit (.int .u8 0)]]
/-- One of Go's own tables, pinned by name: the form's constant. -/
def laid_unicode_utf8_first : DataW Unit := Go.Pinned.utf8First

/-- 'lecternlaw01.CharSets': WHATEVER THE INPUT: true; the input reads as it did. -/
def charSetsSpec : ChangeSpec := { name := "charSets", fn := fun _ => fun
  | [d] => { results := [.lit (.bool true)], args := [d] }
  | _ => none }
def charSetsRow : OpenClaim := { program := "ytpcoekemdgmicaadoor", sum := "8c308a229057ef8dd327925fdea9c931bfaf5374eb421cab332d7db3e04db639", func := "lectern/lecternlaw01.CharSets", spec := "charSets", inPlace := ["internal/bytealg.IndexByteString", "internal/bytealg.IndexString"], named := ["unicode/utf8.first", "unicode/utf8.acceptRanges", "internal/bytealg.MaxLen"], apart := false, laid := [("unicode/utf8.acceptRanges", laid_unicode_utf8_acceptRanges), ("unicode/utf8.first", laid_unicode_utf8_first)] }
def CharSetsSaid : Prop := charSetsRow.holds Tryd.pinned (OpenSpec.ofChange charSetsSpec)

/-- ITS FALSE NEIGHBOUR: 'it returns false'. Refute it at one input. -/
def charSetsWrong : ChangeSpec := { name := "charSets", fn := fun _ => fun
  | [d] => { results := [.lit (.bool false)], args := [d] }
  | _ => none }
def CharSetsWrongFalsely : Prop := charSetsRow.holds Tryd.pinned (OpenSpec.ofChange charSetsWrong)

/-- 'lecternlaw01.CharReads': WHATEVER THE INPUT: true; the input reads as it did. -/
def charReadsSpec : ChangeSpec := { name := "charReads", fn := fun _ => fun
  | [d1, d2] => { results := [.lit (.bool true)], args := [d1, d2] }
  | _ => none }
def charReadsRow : OpenClaim := { program := "ytpcoekemdgmicaadoor", sum := "8c308a229057ef8dd327925fdea9c931bfaf5374eb421cab332d7db3e04db639", func := "lectern/lecternlaw01.CharReads", spec := "charReads", inPlace := ["internal/bytealg.IndexByteString", "internal/bytealg.IndexString"], named := ["unicode/utf8.first", "unicode/utf8.acceptRanges", "internal/bytealg.MaxLen"], apart := false, laid := [("unicode/utf8.acceptRanges", laid_unicode_utf8_acceptRanges), ("unicode/utf8.first", laid_unicode_utf8_first)] }
def CharReadsSaid : Prop := charReadsRow.holds Tryd.pinned (OpenSpec.ofChange charReadsSpec)

/-- ITS FALSE NEIGHBOUR: 'it returns false'. Refute it at one input. -/
def charReadsWrong : ChangeSpec := { name := "charReads", fn := fun _ => fun
  | [d1, d2] => { results := [.lit (.bool false)], args := [d1, d2] }
  | _ => none }
def CharReadsWrongFalsely : Prop := charReadsRow.holds Tryd.pinned (OpenSpec.ofChange charReadsWrong)

/-- 'lecternlaw01.CharNames': WHATEVER THE INPUT: true; the input reads as it did. -/
def charNamesSpec : ChangeSpec := { name := "charNames", fn := fun _ => fun
  | [d] => { results := [.lit (.bool true)], args := [d] }
  | _ => none }
def charNamesRow : OpenClaim := { program := "ytpcoekemdgmicaadoor", sum := "8c308a229057ef8dd327925fdea9c931bfaf5374eb421cab332d7db3e04db639", func := "lectern/lecternlaw01.CharNames", spec := "charNames", inPlace := ["internal/bytealg.IndexByteString", "internal/bytealg.IndexString"], named := ["unicode/utf8.first", "unicode/utf8.acceptRanges", "internal/bytealg.MaxLen"], apart := false, laid := [("unicode/utf8.acceptRanges", laid_unicode_utf8_acceptRanges), ("unicode/utf8.first", laid_unicode_utf8_first)] }
def CharNamesSaid : Prop := charNamesRow.holds Tryd.pinned (OpenSpec.ofChange charNamesSpec)

/-- ITS FALSE NEIGHBOUR: 'it returns false'. Refute it at one input. -/
def charNamesWrong : ChangeSpec := { name := "charNames", fn := fun _ => fun
  | [d] => { results := [.lit (.bool false)], args := [d] }
  | _ => none }
def CharNamesWrongFalsely : Prop := charNamesRow.holds Tryd.pinned (OpenSpec.ofChange charNamesWrong)

/-- 'lecternlaw01.CharSpells': WHATEVER THE INPUT: true; the input reads as it did. -/
def charSpellsSpec : ChangeSpec := { name := "charSpells", fn := fun _ => fun
  | [d1, d2, d3] => { results := [.lit (.bool true)], args := [d1, d2, d3] }
  | _ => none }
def charSpellsRow : OpenClaim := { program := "ytpcoekemdgmicaadoor", sum := "8c308a229057ef8dd327925fdea9c931bfaf5374eb421cab332d7db3e04db639", func := "lectern/lecternlaw01.CharSpells", spec := "charSpells", inPlace := ["internal/bytealg.IndexByteString", "internal/bytealg.IndexString"], named := ["unicode/utf8.first", "unicode/utf8.acceptRanges", "internal/bytealg.MaxLen"], apart := false, laid := [("unicode/utf8.acceptRanges", laid_unicode_utf8_acceptRanges), ("unicode/utf8.first", laid_unicode_utf8_first)] }
def CharSpellsSaid : Prop := charSpellsRow.holds Tryd.pinned (OpenSpec.ofChange charSpellsSpec)

/-- ITS FALSE NEIGHBOUR: 'it returns false'. Refute it at one input. -/
def charSpellsWrong : ChangeSpec := { name := "charSpells", fn := fun _ => fun
  | [d1, d2, d3] => { results := [.lit (.bool false)], args := [d1, d2, d3] }
  | _ => none }
def CharSpellsWrongFalsely : Prop := charSpellsRow.holds Tryd.pinned (OpenSpec.ofChange charSpellsWrong)

/-- 'lecternlaw01.CharParts': WHATEVER THE INPUT: true; the input reads as it did. -/
def charPartsSpec : ChangeSpec := { name := "charParts", fn := fun _ => fun
  | [d1, d2, d3] => { results := [.lit (.bool true)], args := [d1, d2, d3] }
  | _ => none }
def charPartsRow : OpenClaim := { program := "ytpcoekemdgmicaadoor", sum := "8c308a229057ef8dd327925fdea9c931bfaf5374eb421cab332d7db3e04db639", func := "lectern/lecternlaw01.CharParts", spec := "charParts", inPlace := ["internal/bytealg.IndexByteString", "internal/bytealg.IndexString"], named := ["unicode/utf8.first", "unicode/utf8.acceptRanges", "internal/bytealg.MaxLen"], apart := false, laid := [("unicode/utf8.acceptRanges", laid_unicode_utf8_acceptRanges), ("unicode/utf8.first", laid_unicode_utf8_first)] }
def CharPartsSaid : Prop := charPartsRow.holds Tryd.pinned (OpenSpec.ofChange charPartsSpec)

/-- ITS FALSE NEIGHBOUR: 'it returns false'. Refute it at one input. -/
def charPartsWrong : ChangeSpec := { name := "charParts", fn := fun _ => fun
  | [d1, d2, d3] => { results := [.lit (.bool false)], args := [d1, d2, d3] }
  | _ => none }
def CharPartsWrongFalsely : Prop := charPartsRow.holds Tryd.pinned (OpenSpec.ofChange charPartsWrong)

/-- 'lecternlaw01.CharFaults': WHATEVER THE INPUT: true; the input reads as it did. -/
def charFaultsSpec : ChangeSpec := { name := "charFaults", fn := fun _ => fun
  | [d] => { results := [.lit (.bool true)], args := [d] }
  | _ => none }
def charFaultsRow : OpenClaim := { program := "ytpcoekemdgmicaadoor", sum := "8c308a229057ef8dd327925fdea9c931bfaf5374eb421cab332d7db3e04db639", func := "lectern/lecternlaw01.CharFaults", spec := "charFaults", inPlace := ["internal/bytealg.IndexByteString", "internal/bytealg.IndexString"], named := ["unicode/utf8.first", "unicode/utf8.acceptRanges", "internal/bytealg.MaxLen"], apart := false, laid := [("unicode/utf8.acceptRanges", laid_unicode_utf8_acceptRanges), ("unicode/utf8.first", laid_unicode_utf8_first)] }
def CharFaultsSaid : Prop := charFaultsRow.holds Tryd.pinned (OpenSpec.ofChange charFaultsSpec)

/-- ITS FALSE NEIGHBOUR: 'it returns false'. Refute it at one input. -/
def charFaultsWrong : ChangeSpec := { name := "charFaults", fn := fun _ => fun
  | [d] => { results := [.lit (.bool false)], args := [d] }
  | _ => none }
def CharFaultsWrongFalsely : Prop := charFaultsRow.holds Tryd.pinned (OpenSpec.ofChange charFaultsWrong)

/-- 'lecternlaw01.CharJoins': WHATEVER THE INPUT: true; the input reads as it did. -/
def charJoinsSpec : ChangeSpec := { name := "charJoins", fn := fun _ => fun
  | [d1, d2] => { results := [.lit (.bool true)], args := [d1, d2] }
  | _ => none }
def charJoinsRow : OpenClaim := { program := "ytpcoekemdgmicaadoor", sum := "8c308a229057ef8dd327925fdea9c931bfaf5374eb421cab332d7db3e04db639", func := "lectern/lecternlaw01.CharJoins", spec := "charJoins", inPlace := ["internal/bytealg.IndexByteString", "internal/bytealg.IndexString"], named := ["unicode/utf8.first", "unicode/utf8.acceptRanges", "internal/bytealg.MaxLen"], apart := false, laid := [("unicode/utf8.acceptRanges", laid_unicode_utf8_acceptRanges), ("unicode/utf8.first", laid_unicode_utf8_first)] }
def CharJoinsSaid : Prop := charJoinsRow.holds Tryd.pinned (OpenSpec.ofChange charJoinsSpec)

/-- ITS FALSE NEIGHBOUR: 'it returns false'. Refute it at one input. -/
def charJoinsWrong : ChangeSpec := { name := "charJoins", fn := fun _ => fun
  | [d1, d2] => { results := [.lit (.bool false)], args := [d1, d2] }
  | _ => none }
def CharJoinsWrongFalsely : Prop := charJoinsRow.holds Tryd.pinned (OpenSpec.ofChange charJoinsWrong)

/-- 'lecternlaw01.CharLines': WHATEVER THE INPUT: true; the input reads as it did. -/
def charLinesSpec : ChangeSpec := { name := "charLines", fn := fun _ => fun
  | [d] => { results := [.lit (.bool true)], args := [d] }
  | _ => none }
def charLinesRow : OpenClaim := { program := "ytpcoekemdgmicaadoor", sum := "8c308a229057ef8dd327925fdea9c931bfaf5374eb421cab332d7db3e04db639", func := "lectern/lecternlaw01.CharLines", spec := "charLines", inPlace := ["internal/bytealg.IndexByteString", "internal/bytealg.IndexString"], named := ["unicode/utf8.first", "unicode/utf8.acceptRanges", "internal/bytealg.MaxLen"], apart := false, laid := [("unicode/utf8.acceptRanges", laid_unicode_utf8_acceptRanges), ("unicode/utf8.first", laid_unicode_utf8_first)] }
def CharLinesSaid : Prop := charLinesRow.holds Tryd.pinned (OpenSpec.ofChange charLinesSpec)

/-- ITS FALSE NEIGHBOUR: 'it returns false'. Refute it at one input. -/
def charLinesWrong : ChangeSpec := { name := "charLines", fn := fun _ => fun
  | [d] => { results := [.lit (.bool false)], args := [d] }
  | _ => none }
def CharLinesWrongFalsely : Prop := charLinesRow.holds Tryd.pinned (OpenSpec.ofChange charLinesWrong)

/-- 'lecternlaw01.CharEnds': WHATEVER THE INPUT: true; the input reads as it did. -/
def charEndsSpec : ChangeSpec := { name := "charEnds", fn := fun _ => fun
  | [d1, d2] => { results := [.lit (.bool true)], args := [d1, d2] }
  | _ => none }
def charEndsRow : OpenClaim := { program := "ytpcoekemdgmicaadoor", sum := "8c308a229057ef8dd327925fdea9c931bfaf5374eb421cab332d7db3e04db639", func := "lectern/lecternlaw01.CharEnds", spec := "charEnds", inPlace := ["internal/bytealg.IndexByteString", "internal/bytealg.IndexString"], named := ["unicode/utf8.first", "unicode/utf8.acceptRanges", "internal/bytealg.MaxLen"], apart := false, laid := [("unicode/utf8.acceptRanges", laid_unicode_utf8_acceptRanges), ("unicode/utf8.first", laid_unicode_utf8_first)] }
def CharEndsSaid : Prop := charEndsRow.holds Tryd.pinned (OpenSpec.ofChange charEndsSpec)

/-- ITS FALSE NEIGHBOUR: 'it returns false'. Refute it at one input. -/
def charEndsWrong : ChangeSpec := { name := "charEnds", fn := fun _ => fun
  | [d1, d2] => { results := [.lit (.bool false)], args := [d1, d2] }
  | _ => none }
def CharEndsWrongFalsely : Prop := charEndsRow.holds Tryd.pinned (OpenSpec.ofChange charEndsWrong)

/- THE SECOND FORM. 'bulk': how many values and letters a reading holds, each counted each time it is reached (what is shared counts as often as it is met; a slice's spare places count too). A statement '..UptoSaid' is the law's where the arguments, and the package variables that the reading takes, are together of bulk at most 1048576: NARROWER than '..Said'. Prove '..Said' where nothing that the law and all that it calls make is longer than what came in: it says more and counts as full. Else prove '..UptoSaid'. A law counts once. -/
mutual
def uptoBulk {H : Type} : DataW H → Nat
  | .lit (.string bytes) => bytes.length + 1
  | .lit _ => 1
  | .nil => 1
  | .ptr d => uptoBulk d + 1
  | .slice elems spare => uptoBulkAll elems + uptoBulkAll spare + 1
  | .agg parts => uptoBulkAll parts + 1
  | .iface _ d => uptoBulk d + 1
  | .map entries => uptoBulkEntries entries + 1
  | .held _ => 1
def uptoBulkAll {H : Type} : List (DataW H) → Nat
  | [] => 0
  | d :: r => uptoBulk d + uptoBulkAll r
def uptoBulkEntries {H : Type} : List (Lit × DataW H) → Nat
  | [] => 0
  | x :: r => uptoBulkEntry x + uptoBulkEntries r
def uptoBulkEntry {H : Type} : Lit × DataW H → Nat
  | (.string bytes, d) => bytes.length + uptoBulk d + 1
  | (_, d) => uptoBulk d + 1
 end
def uptoSmall : (H : Type) → List (DataW H) → Bool := fun _ ds => decide (uptoBulkAll ds ≤ 1048576)
def OpenSpec.upto (s : _root_.Go.ChangeSpec) : _root_.Go.OpenSpec := { _root_.Go.OpenSpec.ofChange s with cond := some uptoSmall }

/-- 'lecternlaw01.CharSets', WHERE WHAT IT READS IS OF BULK AT MOST 1048576: true; the input reads as it did. -/
def charSetsUptoRow : OpenClaim := { program := "ytpcoekemdgmicaadoor", sum := "8c308a229057ef8dd327925fdea9c931bfaf5374eb421cab332d7db3e04db639", func := "lectern/lecternlaw01.CharSets", spec := "charSets", inPlace := ["internal/bytealg.IndexByteString", "internal/bytealg.IndexString"], named := ["unicode/utf8.first", "unicode/utf8.acceptRanges", "internal/bytealg.MaxLen"], apart := false, laid := [("unicode/utf8.acceptRanges", laid_unicode_utf8_acceptRanges), ("unicode/utf8.first", laid_unicode_utf8_first)], narrowed := true }
def CharSetsUptoSaid : Prop := charSetsUptoRow.holds Tryd.pinned (OpenSpec.upto charSetsSpec)

/-- 'lecternlaw01.CharReads', WHERE WHAT IT READS IS OF BULK AT MOST 1048576: true; the input reads as it did. -/
def charReadsUptoRow : OpenClaim := { program := "ytpcoekemdgmicaadoor", sum := "8c308a229057ef8dd327925fdea9c931bfaf5374eb421cab332d7db3e04db639", func := "lectern/lecternlaw01.CharReads", spec := "charReads", inPlace := ["internal/bytealg.IndexByteString", "internal/bytealg.IndexString"], named := ["unicode/utf8.first", "unicode/utf8.acceptRanges", "internal/bytealg.MaxLen"], apart := false, laid := [("unicode/utf8.acceptRanges", laid_unicode_utf8_acceptRanges), ("unicode/utf8.first", laid_unicode_utf8_first)], narrowed := true }
def CharReadsUptoSaid : Prop := charReadsUptoRow.holds Tryd.pinned (OpenSpec.upto charReadsSpec)

/-- 'lecternlaw01.CharNames', WHERE WHAT IT READS IS OF BULK AT MOST 1048576: true; the input reads as it did. -/
def charNamesUptoRow : OpenClaim := { program := "ytpcoekemdgmicaadoor", sum := "8c308a229057ef8dd327925fdea9c931bfaf5374eb421cab332d7db3e04db639", func := "lectern/lecternlaw01.CharNames", spec := "charNames", inPlace := ["internal/bytealg.IndexByteString", "internal/bytealg.IndexString"], named := ["unicode/utf8.first", "unicode/utf8.acceptRanges", "internal/bytealg.MaxLen"], apart := false, laid := [("unicode/utf8.acceptRanges", laid_unicode_utf8_acceptRanges), ("unicode/utf8.first", laid_unicode_utf8_first)], narrowed := true }
def CharNamesUptoSaid : Prop := charNamesUptoRow.holds Tryd.pinned (OpenSpec.upto charNamesSpec)

/-- 'lecternlaw01.CharSpells', WHERE WHAT IT READS IS OF BULK AT MOST 1048576: true; the input reads as it did. -/
def charSpellsUptoRow : OpenClaim := { program := "ytpcoekemdgmicaadoor", sum := "8c308a229057ef8dd327925fdea9c931bfaf5374eb421cab332d7db3e04db639", func := "lectern/lecternlaw01.CharSpells", spec := "charSpells", inPlace := ["internal/bytealg.IndexByteString", "internal/bytealg.IndexString"], named := ["unicode/utf8.first", "unicode/utf8.acceptRanges", "internal/bytealg.MaxLen"], apart := false, laid := [("unicode/utf8.acceptRanges", laid_unicode_utf8_acceptRanges), ("unicode/utf8.first", laid_unicode_utf8_first)], narrowed := true }
def CharSpellsUptoSaid : Prop := charSpellsUptoRow.holds Tryd.pinned (OpenSpec.upto charSpellsSpec)

/-- 'lecternlaw01.CharParts', WHERE WHAT IT READS IS OF BULK AT MOST 1048576: true; the input reads as it did. -/
def charPartsUptoRow : OpenClaim := { program := "ytpcoekemdgmicaadoor", sum := "8c308a229057ef8dd327925fdea9c931bfaf5374eb421cab332d7db3e04db639", func := "lectern/lecternlaw01.CharParts", spec := "charParts", inPlace := ["internal/bytealg.IndexByteString", "internal/bytealg.IndexString"], named := ["unicode/utf8.first", "unicode/utf8.acceptRanges", "internal/bytealg.MaxLen"], apart := false, laid := [("unicode/utf8.acceptRanges", laid_unicode_utf8_acceptRanges), ("unicode/utf8.first", laid_unicode_utf8_first)], narrowed := true }
def CharPartsUptoSaid : Prop := charPartsUptoRow.holds Tryd.pinned (OpenSpec.upto charPartsSpec)

/-- 'lecternlaw01.CharFaults', WHERE WHAT IT READS IS OF BULK AT MOST 1048576: true; the input reads as it did. -/
def charFaultsUptoRow : OpenClaim := { program := "ytpcoekemdgmicaadoor", sum := "8c308a229057ef8dd327925fdea9c931bfaf5374eb421cab332d7db3e04db639", func := "lectern/lecternlaw01.CharFaults", spec := "charFaults", inPlace := ["internal/bytealg.IndexByteString", "internal/bytealg.IndexString"], named := ["unicode/utf8.first", "unicode/utf8.acceptRanges", "internal/bytealg.MaxLen"], apart := false, laid := [("unicode/utf8.acceptRanges", laid_unicode_utf8_acceptRanges), ("unicode/utf8.first", laid_unicode_utf8_first)], narrowed := true }
def CharFaultsUptoSaid : Prop := charFaultsUptoRow.holds Tryd.pinned (OpenSpec.upto charFaultsSpec)

/-- 'lecternlaw01.CharJoins', WHERE WHAT IT READS IS OF BULK AT MOST 1048576: true; the input reads as it did. -/
def charJoinsUptoRow : OpenClaim := { program := "ytpcoekemdgmicaadoor", sum := "8c308a229057ef8dd327925fdea9c931bfaf5374eb421cab332d7db3e04db639", func := "lectern/lecternlaw01.CharJoins", spec := "charJoins", inPlace := ["internal/bytealg.IndexByteString", "internal/bytealg.IndexString"], named := ["unicode/utf8.first", "unicode/utf8.acceptRanges", "internal/bytealg.MaxLen"], apart := false, laid := [("unicode/utf8.acceptRanges", laid_unicode_utf8_acceptRanges), ("unicode/utf8.first", laid_unicode_utf8_first)], narrowed := true }
def CharJoinsUptoSaid : Prop := charJoinsUptoRow.holds Tryd.pinned (OpenSpec.upto charJoinsSpec)

/-- 'lecternlaw01.CharLines', WHERE WHAT IT READS IS OF BULK AT MOST 1048576: true; the input reads as it did. -/
def charLinesUptoRow : OpenClaim := { program := "ytpcoekemdgmicaadoor", sum := "8c308a229057ef8dd327925fdea9c931bfaf5374eb421cab332d7db3e04db639", func := "lectern/lecternlaw01.CharLines", spec := "charLines", inPlace := ["internal/bytealg.IndexByteString", "internal/bytealg.IndexString"], named := ["unicode/utf8.first", "unicode/utf8.acceptRanges", "internal/bytealg.MaxLen"], apart := false, laid := [("unicode/utf8.acceptRanges", laid_unicode_utf8_acceptRanges), ("unicode/utf8.first", laid_unicode_utf8_first)], narrowed := true }
def CharLinesUptoSaid : Prop := charLinesUptoRow.holds Tryd.pinned (OpenSpec.upto charLinesSpec)

/-- 'lecternlaw01.CharEnds', WHERE WHAT IT READS IS OF BULK AT MOST 1048576: true; the input reads as it did. -/
def charEndsUptoRow : OpenClaim := { program := "ytpcoekemdgmicaadoor", sum := "8c308a229057ef8dd327925fdea9c931bfaf5374eb421cab332d7db3e04db639", func := "lectern/lecternlaw01.CharEnds", spec := "charEnds", inPlace := ["internal/bytealg.IndexByteString", "internal/bytealg.IndexString"], named := ["unicode/utf8.first", "unicode/utf8.acceptRanges", "internal/bytealg.MaxLen"], apart := false, laid := [("unicode/utf8.acceptRanges", laid_unicode_utf8_acceptRanges), ("unicode/utf8.first", laid_unicode_utf8_first)], narrowed := true }
def CharEndsUptoSaid : Prop := charEndsUptoRow.holds Tryd.pinned (OpenSpec.upto charEndsSpec)

end Rows
end Go.Proofs.YtpcoekemdgmicaaDoor
