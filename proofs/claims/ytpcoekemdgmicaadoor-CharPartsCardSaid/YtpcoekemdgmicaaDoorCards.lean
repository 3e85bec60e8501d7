/-
  DERIVED. GIVEN WITH THE SEED: THE CARDS: each row of YtpcoekemdgmicaaDoorRows.lean that lists a variable, with what it lists TIED to the program's text (the seventh form; the later family's looks); each row that meets fmt, with fmt's text TOLD by the authors' own Lean function (tested against real Go, not proved from fmt's source: count such statements apart). THE CARD IS WHAT COUNTS. Prove the row's statement (the work); the ties are given (YtpcoekemdgmicaaDoorTie.lean); close each card by the builder's one call (the guide's Derived/Test/ToyasCard.lean, 'card_holds'). Laid BY PROGRAM, IN A SANDBOX (cutbox-door.mjs). By AI agents, Wed Nov 11 2026. No macro, syntax, notation, axiom, sorry.
-/
import Derived.Test.YtpcoekemdgmicaaDoorRows
import GoSem.ClaimSeven
namespace Go.Proofs.YtpcoekemdgmicaaDoor
namespace Rows

/-- THE TIED CARD OF 'lecternlaw01.CharSets'. -/
def charSetsCard : Claim7 := { stood := { row := charSetsRow, standIns := [], harness := (true, "c7d04c6c225ee5b0c2ad9ed4453fc000461da7db6817e67eb47b702c6e64a6a6"), looks := false }, kinds := [], alts := [], laidByText := true, laidKinds := [.data, .pinned], laidTests := true, laidLooks := .later }
def CharSetsCardSaid : Prop := Claim7.holds Tryd.pinned (.plain (OpenSpec.ofChange charSetsSpec)) charSetsCard

/-- THE TIED CARD OF 'lecternlaw01.CharReads'. -/
def charReadsCard : Claim7 := { stood := { row := charReadsRow, standIns := [], harness := (true, "c7d04c6c225ee5b0c2ad9ed4453fc000461da7db6817e67eb47b702c6e64a6a6"), looks := false }, kinds := [], alts := [], laidByText := true, laidKinds := [.data, .pinned], laidTests := true, laidLooks := .later }
def CharReadsCardSaid : Prop := Claim7.holds Tryd.pinned (.plain (OpenSpec.ofChange charReadsSpec)) charReadsCard

/-- THE TIED CARD OF 'lecternlaw01.CharNames'. -/
def charNamesCard : Claim7 := { stood := { row := charNamesRow, standIns := [], harness := (true, "c7d04c6c225ee5b0c2ad9ed4453fc000461da7db6817e67eb47b702c6e64a6a6"), looks := false }, kinds := [], alts := [], laidByText := true, laidKinds := [.data, .pinned], laidTests := true, laidLooks := .later }
def CharNamesCardSaid : Prop := Claim7.holds Tryd.pinned (.plain (OpenSpec.ofChange charNamesSpec)) charNamesCard

/-- THE TIED CARD OF 'lecternlaw01.CharSpells'. -/
def charSpellsCard : Claim7 := { stood := { row := charSpellsRow, standIns := [], harness := (true, "c7d04c6c225ee5b0c2ad9ed4453fc000461da7db6817e67eb47b702c6e64a6a6"), looks := false }, kinds := [], alts := [], laidByText := true, laidKinds := [.data, .pinned], laidTests := true, laidLooks := .later }
def CharSpellsCardSaid : Prop := Claim7.holds Tryd.pinned (.plain (OpenSpec.ofChange charSpellsSpec)) charSpellsCard

/-- THE TIED CARD OF 'lecternlaw01.CharParts'. -/
def charPartsCard : Claim7 := { stood := { row := charPartsRow, standIns := [], harness := (true, "c7d04c6c225ee5b0c2ad9ed4453fc000461da7db6817e67eb47b702c6e64a6a6"), looks := false }, kinds := [], alts := [], laidByText := true, laidKinds := [.data, .pinned], laidTests := true, laidLooks := .later }
def CharPartsCardSaid : Prop := Claim7.holds Tryd.pinned (.plain (OpenSpec.ofChange charPartsSpec)) charPartsCard

/-- THE TIED CARD OF 'lecternlaw01.CharFaults'. -/
def charFaultsCard : Claim7 := { stood := { row := charFaultsRow, standIns := [], harness := (true, "c7d04c6c225ee5b0c2ad9ed4453fc000461da7db6817e67eb47b702c6e64a6a6"), looks := false }, kinds := [], alts := [], laidByText := true, laidKinds := [.data, .pinned], laidTests := true, laidLooks := .later }
def CharFaultsCardSaid : Prop := Claim7.holds Tryd.pinned (.plain (OpenSpec.ofChange charFaultsSpec)) charFaultsCard

/-- THE TIED CARD OF 'lecternlaw01.CharJoins'. -/
def charJoinsCard : Claim7 := { stood := { row := charJoinsRow, standIns := [], harness := (true, "c7d04c6c225ee5b0c2ad9ed4453fc000461da7db6817e67eb47b702c6e64a6a6"), looks := false }, kinds := [], alts := [], laidByText := true, laidKinds := [.data, .pinned], laidTests := true, laidLooks := .later }
def CharJoinsCardSaid : Prop := Claim7.holds Tryd.pinned (.plain (OpenSpec.ofChange charJoinsSpec)) charJoinsCard

/-- THE TIED CARD OF 'lecternlaw01.CharLines'. -/
def charLinesCard : Claim7 := { stood := { row := charLinesRow, standIns := [], harness := (true, "c7d04c6c225ee5b0c2ad9ed4453fc000461da7db6817e67eb47b702c6e64a6a6"), looks := false }, kinds := [], alts := [], laidByText := true, laidKinds := [.data, .pinned], laidTests := true, laidLooks := .later }
def CharLinesCardSaid : Prop := Claim7.holds Tryd.pinned (.plain (OpenSpec.ofChange charLinesSpec)) charLinesCard

/-- THE TIED CARD OF 'lecternlaw01.CharEnds'. -/
def charEndsCard : Claim7 := { stood := { row := charEndsRow, standIns := [], harness := (true, "c7d04c6c225ee5b0c2ad9ed4453fc000461da7db6817e67eb47b702c6e64a6a6"), looks := false }, kinds := [], alts := [], laidByText := true, laidKinds := [.data, .pinned], laidTests := true, laidLooks := .later }
def CharEndsCardSaid : Prop := Claim7.holds Tryd.pinned (.plain (OpenSpec.ofChange charEndsSpec)) charEndsCard

/-- THE SECOND FORM's CARD OF 'lecternlaw01.CharSets'. -/
def charSetsUptoCard : Claim7 := { stood := { row := charSetsUptoRow, standIns := [], harness := (true, "c7d04c6c225ee5b0c2ad9ed4453fc000461da7db6817e67eb47b702c6e64a6a6"), looks := false }, kinds := [], alts := [], laidByText := true, laidKinds := [.data, .pinned], laidTests := true, laidLooks := .later }
def CharSetsUptoCardSaid : Prop := Claim7.holds Tryd.pinned (.plain (OpenSpec.upto charSetsSpec)) charSetsUptoCard

/-- THE SECOND FORM's CARD OF 'lecternlaw01.CharReads'. -/
def charReadsUptoCard : Claim7 := { stood := { row := charReadsUptoRow, standIns := [], harness := (true, "c7d04c6c225ee5b0c2ad9ed4453fc000461da7db6817e67eb47b702c6e64a6a6"), looks := false }, kinds := [], alts := [], laidByText := true, laidKinds := [.data, .pinned], laidTests := true, laidLooks := .later }
def CharReadsUptoCardSaid : Prop := Claim7.holds Tryd.pinned (.plain (OpenSpec.upto charReadsSpec)) charReadsUptoCard

/-- THE SECOND FORM's CARD OF 'lecternlaw01.CharNames'. -/
def charNamesUptoCard : Claim7 := { stood := { row := charNamesUptoRow, standIns := [], harness := (true, "c7d04c6c225ee5b0c2ad9ed4453fc000461da7db6817e67eb47b702c6e64a6a6"), looks := false }, kinds := [], alts := [], laidByText := true, laidKinds := [.data, .pinned], laidTests := true, laidLooks := .later }
def CharNamesUptoCardSaid : Prop := Claim7.holds Tryd.pinned (.plain (OpenSpec.upto charNamesSpec)) charNamesUptoCard

/-- THE SECOND FORM's CARD OF 'lecternlaw01.CharSpells'. -/
def charSpellsUptoCard : Claim7 := { stood := { row := charSpellsUptoRow, standIns := [], harness := (true, "c7d04c6c225ee5b0c2ad9ed4453fc000461da7db6817e67eb47b702c6e64a6a6"), looks := false }, kinds := [], alts := [], laidByText := true, laidKinds := [.data, .pinned], laidTests := true, laidLooks := .later }
def CharSpellsUptoCardSaid : Prop := Claim7.holds Tryd.pinned (.plain (OpenSpec.upto charSpellsSpec)) charSpellsUptoCard

/-- THE SECOND FORM's CARD OF 'lecternlaw01.CharParts'. -/
def charPartsUptoCard : Claim7 := { stood := { row := charPartsUptoRow, standIns := [], harness := (true, "c7d04c6c225ee5b0c2ad9ed4453fc000461da7db6817e67eb47b702c6e64a6a6"), looks := false }, kinds := [], alts := [], laidByText := true, laidKinds := [.data, .pinned], laidTests := true, laidLooks := .later }
def CharPartsUptoCardSaid : Prop := Claim7.holds Tryd.pinned (.plain (OpenSpec.upto charPartsSpec)) charPartsUptoCard

/-- THE SECOND FORM's CARD OF 'lecternlaw01.CharFaults'. -/
def charFaultsUptoCard : Claim7 := { stood := { row := charFaultsUptoRow, standIns := [], harness := (true, "c7d04c6c225ee5b0c2ad9ed4453fc000461da7db6817e67eb47b702c6e64a6a6"), looks := false }, kinds := [], alts := [], laidByText := true, laidKinds := [.data, .pinned], laidTests := true, laidLooks := .later }
def CharFaultsUptoCardSaid : Prop := Claim7.holds Tryd.pinned (.plain (OpenSpec.upto charFaultsSpec)) charFaultsUptoCard

/-- THE SECOND FORM's CARD OF 'lecternlaw01.CharJoins'. -/
def charJoinsUptoCard : Claim7 := { stood := { row := charJoinsUptoRow, standIns := [], harness := (true, "c7d04c6c225ee5b0c2ad9ed4453fc000461da7db6817e67eb47b702c6e64a6a6"), looks := false }, kinds := [], alts := [], laidByText := true, laidKinds := [.data, .pinned], laidTests := true, laidLooks := .later }
def CharJoinsUptoCardSaid : Prop := Claim7.holds Tryd.pinned (.plain (OpenSpec.upto charJoinsSpec)) charJoinsUptoCard

/-- THE SECOND FORM's CARD OF 'lecternlaw01.CharLines'. -/
def charLinesUptoCard : Claim7 := { stood := { row := charLinesUptoRow, standIns := [], harness := (true, "c7d04c6c225ee5b0c2ad9ed4453fc000461da7db6817e67eb47b702c6e64a6a6"), looks := false }, kinds := [], alts := [], laidByText := true, laidKinds := [.data, .pinned], laidTests := true, laidLooks := .later }
def CharLinesUptoCardSaid : Prop := Claim7.holds Tryd.pinned (.plain (OpenSpec.upto charLinesSpec)) charLinesUptoCard

/-- THE SECOND FORM's CARD OF 'lecternlaw01.CharEnds'. -/
def charEndsUptoCard : Claim7 := { stood := { row := charEndsUptoRow, standIns := [], harness := (true, "c7d04c6c225ee5b0c2ad9ed4453fc000461da7db6817e67eb47b702c6e64a6a6"), looks := false }, kinds := [], alts := [], laidByText := true, laidKinds := [.data, .pinned], laidTests := true, laidLooks := .later }
def CharEndsUptoCardSaid : Prop := Claim7.holds Tryd.pinned (.plain (OpenSpec.upto charEndsSpec)) charEndsUptoCard
end Rows
end Go.Proofs.YtpcoekemdgmicaaDoor
