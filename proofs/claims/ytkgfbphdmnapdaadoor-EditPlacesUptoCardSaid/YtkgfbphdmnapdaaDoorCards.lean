/-
  DERIVED. GIVEN WITH THE SEED: THE CARDS: each row of YtkgfbphdmnapdaaDoorRows.lean that lists a variable, with what it lists TIED to the program's text (the seventh form; the later family's looks); each row that meets fmt, with fmt's text TOLD by the authors' own Lean function (tested against real Go, not proved from fmt's source: count such statements apart). THE CARD IS WHAT COUNTS. Prove the row's statement (the work); the ties are given (YtkgfbphdmnapdaaDoorTie.lean); close each card by the builder's one call (the guide's Derived/Test/ToyasCard.lean, 'card_holds'). Laid BY PROGRAM, IN A SANDBOX (cutbox-door.mjs). By AI agents, Wed Nov 11 2026. No macro, syntax, notation, axiom, sorry.
-/
import Derived.Test.YtkgfbphdmnapdaaDoorRows
import GoSem.ClaimSeven
namespace Go.Proofs.YtkgfbphdmnapdaaDoor
namespace Rows

/-- THE TIED CARD OF 'lecternlaw09.EditUndoes'. -/
def editUndoesCard : Claim7 := { stood := { row := editUndoesRow, standIns := [], harness := (true, "bc6cc9c964862b2de694deae52b66279b95e3728190419796e6020f1f0d3c9a3"), looks := false }, kinds := [], alts := [], laidByText := true, laidKinds := [.data, .data, .data, .pinned, .pinned], laidTests := true, laidLooks := .later }
def EditUndoesCardSaid : Prop := Claim7.holds Tryd.pinned (.plain (OpenSpec.ofChange editUndoesSpec)) editUndoesCard

/-- THE TIED CARD OF 'lecternlaw09.EditRight'. -/
def editRightCard : Claim7 := { stood := { row := editRightRow, standIns := [], harness := (true, "bc6cc9c964862b2de694deae52b66279b95e3728190419796e6020f1f0d3c9a3"), looks := false }, kinds := [], alts := [], laidByText := true, laidKinds := [.data, .data, .data, .pinned, .pinned], laidTests := true, laidLooks := .later }
def EditRightCardSaid : Prop := Claim7.holds Tryd.pinned (.plain (OpenSpec.ofChange editRightSpec)) editRightCard

/-- THE TIED CARD OF 'lecternlaw09.EditApart'. -/
def editApartCard : Claim7 := { stood := { row := editApartRow, standIns := [], harness := (true, "bc6cc9c964862b2de694deae52b66279b95e3728190419796e6020f1f0d3c9a3"), looks := false }, kinds := [], alts := [], laidByText := true, laidKinds := [.data, .data, .data, .pinned, .pinned], laidTests := true, laidLooks := .later }
def EditApartCardSaid : Prop := Claim7.holds Tryd.pinned (.plain (OpenSpec.ofChange editApartSpec)) editApartCard

/-- THE TIED CARD OF 'lecternlaw09.EditPlaces'. -/
def editPlacesCard : Claim7 := { stood := { row := editPlacesRow, standIns := [], harness := (true, "bc6cc9c964862b2de694deae52b66279b95e3728190419796e6020f1f0d3c9a3"), looks := false }, kinds := [], alts := [], laidByText := true, laidKinds := [.data, .data, .data, .pinned, .pinned], laidTests := true, laidLooks := .later }
def EditPlacesCardSaid : Prop := Claim7.holds Tryd.pinned (.plain (OpenSpec.ofChange editPlacesSpec)) editPlacesCard

/-- THE SECOND FORM's CARD OF 'lecternlaw09.EditUndoes'. -/
def editUndoesUptoCard : Claim7 := { stood := { row := editUndoesUptoRow, standIns := [], harness := (true, "bc6cc9c964862b2de694deae52b66279b95e3728190419796e6020f1f0d3c9a3"), looks := false }, kinds := [], alts := [], laidByText := true, laidKinds := [.data, .data, .data, .pinned, .pinned], laidTests := true, laidLooks := .later }
def EditUndoesUptoCardSaid : Prop := Claim7.holds Tryd.pinned (.plain (OpenSpec.upto editUndoesSpec)) editUndoesUptoCard

/-- THE SECOND FORM's CARD OF 'lecternlaw09.EditRight'. -/
def editRightUptoCard : Claim7 := { stood := { row := editRightUptoRow, standIns := [], harness := (true, "bc6cc9c964862b2de694deae52b66279b95e3728190419796e6020f1f0d3c9a3"), looks := false }, kinds := [], alts := [], laidByText := true, laidKinds := [.data, .data, .data, .pinned, .pinned], laidTests := true, laidLooks := .later }
def EditRightUptoCardSaid : Prop := Claim7.holds Tryd.pinned (.plain (OpenSpec.upto editRightSpec)) editRightUptoCard

/-- THE SECOND FORM's CARD OF 'lecternlaw09.EditApart'. -/
def editApartUptoCard : Claim7 := { stood := { row := editApartUptoRow, standIns := [], harness := (true, "bc6cc9c964862b2de694deae52b66279b95e3728190419796e6020f1f0d3c9a3"), looks := false }, kinds := [], alts := [], laidByText := true, laidKinds := [.data, .data, .data, .pinned, .pinned], laidTests := true, laidLooks := .later }
def EditApartUptoCardSaid : Prop := Claim7.holds Tryd.pinned (.plain (OpenSpec.upto editApartSpec)) editApartUptoCard

/-- THE SECOND FORM's CARD OF 'lecternlaw09.EditPlaces'. -/
def editPlacesUptoCard : Claim7 := { stood := { row := editPlacesUptoRow, standIns := [], harness := (true, "bc6cc9c964862b2de694deae52b66279b95e3728190419796e6020f1f0d3c9a3"), looks := false }, kinds := [], alts := [], laidByText := true, laidKinds := [.data, .data, .data, .pinned, .pinned], laidTests := true, laidLooks := .later }
def EditPlacesUptoCardSaid : Prop := Claim7.holds Tryd.pinned (.plain (OpenSpec.upto editPlacesSpec)) editPlacesUptoCard
end Rows
end Go.Proofs.YtkgfbphdmnapdaaDoor
