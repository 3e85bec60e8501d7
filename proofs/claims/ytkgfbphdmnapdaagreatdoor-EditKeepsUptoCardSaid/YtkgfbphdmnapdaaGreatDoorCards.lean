/-
  DERIVED. GIVEN WITH THE SEED: THE CARDS: each row of YtkgfbphdmnapdaaGreatDoorRows.lean that lists a variable, with what it lists TIED to the program's text (the seventh form; the later family's looks); each row that meets fmt, with fmt's text TOLD by the authors' own Lean function (tested against real Go, not proved from fmt's source: count such statements apart). THE CARD IS WHAT COUNTS. Prove the row's statement (the work); the ties are given (YtkgfbphdmnapdaaGreatDoorTie.lean); close each card by the builder's one call (the guide's Derived/Test/ToyasCard.lean, 'card_holds'). Laid BY PROGRAM, IN A SANDBOX (cutbox-door.mjs). By AI agents, Wed Nov 11 2026. No macro, syntax, notation, axiom, sorry.
-/
import Derived.Test.YtkgfbphdmnapdaaGreatDoorRows
import GoSem.ClaimSeven
namespace Go.Proofs.YtkgfbphdmnapdaaGreatDoor
namespace Rows

/-- THE TIED CARD OF 'lecternlaw09.EditApplies'. -/
def editAppliesCard : Claim7 := { stood := { row := editAppliesRow, standIns := [], harness := (true, "6fa22bcd00d4fbd701ecd1470098ca57d525bfb3fabb2d1e931740dc14491ed9"), looks := false }, kinds := [], alts := [], laidByText := true, laidKinds := [.data, .data, .data, .pinned, .pinned], laidTests := true, laidLooks := .later }
def EditAppliesCardSaid : Prop := Claim7.holds Tryz.pinned (.plain (OpenSpec.ofChange editAppliesSpec)) editAppliesCard

/-- THE TIED CARD OF 'lecternlaw09.EditBacks'. -/
def editBacksCard : Claim7 := { stood := { row := editBacksRow, standIns := [], harness := (true, "6fa22bcd00d4fbd701ecd1470098ca57d525bfb3fabb2d1e931740dc14491ed9"), looks := false }, kinds := [], alts := [], laidByText := true, laidKinds := [.data, .data, .data, .pinned, .pinned], laidTests := true, laidLooks := .later }
def EditBacksCardSaid : Prop := Claim7.holds Tryz.pinned (.plain (OpenSpec.ofChange editBacksSpec)) editBacksCard

/-- THE TIED CARD OF 'lecternlaw09.EditKeeps'. -/
def editKeepsCard : Claim7 := { stood := { row := editKeepsRow, standIns := [], harness := (true, "6fa22bcd00d4fbd701ecd1470098ca57d525bfb3fabb2d1e931740dc14491ed9"), looks := false }, kinds := [], alts := [], laidByText := true, laidKinds := [.data, .data, .data, .pinned, .pinned], laidTests := true, laidLooks := .later }
def EditKeepsCardSaid : Prop := Claim7.holds Tryz.pinned (.plain (OpenSpec.ofChange editKeepsSpec)) editKeepsCard

/-- THE SECOND FORM's CARD OF 'lecternlaw09.EditApplies'. -/
def editAppliesUptoCard : Claim7 := { stood := { row := editAppliesUptoRow, standIns := [], harness := (true, "6fa22bcd00d4fbd701ecd1470098ca57d525bfb3fabb2d1e931740dc14491ed9"), looks := false }, kinds := [], alts := [], laidByText := true, laidKinds := [.data, .data, .data, .pinned, .pinned], laidTests := true, laidLooks := .later }
def EditAppliesUptoCardSaid : Prop := Claim7.holds Tryz.pinned (.plain (OpenSpec.upto editAppliesSpec)) editAppliesUptoCard

/-- THE SECOND FORM's CARD OF 'lecternlaw09.EditBacks'. -/
def editBacksUptoCard : Claim7 := { stood := { row := editBacksUptoRow, standIns := [], harness := (true, "6fa22bcd00d4fbd701ecd1470098ca57d525bfb3fabb2d1e931740dc14491ed9"), looks := false }, kinds := [], alts := [], laidByText := true, laidKinds := [.data, .data, .data, .pinned, .pinned], laidTests := true, laidLooks := .later }
def EditBacksUptoCardSaid : Prop := Claim7.holds Tryz.pinned (.plain (OpenSpec.upto editBacksSpec)) editBacksUptoCard

/-- THE SECOND FORM's CARD OF 'lecternlaw09.EditKeeps'. -/
def editKeepsUptoCard : Claim7 := { stood := { row := editKeepsUptoRow, standIns := [], harness := (true, "6fa22bcd00d4fbd701ecd1470098ca57d525bfb3fabb2d1e931740dc14491ed9"), looks := false }, kinds := [], alts := [], laidByText := true, laidKinds := [.data, .data, .data, .pinned, .pinned], laidTests := true, laidLooks := .later }
def EditKeepsUptoCardSaid : Prop := Claim7.holds Tryz.pinned (.plain (OpenSpec.upto editKeepsSpec)) editKeepsUptoCard
end Rows
end Go.Proofs.YtkgfbphdmnapdaaGreatDoor
