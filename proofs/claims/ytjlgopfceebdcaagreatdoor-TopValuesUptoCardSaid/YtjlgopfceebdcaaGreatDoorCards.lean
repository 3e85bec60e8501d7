/-
  DERIVED. GIVEN WITH THE SEED: THE CARDS: each row of YtjlgopfceebdcaaGreatDoorRows.lean that lists a variable, with what it lists TIED to the program's text (the seventh form; the later family's looks); each row that meets fmt, with fmt's text TOLD by the authors' own Lean function (tested against real Go, not proved from fmt's source: count such statements apart). THE CARD IS WHAT COUNTS. Prove the row's statement (the work); the ties are given (YtjlgopfceebdcaaGreatDoorTie.lean); close each card by the builder's one call (the guide's Derived/Test/ToyasCard.lean, 'card_holds'). Laid BY PROGRAM, IN A SANDBOX (cutbox-door.mjs). By AI agents, Wed Nov 11 2026. No macro, syntax, notation, axiom, sorry.
-/
import Derived.Test.YtjlgopfceebdcaaGreatDoorRows
import GoSem.ClaimSeven
namespace Go.Proofs.YtjlgopfceebdcaaGreatDoor
namespace Rows

/-- THE TIED CARD OF 'lecterntop.TopValues'. -/
def topValuesCard : Claim7 := { stood := { row := topValuesRow, standIns := [], harness := (true, "ad03e893fa0a53a4fbe0031d192dba7c4e74b1d8c8cc080f85ce51f42831f212"), looks := true }, kinds := [], alts := [], laidByText := true, laidKinds := [.pinned, .data, .data, .data, .pinned, .data, .data, .data, .sentinel, .sentinel], laidTests := true, laidLooks := .later }
def TopValuesCardSaid : Prop := Claim7.holds Tryz.pinned (.plain (OpenSpec.ofChange topValuesSpec)) topValuesCard

/-- THE SECOND FORM's CARD OF 'lecterntop.TopValues'. -/
def topValuesUptoCard : Claim7 := { stood := { row := topValuesUptoRow, standIns := [], harness := (true, "ad03e893fa0a53a4fbe0031d192dba7c4e74b1d8c8cc080f85ce51f42831f212"), looks := true }, kinds := [], alts := [], laidByText := true, laidKinds := [.pinned, .data, .data, .data, .pinned, .data, .data, .data, .sentinel, .sentinel], laidTests := true, laidLooks := .later }
def TopValuesUptoCardSaid : Prop := Claim7.holds Tryz.pinned (.plain (OpenSpec.upto topValuesSpec)) topValuesUptoCard
end Rows
end Go.Proofs.YtjlgopfceebdcaaGreatDoor
