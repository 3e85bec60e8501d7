/-
  DERIVED. GIVEN WITH THE SEED: THE CARDS: each row of YtmnbgcgealpcbaaGreatDoorRows.lean that lists a variable, with what it lists TIED to the program's text (the seventh form; the later family's looks); each row that meets fmt, with fmt's text TOLD by the authors' own Lean function (tested against real Go, not proved from fmt's source: count such statements apart). THE CARD IS WHAT COUNTS. Prove the row's statement (the work); the ties are given (YtmnbgcgealpcbaaGreatDoorTie.lean); close each card by the builder's one call (the guide's Derived/Test/ToyasCard.lean, 'card_holds'). Laid BY PROGRAM, IN A SANDBOX (cutbox-door.mjs). By AI agents, Wed Nov 11 2026. No macro, syntax, notation, axiom, sorry.
-/
import Derived.Test.YtmnbgcgealpcbaaGreatDoorRows
import GoSem.ClaimSeven
namespace Go.Proofs.YtmnbgcgealpcbaaGreatDoor
namespace Rows

/-- THE TIED CARD OF 'lecterntop.TopLabels'. -/
def topLabelsCard : Claim7 := { stood := { row := topLabelsRow, standIns := [], harness := (true, "61c894a968ae6582e1712fd6acf6a8736567a98be6c3c4e13b742b32c77c257b"), looks := true }, kinds := [], alts := [], laidByText := true, laidKinds := [.data, .data, .data, .data, .data, .data, .pinned, .pinned], laidTests := true, laidLooks := .later }
def TopLabelsCardSaid : Prop := Claim7.holds Tryz.pinned (.plain (OpenSpec.ofChange topLabelsSpec)) topLabelsCard

/-- THE SECOND FORM's CARD OF 'lecterntop.TopLabels'. -/
def topLabelsUptoCard : Claim7 := { stood := { row := topLabelsUptoRow, standIns := [], harness := (true, "61c894a968ae6582e1712fd6acf6a8736567a98be6c3c4e13b742b32c77c257b"), looks := true }, kinds := [], alts := [], laidByText := true, laidKinds := [.data, .data, .data, .data, .data, .data, .pinned, .pinned], laidTests := true, laidLooks := .later }
def TopLabelsUptoCardSaid : Prop := Claim7.holds Tryz.pinned (.plain (OpenSpec.upto topLabelsSpec)) topLabelsUptoCard
end Rows
end Go.Proofs.YtmnbgcgealpcbaaGreatDoor
