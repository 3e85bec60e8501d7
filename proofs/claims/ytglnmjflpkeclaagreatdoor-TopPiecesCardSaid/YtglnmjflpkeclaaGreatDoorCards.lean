/-
  DERIVED. GIVEN WITH THE SEED: THE CARDS: each row of YtglnmjflpkeclaaGreatDoorRows.lean that lists a variable, with what it lists TIED to the program's text (the seventh form; the later family's looks); each row that meets fmt, with fmt's text TOLD by the authors' own Lean function (tested against real Go, not proved from fmt's source: count such statements apart). THE CARD IS WHAT COUNTS. Prove the row's statement (the work); the ties are given (YtglnmjflpkeclaaGreatDoorTie.lean); close each card by the builder's one call (the guide's Derived/Test/ToyasCard.lean, 'card_holds'). Laid BY PROGRAM, IN A SANDBOX (cutbox-door.mjs). By AI agents, Wed Nov 11 2026. No macro, syntax, notation, axiom, sorry.
-/
import Derived.Test.YtglnmjflpkeclaaGreatDoorRows
import GoSem.ClaimSeven
namespace Go.Proofs.YtglnmjflpkeclaaGreatDoor
namespace Rows

/-- THE TIED CARD OF 'lecterntop.TopCanon'. -/
def topCanonCard : Claim7 := { stood := { row := topCanonRow, standIns := [], harness := (true, "f706ed7dd52cfff32a46962ce08da6c615939da4046fe618df7e7f186fe60421"), looks := true }, kinds := [], alts := [], laidByText := true, laidKinds := [.data, .data, .data, .data, .data, .data, .pinned, .pinned], laidTests := true, laidLooks := .later }
def TopCanonCardSaid : Prop := Claim7.holds Tryz.pinned (.plain (OpenSpec.ofChange topCanonSpec)) topCanonCard

/-- THE TIED CARD OF 'lecterntop.TopPieces'. -/
def topPiecesCard : Claim7 := { stood := { row := topPiecesRow, standIns := [], harness := (true, "f706ed7dd52cfff32a46962ce08da6c615939da4046fe618df7e7f186fe60421"), looks := true }, kinds := [], alts := [], laidByText := true, laidKinds := [.data, .data, .data, .data, .data, .data, .pinned, .pinned], laidTests := true, laidLooks := .later }
def TopPiecesCardSaid : Prop := Claim7.holds Tryz.pinned (.plain (OpenSpec.ofChange topPiecesSpec)) topPiecesCard

/-- THE SECOND FORM's CARD OF 'lecterntop.TopCanon'. -/
def topCanonUptoCard : Claim7 := { stood := { row := topCanonUptoRow, standIns := [], harness := (true, "f706ed7dd52cfff32a46962ce08da6c615939da4046fe618df7e7f186fe60421"), looks := true }, kinds := [], alts := [], laidByText := true, laidKinds := [.data, .data, .data, .data, .data, .data, .pinned, .pinned], laidTests := true, laidLooks := .later }
def TopCanonUptoCardSaid : Prop := Claim7.holds Tryz.pinned (.plain (OpenSpec.upto topCanonSpec)) topCanonUptoCard

/-- THE SECOND FORM's CARD OF 'lecterntop.TopPieces'. -/
def topPiecesUptoCard : Claim7 := { stood := { row := topPiecesUptoRow, standIns := [], harness := (true, "f706ed7dd52cfff32a46962ce08da6c615939da4046fe618df7e7f186fe60421"), looks := true }, kinds := [], alts := [], laidByText := true, laidKinds := [.data, .data, .data, .data, .data, .data, .pinned, .pinned], laidTests := true, laidLooks := .later }
def TopPiecesUptoCardSaid : Prop := Claim7.holds Tryz.pinned (.plain (OpenSpec.upto topPiecesSpec)) topPiecesUptoCard
end Rows
end Go.Proofs.YtglnmjflpkeclaaGreatDoor
