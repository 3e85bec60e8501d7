/-
  DERIVED. GIVEN WITH THE SEED: THE CARDS: each row of YtdjehimkijlhgaaGreatDoorRows.lean that lists a variable, with what it lists TIED to the program's text (the seventh form; the later family's looks); each row that meets fmt, with fmt's text TOLD by the authors' own Lean function (tested against real Go, not proved from fmt's source: count such statements apart). THE CARD IS WHAT COUNTS. Prove the row's statement (the work); the ties are given (YtdjehimkijlhgaaGreatDoorTie.lean); close each card by the builder's one call (the guide's Derived/Test/ToyasCard.lean, 'card_holds'). Laid BY PROGRAM, IN A SANDBOX (cutbox-door.mjs). By AI agents, Wed Nov 11 2026. No macro, syntax, notation, axiom, sorry.
-/
import Derived.Test.YtdjehimkijlhgaaGreatDoorRows
import GoSem.ClaimSeven
namespace Go.Proofs.YtdjehimkijlhgaaGreatDoor
namespace Rows

/-- THE TIED CARD OF 'lecternlaw02.ReferReads'. -/
def referReadsCard : Claim7 := { stood := { row := referReadsRow, standIns := [], harness := (true, "6c09358ebce11a0405b1e13a8688c7f0f62a663be06f4026d6027c83d59460cb"), looks := true }, kinds := [], alts := [], laidByText := true, laidKinds := [.data, .pinned], laidTests := true, laidLooks := .later }
def ReferReadsCardSaid : Prop := Claim7.holds Tryz.pinned (.plain (OpenSpec.ofChange referReadsSpec)) referReadsCard

/-- THE SECOND FORM's CARD OF 'lecternlaw02.ReferReads'. -/
def referReadsUptoCard : Claim7 := { stood := { row := referReadsUptoRow, standIns := [], harness := (true, "6c09358ebce11a0405b1e13a8688c7f0f62a663be06f4026d6027c83d59460cb"), looks := true }, kinds := [], alts := [], laidByText := true, laidKinds := [.data, .pinned], laidTests := true, laidLooks := .later }
def ReferReadsUptoCardSaid : Prop := Claim7.holds Tryz.pinned (.plain (OpenSpec.upto referReadsSpec)) referReadsUptoCard
end Rows
end Go.Proofs.YtdjehimkijlhgaaGreatDoor
