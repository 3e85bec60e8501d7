/-
  DERIVED. GIVEN WITH THE SEED: THE CARDS: each row of YtmmfookfpdcohaaDoorRows.lean that lists a variable, with what it lists TIED to the program's text (the seventh form; the later family's looks); each row that meets fmt, with fmt's text TOLD by the authors' own Lean function (tested against real Go, not proved from fmt's source: count such statements apart). THE CARD IS WHAT COUNTS. Prove the row's statement (the work); the ties are given (YtmmfookfpdcohaaDoorTie.lean); close each card by the builder's one call (the guide's Derived/Test/ToyasCard.lean, 'card_holds'). Laid BY PROGRAM, IN A SANDBOX (cutbox-door.mjs). By AI agents, Wed Nov 11 2026. No macro, syntax, notation, axiom, sorry.
-/
import Derived.Test.YtmmfookfpdcohaaDoorRows
import GoSem.ClaimSeven
namespace Go.Proofs.YtmmfookfpdcohaaDoor
namespace Rows

/-- THE TIED CARD OF 'lecternlaw05.TreeOrders'. -/
def treeOrdersCard : Claim7 := { stood := { row := treeOrdersRow, standIns := [], harness := (true, "9ded105db01681103e0f9927d46faa25e8dcf83955437f18778f6da93b533c92"), looks := false }, kinds := [], alts := [], laidByText := true, laidKinds := [.data, .data, .data, .pinned, .pinned], laidTests := true, laidLooks := .later }
def TreeOrdersCardSaid : Prop := Claim7.holds Tryd.pinned (.plain (OpenSpec.ofChange treeOrdersSpec)) treeOrdersCard

/-- THE TIED CARD OF 'lecternlaw05.TreeBares'. -/
def treeBaresCard : Claim7 := { stood := { row := treeBaresRow, standIns := [], harness := (true, "9ded105db01681103e0f9927d46faa25e8dcf83955437f18778f6da93b533c92"), looks := false }, kinds := [], alts := [], laidByText := true, laidKinds := [.data, .data, .data, .pinned, .pinned], laidTests := true, laidLooks := .later }
def TreeBaresCardSaid : Prop := Claim7.holds Tryd.pinned (.plain (OpenSpec.ofChange treeBaresSpec)) treeBaresCard

/-- THE TIED CARD OF 'lecternlaw05.TreeParts'. -/
def treePartsCard : Claim7 := { stood := { row := treePartsRow, standIns := [], harness := (true, "9ded105db01681103e0f9927d46faa25e8dcf83955437f18778f6da93b533c92"), looks := false }, kinds := [], alts := [], laidByText := true, laidKinds := [.data, .data, .data, .pinned, .pinned], laidTests := true, laidLooks := .later }
def TreePartsCardSaid : Prop := Claim7.holds Tryd.pinned (.plain (OpenSpec.ofChange treePartsSpec)) treePartsCard

/-- THE TIED CARD OF 'lecternlaw05.TreeFinds'. -/
def treeFindsCard : Claim7 := { stood := { row := treeFindsRow, standIns := [], harness := (true, "9ded105db01681103e0f9927d46faa25e8dcf83955437f18778f6da93b533c92"), looks := false }, kinds := [], alts := [], laidByText := true, laidKinds := [.data, .data, .data, .pinned, .pinned], laidTests := true, laidLooks := .later }
def TreeFindsCardSaid : Prop := Claim7.holds Tryd.pinned (.plain (OpenSpec.ofChange treeFindsSpec)) treeFindsCard

/-- THE SECOND FORM's CARD OF 'lecternlaw05.TreeOrders'. -/
def treeOrdersUptoCard : Claim7 := { stood := { row := treeOrdersUptoRow, standIns := [], harness := (true, "9ded105db01681103e0f9927d46faa25e8dcf83955437f18778f6da93b533c92"), looks := false }, kinds := [], alts := [], laidByText := true, laidKinds := [.data, .data, .data, .pinned, .pinned], laidTests := true, laidLooks := .later }
def TreeOrdersUptoCardSaid : Prop := Claim7.holds Tryd.pinned (.plain (OpenSpec.upto treeOrdersSpec)) treeOrdersUptoCard

/-- THE SECOND FORM's CARD OF 'lecternlaw05.TreeBares'. -/
def treeBaresUptoCard : Claim7 := { stood := { row := treeBaresUptoRow, standIns := [], harness := (true, "9ded105db01681103e0f9927d46faa25e8dcf83955437f18778f6da93b533c92"), looks := false }, kinds := [], alts := [], laidByText := true, laidKinds := [.data, .data, .data, .pinned, .pinned], laidTests := true, laidLooks := .later }
def TreeBaresUptoCardSaid : Prop := Claim7.holds Tryd.pinned (.plain (OpenSpec.upto treeBaresSpec)) treeBaresUptoCard

/-- THE SECOND FORM's CARD OF 'lecternlaw05.TreeParts'. -/
def treePartsUptoCard : Claim7 := { stood := { row := treePartsUptoRow, standIns := [], harness := (true, "9ded105db01681103e0f9927d46faa25e8dcf83955437f18778f6da93b533c92"), looks := false }, kinds := [], alts := [], laidByText := true, laidKinds := [.data, .data, .data, .pinned, .pinned], laidTests := true, laidLooks := .later }
def TreePartsUptoCardSaid : Prop := Claim7.holds Tryd.pinned (.plain (OpenSpec.upto treePartsSpec)) treePartsUptoCard

/-- THE SECOND FORM's CARD OF 'lecternlaw05.TreeFinds'. -/
def treeFindsUptoCard : Claim7 := { stood := { row := treeFindsUptoRow, standIns := [], harness := (true, "9ded105db01681103e0f9927d46faa25e8dcf83955437f18778f6da93b533c92"), looks := false }, kinds := [], alts := [], laidByText := true, laidKinds := [.data, .data, .data, .pinned, .pinned], laidTests := true, laidLooks := .later }
def TreeFindsUptoCardSaid : Prop := Claim7.holds Tryd.pinned (.plain (OpenSpec.upto treeFindsSpec)) treeFindsUptoCard
end Rows
end Go.Proofs.YtmmfookfpdcohaaDoor
