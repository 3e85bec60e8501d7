/-
  DERIVED. GIVEN WITH THE SEED: THE CARDS: each row of YtdjehimkijlhgaaDoorRows.lean that lists a variable, with what it lists TIED to the program's text (the seventh form; the later family's looks); each row that meets fmt, with fmt's text TOLD by the authors' own Lean function (tested against real Go, not proved from fmt's source: count such statements apart). THE CARD IS WHAT COUNTS. Prove the row's statement (the work); the ties are given (YtdjehimkijlhgaaDoorTie.lean); close each card by the builder's one call (the guide's Derived/Test/ToyasCard.lean, 'card_holds'). Laid BY PROGRAM, IN A SANDBOX (cutbox-door.mjs). By AI agents, Wed Nov 11 2026. No macro, syntax, notation, axiom, sorry.
-/
import Derived.Test.YtdjehimkijlhgaaDoorRows
import GoSem.ClaimSeven
namespace Go.Proofs.YtdjehimkijlhgaaDoor
namespace Rows

/-- THE TIED CARD OF 'lecternlaw04.ScopeNames'. -/
def scopeNamesCard : Claim7 := { stood := { row := scopeNamesRow, standIns := [], harness := (true, "b76dafc02d026486eeba44913605adad04f4792189d6fedf4100f9365a8f2c98"), looks := true }, kinds := [], alts := [], laidByText := true, laidKinds := [.data, .pinned], laidTests := true, laidLooks := .later }
def ScopeNamesCardSaid : Prop := Claim7.holds Tryd.pinned (.plain (OpenSpec.ofChange scopeNamesSpec)) scopeNamesCard

/-- THE TIED CARD OF 'lecternlaw02.ReferExpands'. -/
def referExpandsCard : Claim7 := { stood := { row := referExpandsRow, standIns := [], harness := (true, "b76dafc02d026486eeba44913605adad04f4792189d6fedf4100f9365a8f2c98"), looks := true }, kinds := [], alts := [], laidByText := true, laidKinds := [.data, .pinned], laidTests := true, laidLooks := .later }
def ReferExpandsCardSaid : Prop := Claim7.holds Tryd.pinned (.plain (OpenSpec.ofChange referExpandsSpec)) referExpandsCard

/-- THE TIED CARD OF 'lecternlaw02.ReferNumbers'. -/
def referNumbersCard : Claim7 := { stood := { row := referNumbersRow, standIns := [], harness := (true, "b76dafc02d026486eeba44913605adad04f4792189d6fedf4100f9365a8f2c98"), looks := true }, kinds := [], alts := [], laidByText := true, laidKinds := [.data, .pinned], laidTests := true, laidLooks := .later }
def ReferNumbersCardSaid : Prop := Claim7.holds Tryd.pinned (.plain (OpenSpec.ofChange referNumbersSpec)) referNumbersCard

/-- THE TIED CARD OF 'lecternlaw02.ReferJoins'. -/
def referJoinsCard : Claim7 := { stood := { row := referJoinsRow, standIns := [], harness := (true, "b76dafc02d026486eeba44913605adad04f4792189d6fedf4100f9365a8f2c98"), looks := true }, kinds := [], alts := [], laidByText := true, laidKinds := [.data, .pinned], laidTests := true, laidLooks := .later }
def ReferJoinsCardSaid : Prop := Claim7.holds Tryd.pinned (.plain (OpenSpec.ofChange referJoinsSpec)) referJoinsCard

/-- THE TIED CARD OF 'lecternlaw02.ReferWrites'. -/
def referWritesCard : Claim7 := { stood := { row := referWritesRow, standIns := [], harness := (true, "b76dafc02d026486eeba44913605adad04f4792189d6fedf4100f9365a8f2c98"), looks := true }, kinds := [], alts := [], laidByText := true, laidKinds := [.data, .pinned], laidTests := true, laidLooks := .later }
def ReferWritesCardSaid : Prop := Claim7.holds Tryd.pinned (.plain (OpenSpec.ofChange referWritesSpec)) referWritesCard

/-- THE TIED CARD OF 'lecternlaw02.ReferPlain'. -/
def referPlainCard : Claim7 := { stood := { row := referPlainRow, standIns := [], harness := (true, "b76dafc02d026486eeba44913605adad04f4792189d6fedf4100f9365a8f2c98"), looks := true }, kinds := [], alts := [], laidByText := true, laidKinds := [.data, .pinned], laidTests := true, laidLooks := .later }
def ReferPlainCardSaid : Prop := Claim7.holds Tryd.pinned (.plain (OpenSpec.ofChange referPlainSpec)) referPlainCard

/-- THE TIED CARD OF 'lecternlaw02.ReferBack'. -/
def referBackCard : Claim7 := { stood := { row := referBackRow, standIns := [], harness := (true, "b76dafc02d026486eeba44913605adad04f4792189d6fedf4100f9365a8f2c98"), looks := true }, kinds := [], alts := [], laidByText := true, laidKinds := [.data, .pinned], laidTests := true, laidLooks := .later }
def ReferBackCardSaid : Prop := Claim7.holds Tryd.pinned (.plain (OpenSpec.ofChange referBackSpec)) referBackCard

/-- THE TIED CARD OF 'lecternlaw04.ScopeAttrs'. -/
def scopeAttrsCard : Claim7 := { stood := { row := scopeAttrsRow, standIns := [], harness := (true, "b76dafc02d026486eeba44913605adad04f4792189d6fedf4100f9365a8f2c98"), looks := true }, kinds := [], alts := [], laidByText := true, laidKinds := [.data, .pinned], laidTests := true, laidLooks := .later }
def ScopeAttrsCardSaid : Prop := Claim7.holds Tryd.pinned (.plain (OpenSpec.ofChange scopeAttrsSpec)) scopeAttrsCard

/-- THE TIED CARD OF 'lecternlaw04.ScopeRenames'. -/
def scopeRenamesCard : Claim7 := { stood := { row := scopeRenamesRow, standIns := [], harness := (true, "b76dafc02d026486eeba44913605adad04f4792189d6fedf4100f9365a8f2c98"), looks := true }, kinds := [], alts := [], laidByText := true, laidKinds := [.data, .pinned], laidTests := true, laidLooks := .later }
def ScopeRenamesCardSaid : Prop := Claim7.holds Tryd.pinned (.plain (OpenSpec.ofChange scopeRenamesSpec)) scopeRenamesCard

/-- THE TIED CARD OF 'lecternlaw04.ScopeOrders'. -/
def scopeOrdersCard : Claim7 := { stood := { row := scopeOrdersRow, standIns := [], harness := (true, "b76dafc02d026486eeba44913605adad04f4792189d6fedf4100f9365a8f2c98"), looks := true }, kinds := [], alts := [], laidByText := true, laidKinds := [.data, .pinned], laidTests := true, laidLooks := .later }
def ScopeOrdersCardSaid : Prop := Claim7.holds Tryd.pinned (.plain (OpenSpec.ofChange scopeOrdersSpec)) scopeOrdersCard

/-- THE TIED CARD OF 'lecternlaw04.ScopeOpens'. -/
def scopeOpensCard : Claim7 := { stood := { row := scopeOpensRow, standIns := [], harness := (true, "b76dafc02d026486eeba44913605adad04f4792189d6fedf4100f9365a8f2c98"), looks := true }, kinds := [], alts := [], laidByText := true, laidKinds := [.data, .pinned], laidTests := true, laidLooks := .later }
def ScopeOpensCardSaid : Prop := Claim7.holds Tryd.pinned (.plain (OpenSpec.ofChange scopeOpensSpec)) scopeOpensCard

/-- THE SECOND FORM's CARD OF 'lecternlaw04.ScopeNames'. -/
def scopeNamesUptoCard : Claim7 := { stood := { row := scopeNamesUptoRow, standIns := [], harness := (true, "b76dafc02d026486eeba44913605adad04f4792189d6fedf4100f9365a8f2c98"), looks := true }, kinds := [], alts := [], laidByText := true, laidKinds := [.data, .pinned], laidTests := true, laidLooks := .later }
def ScopeNamesUptoCardSaid : Prop := Claim7.holds Tryd.pinned (.plain (OpenSpec.upto scopeNamesSpec)) scopeNamesUptoCard

/-- THE SECOND FORM's CARD OF 'lecternlaw02.ReferExpands'. -/
def referExpandsUptoCard : Claim7 := { stood := { row := referExpandsUptoRow, standIns := [], harness := (true, "b76dafc02d026486eeba44913605adad04f4792189d6fedf4100f9365a8f2c98"), looks := true }, kinds := [], alts := [], laidByText := true, laidKinds := [.data, .pinned], laidTests := true, laidLooks := .later }
def ReferExpandsUptoCardSaid : Prop := Claim7.holds Tryd.pinned (.plain (OpenSpec.upto referExpandsSpec)) referExpandsUptoCard

/-- THE SECOND FORM's CARD OF 'lecternlaw02.ReferNumbers'. -/
def referNumbersUptoCard : Claim7 := { stood := { row := referNumbersUptoRow, standIns := [], harness := (true, "b76dafc02d026486eeba44913605adad04f4792189d6fedf4100f9365a8f2c98"), looks := true }, kinds := [], alts := [], laidByText := true, laidKinds := [.data, .pinned], laidTests := true, laidLooks := .later }
def ReferNumbersUptoCardSaid : Prop := Claim7.holds Tryd.pinned (.plain (OpenSpec.upto referNumbersSpec)) referNumbersUptoCard

/-- THE SECOND FORM's CARD OF 'lecternlaw02.ReferJoins'. -/
def referJoinsUptoCard : Claim7 := { stood := { row := referJoinsUptoRow, standIns := [], harness := (true, "b76dafc02d026486eeba44913605adad04f4792189d6fedf4100f9365a8f2c98"), looks := true }, kinds := [], alts := [], laidByText := true, laidKinds := [.data, .pinned], laidTests := true, laidLooks := .later }
def ReferJoinsUptoCardSaid : Prop := Claim7.holds Tryd.pinned (.plain (OpenSpec.upto referJoinsSpec)) referJoinsUptoCard

/-- THE SECOND FORM's CARD OF 'lecternlaw02.ReferWrites'. -/
def referWritesUptoCard : Claim7 := { stood := { row := referWritesUptoRow, standIns := [], harness := (true, "b76dafc02d026486eeba44913605adad04f4792189d6fedf4100f9365a8f2c98"), looks := true }, kinds := [], alts := [], laidByText := true, laidKinds := [.data, .pinned], laidTests := true, laidLooks := .later }
def ReferWritesUptoCardSaid : Prop := Claim7.holds Tryd.pinned (.plain (OpenSpec.upto referWritesSpec)) referWritesUptoCard

/-- THE SECOND FORM's CARD OF 'lecternlaw02.ReferPlain'. -/
def referPlainUptoCard : Claim7 := { stood := { row := referPlainUptoRow, standIns := [], harness := (true, "b76dafc02d026486eeba44913605adad04f4792189d6fedf4100f9365a8f2c98"), looks := true }, kinds := [], alts := [], laidByText := true, laidKinds := [.data, .pinned], laidTests := true, laidLooks := .later }
def ReferPlainUptoCardSaid : Prop := Claim7.holds Tryd.pinned (.plain (OpenSpec.upto referPlainSpec)) referPlainUptoCard

/-- THE SECOND FORM's CARD OF 'lecternlaw02.ReferBack'. -/
def referBackUptoCard : Claim7 := { stood := { row := referBackUptoRow, standIns := [], harness := (true, "b76dafc02d026486eeba44913605adad04f4792189d6fedf4100f9365a8f2c98"), looks := true }, kinds := [], alts := [], laidByText := true, laidKinds := [.data, .pinned], laidTests := true, laidLooks := .later }
def ReferBackUptoCardSaid : Prop := Claim7.holds Tryd.pinned (.plain (OpenSpec.upto referBackSpec)) referBackUptoCard

/-- THE SECOND FORM's CARD OF 'lecternlaw04.ScopeAttrs'. -/
def scopeAttrsUptoCard : Claim7 := { stood := { row := scopeAttrsUptoRow, standIns := [], harness := (true, "b76dafc02d026486eeba44913605adad04f4792189d6fedf4100f9365a8f2c98"), looks := true }, kinds := [], alts := [], laidByText := true, laidKinds := [.data, .pinned], laidTests := true, laidLooks := .later }
def ScopeAttrsUptoCardSaid : Prop := Claim7.holds Tryd.pinned (.plain (OpenSpec.upto scopeAttrsSpec)) scopeAttrsUptoCard

/-- THE SECOND FORM's CARD OF 'lecternlaw04.ScopeRenames'. -/
def scopeRenamesUptoCard : Claim7 := { stood := { row := scopeRenamesUptoRow, standIns := [], harness := (true, "b76dafc02d026486eeba44913605adad04f4792189d6fedf4100f9365a8f2c98"), looks := true }, kinds := [], alts := [], laidByText := true, laidKinds := [.data, .pinned], laidTests := true, laidLooks := .later }
def ScopeRenamesUptoCardSaid : Prop := Claim7.holds Tryd.pinned (.plain (OpenSpec.upto scopeRenamesSpec)) scopeRenamesUptoCard

/-- THE SECOND FORM's CARD OF 'lecternlaw04.ScopeOrders'. -/
def scopeOrdersUptoCard : Claim7 := { stood := { row := scopeOrdersUptoRow, standIns := [], harness := (true, "b76dafc02d026486eeba44913605adad04f4792189d6fedf4100f9365a8f2c98"), looks := true }, kinds := [], alts := [], laidByText := true, laidKinds := [.data, .pinned], laidTests := true, laidLooks := .later }
def ScopeOrdersUptoCardSaid : Prop := Claim7.holds Tryd.pinned (.plain (OpenSpec.upto scopeOrdersSpec)) scopeOrdersUptoCard

/-- THE SECOND FORM's CARD OF 'lecternlaw04.ScopeOpens'. -/
def scopeOpensUptoCard : Claim7 := { stood := { row := scopeOpensUptoRow, standIns := [], harness := (true, "b76dafc02d026486eeba44913605adad04f4792189d6fedf4100f9365a8f2c98"), looks := true }, kinds := [], alts := [], laidByText := true, laidKinds := [.data, .pinned], laidTests := true, laidLooks := .later }
def ScopeOpensUptoCardSaid : Prop := Claim7.holds Tryd.pinned (.plain (OpenSpec.upto scopeOpensSpec)) scopeOpensUptoCard
end Rows
end Go.Proofs.YtdjehimkijlhgaaDoor
