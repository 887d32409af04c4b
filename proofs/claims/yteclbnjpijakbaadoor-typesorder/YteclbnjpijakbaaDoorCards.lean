/-
  DERIVED. GIVEN WITH THE SEED: THE CARDS: each row of YteclbnjpijakbaaDoorRows.lean that lists a variable, with what it lists TIED to the program's text (the seventh form; the later family's looks); each row that meets fmt, with fmt's text TOLD by the authors' own Lean function (tested against real Go, not proved from fmt's source: count such statements apart). THE CARD IS WHAT COUNTS. Prove the row's statement (the work); the ties are given (YteclbnjpijakbaaDoorTie.lean); close each card by the builder's one call (the guide's Derived/Test/ToyasCard.lean, 'card_holds'). Laid BY PROGRAM, IN A SANDBOX (cutbox-door.mjs). By AI agents, Wed Nov 11 2026. No macro, syntax, notation, axiom, sorry.
-/
import Derived.Test.YteclbnjpijakbaaDoorRows
import GoSem.ClaimSeven
namespace Go.Proofs.YteclbnjpijakbaaDoor
namespace Rows

/-- THE TIED CARD OF 'selvagelaw07.TypesOne'. -/
def typesOneCard : Claim7 := { stood := { row := typesOneRow, standIns := [], harness := (true, "2314dc3715af645996f22cdd560f198a79b0893da7792ced94d6ee6d93ca019d"), looks := true }, kinds := [], alts := [], laidByText := true, laidKinds := [.data, .data, .data], laidTests := true, laidLooks := .later }
def TypesOneCardSaid : Prop := Claim7.holds Tryd.pinned (.plain (OpenSpec.ofChange typesOneSpec)) typesOneCard

/-- THE TIED CARD OF 'selvagelaw07.TypesMay'. -/
def typesMayCard : Claim7 := { stood := { row := typesMayRow, standIns := [], harness := (true, "2314dc3715af645996f22cdd560f198a79b0893da7792ced94d6ee6d93ca019d"), looks := true }, kinds := [], alts := [], laidByText := true, laidKinds := [.data, .data, .data], laidTests := true, laidLooks := .later }
def TypesMayCardSaid : Prop := Claim7.holds Tryd.pinned (.plain (OpenSpec.ofChange typesMaySpec)) typesMayCard

/-- THE TIED CARD OF 'selvagelaw07.TypesOrder'. -/
def typesOrderCard : Claim7 := { stood := { row := typesOrderRow, standIns := [], harness := (true, "2314dc3715af645996f22cdd560f198a79b0893da7792ced94d6ee6d93ca019d"), looks := true }, kinds := [], alts := [], laidByText := true, laidKinds := [.data, .data, .data], laidTests := true, laidLooks := .later }
def TypesOrderCardSaid : Prop := Claim7.holds Tryd.pinned (.plain (OpenSpec.ofChange typesOrderSpec)) typesOrderCard

/-- THE TIED CARD OF 'selvagelaw07.TypesStill'. -/
def typesStillCard : Claim7 := { stood := { row := typesStillRow, standIns := [], harness := (true, "2314dc3715af645996f22cdd560f198a79b0893da7792ced94d6ee6d93ca019d"), looks := true }, kinds := [], alts := [], laidByText := true, laidKinds := [.data, .data, .data], laidTests := true, laidLooks := .later }
def TypesStillCardSaid : Prop := Claim7.holds Tryd.pinned (.plain (OpenSpec.ofChange typesStillSpec)) typesStillCard

/-- THE SECOND FORM's CARD OF 'selvagelaw07.TypesOne'. -/
def typesOneUptoCard : Claim7 := { stood := { row := typesOneUptoRow, standIns := [], harness := (true, "2314dc3715af645996f22cdd560f198a79b0893da7792ced94d6ee6d93ca019d"), looks := true }, kinds := [], alts := [], laidByText := true, laidKinds := [.data, .data, .data], laidTests := true, laidLooks := .later }
def TypesOneUptoCardSaid : Prop := Claim7.holds Tryd.pinned (.plain (OpenSpec.upto typesOneSpec)) typesOneUptoCard

/-- THE SECOND FORM's CARD OF 'selvagelaw07.TypesMay'. -/
def typesMayUptoCard : Claim7 := { stood := { row := typesMayUptoRow, standIns := [], harness := (true, "2314dc3715af645996f22cdd560f198a79b0893da7792ced94d6ee6d93ca019d"), looks := true }, kinds := [], alts := [], laidByText := true, laidKinds := [.data, .data, .data], laidTests := true, laidLooks := .later }
def TypesMayUptoCardSaid : Prop := Claim7.holds Tryd.pinned (.plain (OpenSpec.upto typesMaySpec)) typesMayUptoCard

/-- THE SECOND FORM's CARD OF 'selvagelaw07.TypesOrder'. -/
def typesOrderUptoCard : Claim7 := { stood := { row := typesOrderUptoRow, standIns := [], harness := (true, "2314dc3715af645996f22cdd560f198a79b0893da7792ced94d6ee6d93ca019d"), looks := true }, kinds := [], alts := [], laidByText := true, laidKinds := [.data, .data, .data], laidTests := true, laidLooks := .later }
def TypesOrderUptoCardSaid : Prop := Claim7.holds Tryd.pinned (.plain (OpenSpec.upto typesOrderSpec)) typesOrderUptoCard

/-- THE SECOND FORM's CARD OF 'selvagelaw07.TypesStill'. -/
def typesStillUptoCard : Claim7 := { stood := { row := typesStillUptoRow, standIns := [], harness := (true, "2314dc3715af645996f22cdd560f198a79b0893da7792ced94d6ee6d93ca019d"), looks := true }, kinds := [], alts := [], laidByText := true, laidKinds := [.data, .data, .data], laidTests := true, laidLooks := .later }
def TypesStillUptoCardSaid : Prop := Claim7.holds Tryd.pinned (.plain (OpenSpec.upto typesStillSpec)) typesStillUptoCard
end Rows
end Go.Proofs.YteclbnjpijakbaaDoor
