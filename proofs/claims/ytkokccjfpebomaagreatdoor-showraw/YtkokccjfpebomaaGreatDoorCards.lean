/-
  DERIVED. GIVEN WITH THE SEED: THE CARDS: each row of YtkokccjfpebomaaGreatDoorRows.lean that lists a variable, with what it lists TIED to the program's text (the seventh form; the later family's looks); each row that meets fmt, with fmt's text TOLD by the authors' own Lean function (tested against real Go, not proved from fmt's source: count such statements apart). THE CARD IS WHAT COUNTS. Prove the row's statement (the work); the ties are given (YtkokccjfpebomaaGreatDoorTie.lean); close each card by the builder's one call (the guide's Derived/Test/ToyasCard.lean, 'card_holds'). Laid BY PROGRAM, IN A SANDBOX (cutbox-door.mjs). By AI agents, Wed Nov 11 2026. No macro, syntax, notation, axiom, sorry.
-/
import Derived.Test.YtkokccjfpebomaaGreatDoorRows
import GoSem.ClaimSeven
namespace Go.Proofs.YtkokccjfpebomaaGreatDoor
namespace Rows

/-- THE TIED CARD OF 'selvagelaw06.ShowRound'. -/
def showRoundCard : Claim7 := { stood := { row := showRoundRow, standIns := [], harness := (true, "59fcee8c09a788dcda6191839261fce8e16984ccf00b3177903f432a81975a2f"), looks := false }, kinds := [], alts := [], laidByText := true, laidKinds := [.data, .pinned], laidTests := true, laidLooks := .later }
def ShowRoundCardSaid : Prop := Claim7.holds Tryz.pinned (.plain (OpenSpec.ofChange showRoundSpec)) showRoundCard

/-- THE TIED CARD OF 'selvagelaw06.ShowApart'. -/
def showApartCard : Claim7 := { stood := { row := showApartRow, standIns := [], harness := (true, "59fcee8c09a788dcda6191839261fce8e16984ccf00b3177903f432a81975a2f"), looks := false }, kinds := [], alts := [], laidByText := true, laidKinds := [.data, .pinned], laidTests := true, laidLooks := .later }
def ShowApartCardSaid : Prop := Claim7.holds Tryz.pinned (.plain (OpenSpec.ofChange showApartSpec)) showApartCard

/-- THE TIED CARD OF 'selvagelaw06.ShowBrackets'. -/
def showBracketsCard : Claim7 := { stood := { row := showBracketsRow, standIns := [], harness := (true, "59fcee8c09a788dcda6191839261fce8e16984ccf00b3177903f432a81975a2f"), looks := false }, kinds := [], alts := [], laidByText := true, laidKinds := [.data, .pinned], laidTests := true, laidLooks := .later }
def ShowBracketsCardSaid : Prop := Claim7.holds Tryz.pinned (.plain (OpenSpec.ofChange showBracketsSpec)) showBracketsCard

/-- THE TIED CARD OF 'selvagelaw06.ShowRaw'. -/
def showRawCard : Claim7 := { stood := { row := showRawRow, standIns := [], harness := (true, "59fcee8c09a788dcda6191839261fce8e16984ccf00b3177903f432a81975a2f"), looks := false }, kinds := [], alts := [], laidByText := true, laidKinds := [.data, .pinned], laidTests := true, laidLooks := .later }
def ShowRawCardSaid : Prop := Claim7.holds Tryz.pinned (.plain (OpenSpec.ofChange showRawSpec)) showRawCard

/-- THE TIED CARD OF 'selvagelaw06.ShowTexts'. -/
def showTextsCard : Claim7 := { stood := { row := showTextsRow, standIns := [], harness := (true, "59fcee8c09a788dcda6191839261fce8e16984ccf00b3177903f432a81975a2f"), looks := false }, kinds := [], alts := [], laidByText := true, laidKinds := [.data, .pinned], laidTests := true, laidLooks := .later }
def ShowTextsCardSaid : Prop := Claim7.holds Tryz.pinned (.plain (OpenSpec.ofChange showTextsSpec)) showTextsCard

/-- THE TIED CARD OF 'selvagelaw06.ShowTokens'. -/
def showTokensCard : Claim7 := { stood := { row := showTokensRow, standIns := [], harness := (true, "59fcee8c09a788dcda6191839261fce8e16984ccf00b3177903f432a81975a2f"), looks := false }, kinds := [], alts := [], laidByText := true, laidKinds := [.data, .pinned], laidTests := true, laidLooks := .later }
def ShowTokensCardSaid : Prop := Claim7.holds Tryz.pinned (.plain (OpenSpec.ofChange showTokensSpec)) showTokensCard

/-- THE SECOND FORM's CARD OF 'selvagelaw06.ShowRound'. -/
def showRoundUptoCard : Claim7 := { stood := { row := showRoundUptoRow, standIns := [], harness := (true, "59fcee8c09a788dcda6191839261fce8e16984ccf00b3177903f432a81975a2f"), looks := false }, kinds := [], alts := [], laidByText := true, laidKinds := [.data, .pinned], laidTests := true, laidLooks := .later }
def ShowRoundUptoCardSaid : Prop := Claim7.holds Tryz.pinned (.plain (OpenSpec.upto showRoundSpec)) showRoundUptoCard

/-- THE SECOND FORM's CARD OF 'selvagelaw06.ShowApart'. -/
def showApartUptoCard : Claim7 := { stood := { row := showApartUptoRow, standIns := [], harness := (true, "59fcee8c09a788dcda6191839261fce8e16984ccf00b3177903f432a81975a2f"), looks := false }, kinds := [], alts := [], laidByText := true, laidKinds := [.data, .pinned], laidTests := true, laidLooks := .later }
def ShowApartUptoCardSaid : Prop := Claim7.holds Tryz.pinned (.plain (OpenSpec.upto showApartSpec)) showApartUptoCard

/-- THE SECOND FORM's CARD OF 'selvagelaw06.ShowBrackets'. -/
def showBracketsUptoCard : Claim7 := { stood := { row := showBracketsUptoRow, standIns := [], harness := (true, "59fcee8c09a788dcda6191839261fce8e16984ccf00b3177903f432a81975a2f"), looks := false }, kinds := [], alts := [], laidByText := true, laidKinds := [.data, .pinned], laidTests := true, laidLooks := .later }
def ShowBracketsUptoCardSaid : Prop := Claim7.holds Tryz.pinned (.plain (OpenSpec.upto showBracketsSpec)) showBracketsUptoCard

/-- THE SECOND FORM's CARD OF 'selvagelaw06.ShowRaw'. -/
def showRawUptoCard : Claim7 := { stood := { row := showRawUptoRow, standIns := [], harness := (true, "59fcee8c09a788dcda6191839261fce8e16984ccf00b3177903f432a81975a2f"), looks := false }, kinds := [], alts := [], laidByText := true, laidKinds := [.data, .pinned], laidTests := true, laidLooks := .later }
def ShowRawUptoCardSaid : Prop := Claim7.holds Tryz.pinned (.plain (OpenSpec.upto showRawSpec)) showRawUptoCard

/-- THE SECOND FORM's CARD OF 'selvagelaw06.ShowTexts'. -/
def showTextsUptoCard : Claim7 := { stood := { row := showTextsUptoRow, standIns := [], harness := (true, "59fcee8c09a788dcda6191839261fce8e16984ccf00b3177903f432a81975a2f"), looks := false }, kinds := [], alts := [], laidByText := true, laidKinds := [.data, .pinned], laidTests := true, laidLooks := .later }
def ShowTextsUptoCardSaid : Prop := Claim7.holds Tryz.pinned (.plain (OpenSpec.upto showTextsSpec)) showTextsUptoCard

/-- THE SECOND FORM's CARD OF 'selvagelaw06.ShowTokens'. -/
def showTokensUptoCard : Claim7 := { stood := { row := showTokensUptoRow, standIns := [], harness := (true, "59fcee8c09a788dcda6191839261fce8e16984ccf00b3177903f432a81975a2f"), looks := false }, kinds := [], alts := [], laidByText := true, laidKinds := [.data, .pinned], laidTests := true, laidLooks := .later }
def ShowTokensUptoCardSaid : Prop := Claim7.holds Tryz.pinned (.plain (OpenSpec.upto showTokensSpec)) showTokensUptoCard
end Rows
end Go.Proofs.YtkokccjfpebomaaGreatDoor
