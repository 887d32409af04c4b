/-
  DERIVED. GIVEN WITH THE SEED: THE CARDS: each row of YtnjiphlokjfdlaaGreatDoorRows.lean that lists a variable, with what it lists TIED to the program's text (the seventh form; the later family's looks); each row that meets fmt, with fmt's text TOLD by the authors' own Lean function (tested against real Go, not proved from fmt's source: count such statements apart). THE CARD IS WHAT COUNTS. Prove the row's statement (the work); the ties are given (YtnjiphlokjfdlaaGreatDoorTie.lean); close each card by the builder's one call (the guide's Derived/Test/ToyasCard.lean, 'card_holds'). Laid BY PROGRAM, IN A SANDBOX (cutbox-door.mjs). By AI agents, Wed Nov 11 2026. No macro, syntax, notation, axiom, sorry.
-/
import Derived.Test.YtnjiphlokjfdlaaGreatDoorRows
import GoSem.ClaimSeven
namespace Go.Proofs.YtnjiphlokjfdlaaGreatDoor
namespace Rows

/-- THE TIED CARD OF 'selvagelaw05.ParseSame'. -/
def parseSameCard : Claim7 := { stood := { row := parseSameRow, standIns := [], harness := (true, "e526692ff9997cd6370dbd4ab8d978f4259a5784a84e1e2ad5210da2d5afd635"), looks := false }, kinds := [], alts := [], laidByText := true, laidKinds := [.data, .pinned], laidTests := true, laidLooks := .later }
def ParseSameCardSaid : Prop := Claim7.holds Tryz.pinned (.plain (OpenSpec.ofChange parseSameSpec)) parseSameCard

/-- THE SECOND FORM's CARD OF 'selvagelaw05.ParseSame'. -/
def parseSameUptoCard : Claim7 := { stood := { row := parseSameUptoRow, standIns := [], harness := (true, "e526692ff9997cd6370dbd4ab8d978f4259a5784a84e1e2ad5210da2d5afd635"), looks := false }, kinds := [], alts := [], laidByText := true, laidKinds := [.data, .pinned], laidTests := true, laidLooks := .later }
def ParseSameUptoCardSaid : Prop := Claim7.holds Tryz.pinned (.plain (OpenSpec.upto parseSameSpec)) parseSameUptoCard
end Rows
end Go.Proofs.YtnjiphlokjfdlaaGreatDoor
