/-
  DERIVED. GIVEN WITH THE SEED: THE CARDS: each row of YthpilhmfcbdeiaaDoorRows.lean that lists a variable, with what it lists TIED to the program's text (the seventh form; the later family's looks); each row that meets fmt, with fmt's text TOLD by the authors' own Lean function (tested against real Go, not proved from fmt's source: count such statements apart). THE CARD IS WHAT COUNTS. Prove the row's statement (the work); the ties are given (YthpilhmfcbdeiaaDoorTie.lean); close each card by the builder's one call (the guide's Derived/Test/ToyasCard.lean, 'card_holds'). Laid BY PROGRAM, IN A SANDBOX (cutbox-door.mjs). By AI agents, Wed Nov 11 2026. No macro, syntax, notation, axiom, sorry.
-/
import Derived.Test.YthpilhmfcbdeiaaDoorRows
import GoSem.ClaimSeven
namespace Go.Proofs.YthpilhmfcbdeiaaDoor
namespace Rows

/-- THE TIED CARD OF 'regcertlaw26.LexerPrints'. -/
def lexerPrintsCard : Claim7 := { stood := { row := lexerPrintsRow, standIns := [], harness := (true, "b3befdf28fe36539407775e30cd863d2946eafe6a54e01ca5fd7e6c7ce5aa111"), looks := true }, kinds := [], alts := [], laidByText := true, laidKinds := [.data, .data, .data, .sentinel, .sentinel], laidTests := true, laidLooks := .later }
def LexerPrintsCardSaid : Prop := Claim7.holds Tryd.pinned (.plain (OpenSpec.ofChange lexerPrintsSpec)) lexerPrintsCard

/-- THE SECOND FORM's CARD OF 'regcertlaw26.LexerPrints'. -/
def lexerPrintsUptoCard : Claim7 := { stood := { row := lexerPrintsUptoRow, standIns := [], harness := (true, "b3befdf28fe36539407775e30cd863d2946eafe6a54e01ca5fd7e6c7ce5aa111"), looks := true }, kinds := [], alts := [], laidByText := true, laidKinds := [.data, .data, .data, .sentinel, .sentinel], laidTests := true, laidLooks := .later }
def LexerPrintsUptoCardSaid : Prop := Claim7.holds Tryd.pinned (.plain (OpenSpec.upto lexerPrintsSpec)) lexerPrintsUptoCard
end Rows
end Go.Proofs.YthpilhmfcbdeiaaDoor
