/-
  DERIVED. GIVEN WITH THE SEED: THE CARDS: each row of YtopjbfgikglncaaGreatDoorRows.lean that lists a variable, with what it lists TIED to the program's text (the seventh form; the later family's looks); each row that meets fmt, with fmt's text TOLD by the authors' own Lean function (tested against real Go, not proved from fmt's source: count such statements apart). THE CARD IS WHAT COUNTS. Prove the row's statement (the work); the ties are given (YtopjbfgikglncaaGreatDoorTie.lean); close each card by the builder's one call (the guide's Derived/Test/ToyasCard.lean, 'card_holds'). Laid BY PROGRAM, IN A SANDBOX (cutbox-door.mjs). By AI agents, Wed Nov 11 2026. No macro, syntax, notation, axiom, sorry.
-/
import Derived.Test.YtopjbfgikglncaaGreatDoorRows
import GoSem.ClaimSeven
namespace Go.Proofs.YtopjbfgikglncaaGreatDoor
namespace Rows

/-- THE TIED CARD OF 'foundrylaw13.IsaNames'. -/
def isaNamesCard : Claim7 := { stood := { row := isaNamesRow, standIns := [], harness := (true, "404a8b3b94c354d5650c71b0f30d4eab8c6ef82fac7a6ef25fa257d29cde1bb5"), looks := true }, kinds := [], alts := [], laidByText := true, laidKinds := [.data, .data, .data, .data, .sentinel, .sentinel, .listed, .data, .pinned, .pinned], laidTests := true, laidLooks := .later }
def IsaNamesCardSaid : Prop := Claim7.holds Tryz.pinned (.plain (OpenSpec.ofChange isaNamesSpec)) isaNamesCard

/-- THE SECOND FORM's CARD OF 'foundrylaw13.IsaNames'. -/
def isaNamesUptoCard : Claim7 := { stood := { row := isaNamesUptoRow, standIns := [], harness := (true, "404a8b3b94c354d5650c71b0f30d4eab8c6ef82fac7a6ef25fa257d29cde1bb5"), looks := true }, kinds := [], alts := [], laidByText := true, laidKinds := [.data, .data, .data, .data, .sentinel, .sentinel, .listed, .data, .pinned, .pinned], laidTests := true, laidLooks := .later }
def IsaNamesUptoCardSaid : Prop := Claim7.holds Tryz.pinned (.plain (OpenSpec.upto isaNamesSpec)) isaNamesUptoCard
end Rows
end Go.Proofs.YtopjbfgikglncaaGreatDoor
