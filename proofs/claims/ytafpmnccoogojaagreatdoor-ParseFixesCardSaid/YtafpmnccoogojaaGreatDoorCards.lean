/-
  DERIVED. GIVEN WITH THE SEED: THE CARDS: each row of YtafpmnccoogojaaGreatDoorRows.lean that lists a variable, with what it lists TIED to the program's text (the seventh form; the later family's looks); each row that meets fmt, with fmt's text TOLD by the authors' own Lean function (tested against real Go, not proved from fmt's source: count such statements apart). THE CARD IS WHAT COUNTS. Prove the row's statement (the work); the ties are given (YtafpmnccoogojaaGreatDoorTie.lean); close each card by the builder's one call (the guide's Derived/Test/ToyasCard.lean, 'card_holds'). Laid BY PROGRAM, IN A SANDBOX (cutbox-door.mjs). By AI agents, Wed Nov 11 2026. No macro, syntax, notation, axiom, sorry.
-/
import Derived.Test.YtafpmnccoogojaaGreatDoorRows
import GoSem.ClaimSeven
namespace Go.Proofs.YtafpmnccoogojaaGreatDoor
namespace Rows

/-- THE TIED CARD OF 'foundrylaw15.ParseFixes'. -/
def parseFixesCard : Claim7 := { stood := { row := parseFixesRow, standIns := [], harness := (true, "6cf0ec771570222d31c5a9505fceb19c76c01dc89cb308ad50541262d99dcfb1"), looks := true }, kinds := [], alts := [], laidByText := true, laidKinds := [.data, .data, .data, .data, .sentinel, .sentinel, .listed, .data, .pinned, .pinned], laidTests := true, laidLooks := .later }
def ParseFixesCardSaid : Prop := Claim7.holds Tryz.pinned (.plain (OpenSpec.ofChange parseFixesSpec)) parseFixesCard

/-- THE SECOND FORM's CARD OF 'foundrylaw15.ParseFixes'. -/
def parseFixesUptoCard : Claim7 := { stood := { row := parseFixesUptoRow, standIns := [], harness := (true, "6cf0ec771570222d31c5a9505fceb19c76c01dc89cb308ad50541262d99dcfb1"), looks := true }, kinds := [], alts := [], laidByText := true, laidKinds := [.data, .data, .data, .data, .sentinel, .sentinel, .listed, .data, .pinned, .pinned], laidTests := true, laidLooks := .later }
def ParseFixesUptoCardSaid : Prop := Claim7.holds Tryz.pinned (.plain (OpenSpec.upto parseFixesSpec)) parseFixesUptoCard
end Rows
end Go.Proofs.YtafpmnccoogojaaGreatDoor
