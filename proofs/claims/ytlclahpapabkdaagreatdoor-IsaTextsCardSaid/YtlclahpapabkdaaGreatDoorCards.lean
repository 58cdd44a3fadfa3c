/-
  DERIVED. GIVEN WITH THE SEED: THE CARDS: each row of YtlclahpapabkdaaGreatDoorRows.lean that lists a variable, with what it lists TIED to the program's text (the seventh form; the later family's looks); each row that meets fmt, with fmt's text TOLD by the authors' own Lean function (tested against real Go, not proved from fmt's source: count such statements apart). THE CARD IS WHAT COUNTS. Prove the row's statement (the work); the ties are given (YtlclahpapabkdaaGreatDoorTie.lean); close each card by the builder's one call (the guide's Derived/Test/ToyasCard.lean, 'card_holds'). Laid BY PROGRAM, IN A SANDBOX (cutbox-door.mjs). By AI agents, Wed Nov 11 2026. No macro, syntax, notation, axiom, sorry.
-/
import Derived.Test.YtlclahpapabkdaaGreatDoorRows
import GoSem.ClaimSeven
namespace Go.Proofs.YtlclahpapabkdaaGreatDoor
namespace Rows

/-- THE TIED CARD OF 'foundrylaw13.IsaTexts'. -/
def isaTextsCard : Claim7 := { stood := { row := isaTextsRow, standIns := [], harness := (true, "b5c87d300a4b61618568e5fbbe4c677db5fff3430a72ab6d1369ada07e0e0f2f"), looks := true }, kinds := [], alts := [], laidByText := true, laidKinds := [.data, .data, .data, .data, .sentinel, .sentinel, .listed, .data, .pinned, .pinned], laidTests := true, laidLooks := .later }
def IsaTextsCardSaid : Prop := Claim7.holds Tryz.pinned (.plain (OpenSpec.ofChange isaTextsSpec)) isaTextsCard

/-- THE SECOND FORM's CARD OF 'foundrylaw13.IsaTexts'. -/
def isaTextsUptoCard : Claim7 := { stood := { row := isaTextsUptoRow, standIns := [], harness := (true, "b5c87d300a4b61618568e5fbbe4c677db5fff3430a72ab6d1369ada07e0e0f2f"), looks := true }, kinds := [], alts := [], laidByText := true, laidKinds := [.data, .data, .data, .data, .sentinel, .sentinel, .listed, .data, .pinned, .pinned], laidTests := true, laidLooks := .later }
def IsaTextsUptoCardSaid : Prop := Claim7.holds Tryz.pinned (.plain (OpenSpec.upto isaTextsSpec)) isaTextsUptoCard
end Rows
end Go.Proofs.YtlclahpapabkdaaGreatDoor
