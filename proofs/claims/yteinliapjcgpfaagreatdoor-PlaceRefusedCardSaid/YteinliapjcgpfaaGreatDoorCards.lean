/-
  DERIVED. GIVEN WITH THE SEED: THE CARDS: each row of YteinliapjcgpfaaGreatDoorRows.lean that lists a variable, with what it lists TIED to the program's text (the seventh form; the later family's looks); each row that meets fmt, with fmt's text TOLD by the authors' own Lean function (tested against real Go, not proved from fmt's source: count such statements apart). THE CARD IS WHAT COUNTS. Prove the row's statement (the work); the ties are given (YteinliapjcgpfaaGreatDoorTie.lean); close each card by the builder's one call (the guide's Derived/Test/ToyasCard.lean, 'card_holds'). Laid BY PROGRAM, IN A SANDBOX (cutbox-door.mjs). By AI agents, Wed Nov 11 2026. No macro, syntax, notation, axiom, sorry.
-/
import Derived.Test.YteinliapjcgpfaaGreatDoorRows
import GoSem.ClaimSeven
namespace Go.Proofs.YteinliapjcgpfaaGreatDoor
namespace Rows

/-- THE TIED CARD OF 'foundrylaw23.PlaceGlobs'. -/
def placeGlobsCard : Claim7 := { stood := { row := placeGlobsRow, standIns := [], harness := (true, "a07438bd1227c8c2815f3bb8798712467aae7b159cd28c08ca0c2098d06c2369"), looks := true }, kinds := [], alts := [], laidByText := true, laidKinds := [.data, .data, .data, .sentinel, .sentinel], laidTests := true, laidLooks := .later }
def PlaceGlobsCardSaid : Prop := Claim7.holds Tryz.pinned (.plain (OpenSpec.ofChange placeGlobsSpec)) placeGlobsCard

/-- THE TIED CARD OF 'foundrylaw23.PlaceRefused'. -/
def placeRefusedCard : Claim7 := { stood := { row := placeRefusedRow, standIns := [], harness := (true, "a07438bd1227c8c2815f3bb8798712467aae7b159cd28c08ca0c2098d06c2369"), looks := true }, kinds := [], alts := [], laidByText := true, laidKinds := [.data, .data, .data, .sentinel, .sentinel], laidTests := true, laidLooks := .later }
def PlaceRefusedCardSaid : Prop := Claim7.holds Tryz.pinned (.plain (OpenSpec.ofChange placeRefusedSpec)) placeRefusedCard

/-- THE SECOND FORM's CARD OF 'foundrylaw23.PlaceGlobs'. -/
def placeGlobsUptoCard : Claim7 := { stood := { row := placeGlobsUptoRow, standIns := [], harness := (true, "a07438bd1227c8c2815f3bb8798712467aae7b159cd28c08ca0c2098d06c2369"), looks := true }, kinds := [], alts := [], laidByText := true, laidKinds := [.data, .data, .data, .sentinel, .sentinel], laidTests := true, laidLooks := .later }
def PlaceGlobsUptoCardSaid : Prop := Claim7.holds Tryz.pinned (.plain (OpenSpec.upto placeGlobsSpec)) placeGlobsUptoCard

/-- THE SECOND FORM's CARD OF 'foundrylaw23.PlaceRefused'. -/
def placeRefusedUptoCard : Claim7 := { stood := { row := placeRefusedUptoRow, standIns := [], harness := (true, "a07438bd1227c8c2815f3bb8798712467aae7b159cd28c08ca0c2098d06c2369"), looks := true }, kinds := [], alts := [], laidByText := true, laidKinds := [.data, .data, .data, .sentinel, .sentinel], laidTests := true, laidLooks := .later }
def PlaceRefusedUptoCardSaid : Prop := Claim7.holds Tryz.pinned (.plain (OpenSpec.upto placeRefusedSpec)) placeRefusedUptoCard
end Rows
end Go.Proofs.YteinliapjcgpfaaGreatDoor
