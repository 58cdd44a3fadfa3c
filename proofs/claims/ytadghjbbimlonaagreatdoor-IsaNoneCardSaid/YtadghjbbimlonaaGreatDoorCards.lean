/-
  DERIVED. GIVEN WITH THE SEED: THE CARDS: each row of YtadghjbbimlonaaGreatDoorRows.lean that lists a variable, with what it lists TIED to the program's text (the seventh form; the later family's looks); each row that meets fmt, with fmt's text TOLD by the authors' own Lean function (tested against real Go, not proved from fmt's source: count such statements apart). THE CARD IS WHAT COUNTS. Prove the row's statement (the work); the ties are given (YtadghjbbimlonaaGreatDoorTie.lean); close each card by the builder's one call (the guide's Derived/Test/ToyasCard.lean, 'card_holds'). Laid BY PROGRAM, IN A SANDBOX (cutbox-door.mjs). By AI agents, Wed Nov 11 2026. No macro, syntax, notation, axiom, sorry.
-/
import Derived.Test.YtadghjbbimlonaaGreatDoorRows
import GoSem.ClaimSeven
namespace Go.Proofs.YtadghjbbimlonaaGreatDoor
namespace Rows

/-- THE TIED CARD OF 'foundrylaw13.IsaAll'. -/
def isaAllCard : Claim7 := { stood := { row := isaAllRow, standIns := [], harness := (true, "a4e7c76d04ff8951951d544189fde6eab71803d54ab699d82d4318333b8e0e40"), looks := true }, kinds := [], alts := [], laidByText := true, laidKinds := [.data, .data, .data, .data, .sentinel, .sentinel, .listed, .data, .pinned, .pinned], laidTests := true, laidLooks := .later }
def IsaAllCardSaid : Prop := Claim7.holds Tryz.pinned (.plain (OpenSpec.ofChange isaAllSpec)) isaAllCard

/-- THE TIED CARD OF 'foundrylaw13.IsaNames'. -/
def isaNamesCard : Claim7 := { stood := { row := isaNamesRow, standIns := [], harness := (true, "a4e7c76d04ff8951951d544189fde6eab71803d54ab699d82d4318333b8e0e40"), looks := true }, kinds := [], alts := [], laidByText := true, laidKinds := [.data, .data, .data, .data, .sentinel, .sentinel, .listed, .data, .pinned, .pinned], laidTests := true, laidLooks := .later }
def IsaNamesCardSaid : Prop := Claim7.holds Tryz.pinned (.plain (OpenSpec.ofChange isaNamesSpec)) isaNamesCard

/-- THE TIED CARD OF 'foundrylaw13.IsaWalk'. -/
def isaWalkCard : Claim7 := { stood := { row := isaWalkRow, standIns := [], harness := (true, "a4e7c76d04ff8951951d544189fde6eab71803d54ab699d82d4318333b8e0e40"), looks := true }, kinds := [], alts := [], laidByText := true, laidKinds := [.data, .data, .data, .data, .sentinel, .sentinel, .listed, .data, .pinned, .pinned], laidTests := true, laidLooks := .later }
def IsaWalkCardSaid : Prop := Claim7.holds Tryz.pinned (.plain (OpenSpec.ofChange isaWalkSpec)) isaWalkCard

/-- THE TIED CARD OF 'foundrylaw13.IsaTexts'. -/
def isaTextsCard : Claim7 := { stood := { row := isaTextsRow, standIns := [], harness := (true, "a4e7c76d04ff8951951d544189fde6eab71803d54ab699d82d4318333b8e0e40"), looks := true }, kinds := [], alts := [], laidByText := true, laidKinds := [.data, .data, .data, .data, .sentinel, .sentinel, .listed, .data, .pinned, .pinned], laidTests := true, laidLooks := .later }
def IsaTextsCardSaid : Prop := Claim7.holds Tryz.pinned (.plain (OpenSpec.ofChange isaTextsSpec)) isaTextsCard

/-- THE TIED CARD OF 'foundrylaw13.IsaNone'. -/
def isaNoneCard : Claim7 := { stood := { row := isaNoneRow, standIns := [], harness := (true, "a4e7c76d04ff8951951d544189fde6eab71803d54ab699d82d4318333b8e0e40"), looks := true }, kinds := [], alts := [], laidByText := true, laidKinds := [.data, .data, .data, .data, .sentinel, .sentinel, .listed, .data, .pinned, .pinned], laidTests := true, laidLooks := .later }
def IsaNoneCardSaid : Prop := Claim7.holds Tryz.pinned (.plain (OpenSpec.ofChange isaNoneSpec)) isaNoneCard

/-- THE SECOND FORM's CARD OF 'foundrylaw13.IsaAll'. -/
def isaAllUptoCard : Claim7 := { stood := { row := isaAllUptoRow, standIns := [], harness := (true, "a4e7c76d04ff8951951d544189fde6eab71803d54ab699d82d4318333b8e0e40"), looks := true }, kinds := [], alts := [], laidByText := true, laidKinds := [.data, .data, .data, .data, .sentinel, .sentinel, .listed, .data, .pinned, .pinned], laidTests := true, laidLooks := .later }
def IsaAllUptoCardSaid : Prop := Claim7.holds Tryz.pinned (.plain (OpenSpec.upto isaAllSpec)) isaAllUptoCard

/-- THE SECOND FORM's CARD OF 'foundrylaw13.IsaNames'. -/
def isaNamesUptoCard : Claim7 := { stood := { row := isaNamesUptoRow, standIns := [], harness := (true, "a4e7c76d04ff8951951d544189fde6eab71803d54ab699d82d4318333b8e0e40"), looks := true }, kinds := [], alts := [], laidByText := true, laidKinds := [.data, .data, .data, .data, .sentinel, .sentinel, .listed, .data, .pinned, .pinned], laidTests := true, laidLooks := .later }
def IsaNamesUptoCardSaid : Prop := Claim7.holds Tryz.pinned (.plain (OpenSpec.upto isaNamesSpec)) isaNamesUptoCard

/-- THE SECOND FORM's CARD OF 'foundrylaw13.IsaWalk'. -/
def isaWalkUptoCard : Claim7 := { stood := { row := isaWalkUptoRow, standIns := [], harness := (true, "a4e7c76d04ff8951951d544189fde6eab71803d54ab699d82d4318333b8e0e40"), looks := true }, kinds := [], alts := [], laidByText := true, laidKinds := [.data, .data, .data, .data, .sentinel, .sentinel, .listed, .data, .pinned, .pinned], laidTests := true, laidLooks := .later }
def IsaWalkUptoCardSaid : Prop := Claim7.holds Tryz.pinned (.plain (OpenSpec.upto isaWalkSpec)) isaWalkUptoCard

/-- THE SECOND FORM's CARD OF 'foundrylaw13.IsaTexts'. -/
def isaTextsUptoCard : Claim7 := { stood := { row := isaTextsUptoRow, standIns := [], harness := (true, "a4e7c76d04ff8951951d544189fde6eab71803d54ab699d82d4318333b8e0e40"), looks := true }, kinds := [], alts := [], laidByText := true, laidKinds := [.data, .data, .data, .data, .sentinel, .sentinel, .listed, .data, .pinned, .pinned], laidTests := true, laidLooks := .later }
def IsaTextsUptoCardSaid : Prop := Claim7.holds Tryz.pinned (.plain (OpenSpec.upto isaTextsSpec)) isaTextsUptoCard

/-- THE SECOND FORM's CARD OF 'foundrylaw13.IsaNone'. -/
def isaNoneUptoCard : Claim7 := { stood := { row := isaNoneUptoRow, standIns := [], harness := (true, "a4e7c76d04ff8951951d544189fde6eab71803d54ab699d82d4318333b8e0e40"), looks := true }, kinds := [], alts := [], laidByText := true, laidKinds := [.data, .data, .data, .data, .sentinel, .sentinel, .listed, .data, .pinned, .pinned], laidTests := true, laidLooks := .later }
def IsaNoneUptoCardSaid : Prop := Claim7.holds Tryz.pinned (.plain (OpenSpec.upto isaNoneSpec)) isaNoneUptoCard
end Rows
end Go.Proofs.YtadghjbbimlonaaGreatDoor
