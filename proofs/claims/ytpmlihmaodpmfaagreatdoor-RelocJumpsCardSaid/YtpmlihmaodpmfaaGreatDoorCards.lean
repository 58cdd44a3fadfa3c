/-
  DERIVED. GIVEN WITH THE SEED: THE CARDS: each row of YtpmlihmaodpmfaaGreatDoorRows.lean that lists a variable, with what it lists TIED to the program's text (the seventh form; the later family's looks); each row that meets fmt, with fmt's text TOLD by the authors' own Lean function (tested against real Go, not proved from fmt's source: count such statements apart). THE CARD IS WHAT COUNTS. Prove the row's statement (the work); the ties are given (YtpmlihmaodpmfaaGreatDoorTie.lean); close each card by the builder's one call (the guide's Derived/Test/ToyasCard.lean, 'card_holds'). Laid BY PROGRAM, IN A SANDBOX (cutbox-door.mjs). By AI agents, Wed Nov 11 2026. No macro, syntax, notation, axiom, sorry.
-/
import Derived.Test.YtpmlihmaodpmfaaGreatDoorRows
import GoSem.ClaimSeven
namespace Go.Proofs.YtpmlihmaodpmfaaGreatDoor
namespace Rows

/-- THE TIED CARD OF 'foundrylaw16.RelocHalves'. -/
def relocHalvesCard : Claim7 := { stood := { row := relocHalvesRow, standIns := [], harness := (true, "319d16c685e50b970f4a4fde5f83039f712c13e6678771cf1f1d5ba62505299d"), looks := true }, kinds := [], alts := [], laidByText := true, laidKinds := [.data, .data, .data, .data, .sentinel, .sentinel, .listed, .data, .pinned, .pinned], laidTests := true, laidLooks := .later }
def RelocHalvesCardSaid : Prop := Claim7.holds Tryz.pinned (.plain (OpenSpec.ofChange relocHalvesSpec)) relocHalvesCard

/-- THE TIED CARD OF 'foundrylaw16.RelocJumps'. -/
def relocJumpsCard : Claim7 := { stood := { row := relocJumpsRow, standIns := [], harness := (true, "319d16c685e50b970f4a4fde5f83039f712c13e6678771cf1f1d5ba62505299d"), looks := true }, kinds := [], alts := [], laidByText := true, laidKinds := [.data, .data, .data, .data, .sentinel, .sentinel, .listed, .data, .pinned, .pinned], laidTests := true, laidLooks := .later }
def RelocJumpsCardSaid : Prop := Claim7.holds Tryz.pinned (.plain (OpenSpec.ofChange relocJumpsSpec)) relocJumpsCard

/-- THE SECOND FORM's CARD OF 'foundrylaw16.RelocHalves'. -/
def relocHalvesUptoCard : Claim7 := { stood := { row := relocHalvesUptoRow, standIns := [], harness := (true, "319d16c685e50b970f4a4fde5f83039f712c13e6678771cf1f1d5ba62505299d"), looks := true }, kinds := [], alts := [], laidByText := true, laidKinds := [.data, .data, .data, .data, .sentinel, .sentinel, .listed, .data, .pinned, .pinned], laidTests := true, laidLooks := .later }
def RelocHalvesUptoCardSaid : Prop := Claim7.holds Tryz.pinned (.plain (OpenSpec.upto relocHalvesSpec)) relocHalvesUptoCard

/-- THE SECOND FORM's CARD OF 'foundrylaw16.RelocJumps'. -/
def relocJumpsUptoCard : Claim7 := { stood := { row := relocJumpsUptoRow, standIns := [], harness := (true, "319d16c685e50b970f4a4fde5f83039f712c13e6678771cf1f1d5ba62505299d"), looks := true }, kinds := [], alts := [], laidByText := true, laidKinds := [.data, .data, .data, .data, .sentinel, .sentinel, .listed, .data, .pinned, .pinned], laidTests := true, laidLooks := .later }
def RelocJumpsUptoCardSaid : Prop := Claim7.holds Tryz.pinned (.plain (OpenSpec.upto relocJumpsSpec)) relocJumpsUptoCard
end Rows
end Go.Proofs.YtpmlihmaodpmfaaGreatDoor
