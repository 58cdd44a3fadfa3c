/-
  DERIVED. GIVEN WITH THE SEED: THE CARDS: each row of YtaakhjmfojoodaaGreatDoorRows.lean that lists a variable, with what it lists TIED to the program's text (the seventh form; the later family's looks); each row that meets fmt, with fmt's text TOLD by the authors' own Lean function (tested against real Go, not proved from fmt's source: count such statements apart). THE CARD IS WHAT COUNTS. Prove the row's statement (the work); the ties are given (YtaakhjmfojoodaaGreatDoorTie.lean); close each card by the builder's one call (the guide's Derived/Test/ToyasCard.lean, 'card_holds'). Laid BY PROGRAM, IN A SANDBOX (cutbox-door.mjs). By AI agents, Wed Nov 11 2026. No macro, syntax, notation, axiom, sorry.
-/
import Derived.Test.YtaakhjmfojoodaaGreatDoorRows
import GoSem.ClaimSeven
namespace Go.Proofs.YtaakhjmfojoodaaGreatDoor
namespace Rows

/-- THE TIED CARD OF 'foundrylaw16.RelocField'. -/
def relocFieldCard : Claim7 := { stood := { row := relocFieldRow, standIns := [], harness := (true, "b8bc29d6e52e8a263339bec90fc4da46fa49e886f0c34214e9d64c8f95cbea03"), looks := true }, kinds := [], alts := [], laidByText := true, laidKinds := [.data, .data, .data, .data, .sentinel, .sentinel, .listed, .data, .pinned, .pinned], laidTests := true, laidLooks := .later }
def RelocFieldCardSaid : Prop := Claim7.holds Tryz.pinned (.plain (OpenSpec.ofChange relocFieldSpec)) relocFieldCard

/-- THE SECOND FORM's CARD OF 'foundrylaw16.RelocField'. -/
def relocFieldUptoCard : Claim7 := { stood := { row := relocFieldUptoRow, standIns := [], harness := (true, "b8bc29d6e52e8a263339bec90fc4da46fa49e886f0c34214e9d64c8f95cbea03"), looks := true }, kinds := [], alts := [], laidByText := true, laidKinds := [.data, .data, .data, .data, .sentinel, .sentinel, .listed, .data, .pinned, .pinned], laidTests := true, laidLooks := .later }
def RelocFieldUptoCardSaid : Prop := Claim7.holds Tryz.pinned (.plain (OpenSpec.upto relocFieldSpec)) relocFieldUptoCard
end Rows
end Go.Proofs.YtaakhjmfojoodaaGreatDoor
