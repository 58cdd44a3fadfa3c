/-
  DERIVED. GIVEN WITH THE SEED: THE CARDS: each row of YtbfdooplkdofeaaGreatDoorRows.lean that lists a variable, with what it lists TIED to the program's text (the seventh form; the later family's looks); each row that meets fmt, with fmt's text TOLD by the authors' own Lean function (tested against real Go, not proved from fmt's source: count such statements apart). THE CARD IS WHAT COUNTS. Prove the row's statement (the work); the ties are given (YtbfdooplkdofeaaGreatDoorTie.lean); close each card by the builder's one call (the guide's Derived/Test/ToyasCard.lean, 'card_holds'). Laid BY PROGRAM, IN A SANDBOX (cutbox-door.mjs). By AI agents, Wed Nov 11 2026. No macro, syntax, notation, axiom, sorry.
-/
import Derived.Test.YtbfdooplkdofeaaGreatDoorRows
import GoSem.ClaimSeven
namespace Go.Proofs.YtbfdooplkdofeaaGreatDoor
namespace Rows

/-- THE TIED CARD OF 'foundrylaw16.RelocAsks'. -/
def relocAsksCard : Claim7 := { stood := { row := relocAsksRow, standIns := [], harness := (true, "a25289f0ca8e29adfcc6b228760555f8335217205b7fea9ec2cb661e4a80fbb7"), looks := true }, kinds := [], alts := [], laidByText := true, laidKinds := [.data, .data, .data, .data, .sentinel, .sentinel, .listed, .data, .pinned, .pinned], laidTests := true, laidLooks := .later }
def RelocAsksCardSaid : Prop := Claim7.holds Tryz.pinned (.plain (OpenSpec.ofChange relocAsksSpec)) relocAsksCard

/-- THE SECOND FORM's CARD OF 'foundrylaw16.RelocAsks'. -/
def relocAsksUptoCard : Claim7 := { stood := { row := relocAsksUptoRow, standIns := [], harness := (true, "a25289f0ca8e29adfcc6b228760555f8335217205b7fea9ec2cb661e4a80fbb7"), looks := true }, kinds := [], alts := [], laidByText := true, laidKinds := [.data, .data, .data, .data, .sentinel, .sentinel, .listed, .data, .pinned, .pinned], laidTests := true, laidLooks := .later }
def RelocAsksUptoCardSaid : Prop := Claim7.holds Tryz.pinned (.plain (OpenSpec.upto relocAsksSpec)) relocAsksUptoCard
end Rows
end Go.Proofs.YtbfdooplkdofeaaGreatDoor
