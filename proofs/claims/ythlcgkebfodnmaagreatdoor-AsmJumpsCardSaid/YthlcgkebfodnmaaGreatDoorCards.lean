/-
  DERIVED. GIVEN WITH THE SEED: THE CARDS: each row of YthlcgkebfodnmaaGreatDoorRows.lean that lists a variable, with what it lists TIED to the program's text (the seventh form; the later family's looks); each row that meets fmt, with fmt's text TOLD by the authors' own Lean function (tested against real Go, not proved from fmt's source: count such statements apart). THE CARD IS WHAT COUNTS. Prove the row's statement (the work); the ties are given (YthlcgkebfodnmaaGreatDoorTie.lean); close each card by the builder's one call (the guide's Derived/Test/ToyasCard.lean, 'card_holds'). Laid BY PROGRAM, IN A SANDBOX (cutbox-door.mjs). By AI agents, Wed Nov 11 2026. No macro, syntax, notation, axiom, sorry.
-/
import Derived.Test.YthlcgkebfodnmaaGreatDoorRows
import GoSem.ClaimSeven
namespace Go.Proofs.YthlcgkebfodnmaaGreatDoor
namespace Rows

/-- THE TIED CARD OF 'foundrylaw20.AsmAligns'. -/
def asmAlignsCard : Claim7 := { stood := { row := asmAlignsRow, standIns := [], harness := (true, "bbbe0ccf25bc67d76d0ae3f10610bd39a619f9b04a27dc6019a86914bf7f9553"), looks := true }, kinds := [], alts := [], laidByText := true, laidKinds := [.pinned, .data, .sentinel, .sentinel, .data, .data, .data, .data, .listed, .pinned], laidTests := true, laidLooks := .later }
def AsmAlignsCardSaid : Prop := Claim7.holds Tryz.pinned (.plain (OpenSpec.ofChange asmAlignsSpec)) asmAlignsCard

/-- THE TIED CARD OF 'foundrylaw20.AsmJumps'. -/
def asmJumpsCard : Claim7 := { stood := { row := asmJumpsRow, standIns := [], harness := (true, "bbbe0ccf25bc67d76d0ae3f10610bd39a619f9b04a27dc6019a86914bf7f9553"), looks := true }, kinds := [], alts := [], laidByText := true, laidKinds := [.pinned, .data, .sentinel, .sentinel, .data, .data, .data, .data, .listed, .pinned], laidTests := true, laidLooks := .later }
def AsmJumpsCardSaid : Prop := Claim7.holds Tryz.pinned (.plain (OpenSpec.ofChange asmJumpsSpec)) asmJumpsCard

/-- THE SECOND FORM's CARD OF 'foundrylaw20.AsmAligns'. -/
def asmAlignsUptoCard : Claim7 := { stood := { row := asmAlignsUptoRow, standIns := [], harness := (true, "bbbe0ccf25bc67d76d0ae3f10610bd39a619f9b04a27dc6019a86914bf7f9553"), looks := true }, kinds := [], alts := [], laidByText := true, laidKinds := [.pinned, .data, .sentinel, .sentinel, .data, .data, .data, .data, .listed, .pinned], laidTests := true, laidLooks := .later }
def AsmAlignsUptoCardSaid : Prop := Claim7.holds Tryz.pinned (.plain (OpenSpec.upto asmAlignsSpec)) asmAlignsUptoCard

/-- THE SECOND FORM's CARD OF 'foundrylaw20.AsmJumps'. -/
def asmJumpsUptoCard : Claim7 := { stood := { row := asmJumpsUptoRow, standIns := [], harness := (true, "bbbe0ccf25bc67d76d0ae3f10610bd39a619f9b04a27dc6019a86914bf7f9553"), looks := true }, kinds := [], alts := [], laidByText := true, laidKinds := [.pinned, .data, .sentinel, .sentinel, .data, .data, .data, .data, .listed, .pinned], laidTests := true, laidLooks := .later }
def AsmJumpsUptoCardSaid : Prop := Claim7.holds Tryz.pinned (.plain (OpenSpec.upto asmJumpsSpec)) asmJumpsUptoCard
end Rows
end Go.Proofs.YthlcgkebfodnmaaGreatDoor
