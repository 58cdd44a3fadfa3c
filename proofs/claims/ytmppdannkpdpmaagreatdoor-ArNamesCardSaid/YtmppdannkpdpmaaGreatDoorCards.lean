/-
  DERIVED. GIVEN WITH THE SEED: THE CARDS: each row of YtmppdannkpdpmaaGreatDoorRows.lean that lists a variable, with what it lists TIED to the program's text (the seventh form; the later family's looks); each row that meets fmt, with fmt's text TOLD by the authors' own Lean function (tested against real Go, not proved from fmt's source: count such statements apart). THE CARD IS WHAT COUNTS. Prove the row's statement (the work); the ties are given (YtmppdannkpdpmaaGreatDoorTie.lean); close each card by the builder's one call (the guide's Derived/Test/ToyasCard.lean, 'card_holds'). Laid BY PROGRAM, IN A SANDBOX (cutbox-door.mjs). By AI agents, Wed Nov 11 2026. No macro, syntax, notation, axiom, sorry.
-/
import Derived.Test.YtmppdannkpdpmaaGreatDoorRows
import GoSem.ClaimSeven
namespace Go.Proofs.YtmppdannkpdpmaaGreatDoor
namespace Rows

/-- THE TIED CARD OF 'foundrylaw7.ArWrites'. -/
def arWritesCard : Claim7 := { stood := { row := arWritesRow, standIns := [], harness := (true, "610d9cdabd3cb1dc055697ea2470dbac6a7a42b8a3377b76031d2817c8b858f5"), looks := true }, kinds := [], alts := [], laidByText := true, laidKinds := [.data, .data, .data, .data, .sentinel, .sentinel, .pinned], laidTests := true, laidLooks := .later }
def ArWritesCardSaid : Prop := Claim7.holds Tryz.pinned (.plain (OpenSpec.ofChange arWritesSpec)) arWritesCard

/-- THE TIED CARD OF 'foundrylaw7.ArReads'. -/
def arReadsCard : Claim7 := { stood := { row := arReadsRow, standIns := [], harness := (true, "610d9cdabd3cb1dc055697ea2470dbac6a7a42b8a3377b76031d2817c8b858f5"), looks := true }, kinds := [], alts := [], laidByText := true, laidKinds := [.data, .data, .data, .data, .sentinel, .sentinel, .pinned], laidTests := true, laidLooks := .later }
def ArReadsCardSaid : Prop := Claim7.holds Tryz.pinned (.plain (OpenSpec.ofChange arReadsSpec)) arReadsCard

/-- THE TIED CARD OF 'foundrylaw7.ArBack'. -/
def arBackCard : Claim7 := { stood := { row := arBackRow, standIns := [], harness := (true, "610d9cdabd3cb1dc055697ea2470dbac6a7a42b8a3377b76031d2817c8b858f5"), looks := true }, kinds := [], alts := [], laidByText := true, laidKinds := [.data, .data, .data, .data, .sentinel, .sentinel, .pinned], laidTests := true, laidLooks := .later }
def ArBackCardSaid : Prop := Claim7.holds Tryz.pinned (.plain (OpenSpec.ofChange arBackSpec)) arBackCard

/-- THE TIED CARD OF 'foundrylaw7.ArNames'. -/
def arNamesCard : Claim7 := { stood := { row := arNamesRow, standIns := [], harness := (true, "610d9cdabd3cb1dc055697ea2470dbac6a7a42b8a3377b76031d2817c8b858f5"), looks := true }, kinds := [], alts := [], laidByText := true, laidKinds := [.data, .data, .data, .data, .sentinel, .sentinel, .pinned], laidTests := true, laidLooks := .later }
def ArNamesCardSaid : Prop := Claim7.holds Tryz.pinned (.plain (OpenSpec.ofChange arNamesSpec)) arNamesCard

/-- THE SECOND FORM's CARD OF 'foundrylaw7.ArWrites'. -/
def arWritesUptoCard : Claim7 := { stood := { row := arWritesUptoRow, standIns := [], harness := (true, "610d9cdabd3cb1dc055697ea2470dbac6a7a42b8a3377b76031d2817c8b858f5"), looks := true }, kinds := [], alts := [], laidByText := true, laidKinds := [.data, .data, .data, .data, .sentinel, .sentinel, .pinned], laidTests := true, laidLooks := .later }
def ArWritesUptoCardSaid : Prop := Claim7.holds Tryz.pinned (.plain (OpenSpec.upto arWritesSpec)) arWritesUptoCard

/-- THE SECOND FORM's CARD OF 'foundrylaw7.ArReads'. -/
def arReadsUptoCard : Claim7 := { stood := { row := arReadsUptoRow, standIns := [], harness := (true, "610d9cdabd3cb1dc055697ea2470dbac6a7a42b8a3377b76031d2817c8b858f5"), looks := true }, kinds := [], alts := [], laidByText := true, laidKinds := [.data, .data, .data, .data, .sentinel, .sentinel, .pinned], laidTests := true, laidLooks := .later }
def ArReadsUptoCardSaid : Prop := Claim7.holds Tryz.pinned (.plain (OpenSpec.upto arReadsSpec)) arReadsUptoCard

/-- THE SECOND FORM's CARD OF 'foundrylaw7.ArBack'. -/
def arBackUptoCard : Claim7 := { stood := { row := arBackUptoRow, standIns := [], harness := (true, "610d9cdabd3cb1dc055697ea2470dbac6a7a42b8a3377b76031d2817c8b858f5"), looks := true }, kinds := [], alts := [], laidByText := true, laidKinds := [.data, .data, .data, .data, .sentinel, .sentinel, .pinned], laidTests := true, laidLooks := .later }
def ArBackUptoCardSaid : Prop := Claim7.holds Tryz.pinned (.plain (OpenSpec.upto arBackSpec)) arBackUptoCard

/-- THE SECOND FORM's CARD OF 'foundrylaw7.ArNames'. -/
def arNamesUptoCard : Claim7 := { stood := { row := arNamesUptoRow, standIns := [], harness := (true, "610d9cdabd3cb1dc055697ea2470dbac6a7a42b8a3377b76031d2817c8b858f5"), looks := true }, kinds := [], alts := [], laidByText := true, laidKinds := [.data, .data, .data, .data, .sentinel, .sentinel, .pinned], laidTests := true, laidLooks := .later }
def ArNamesUptoCardSaid : Prop := Claim7.holds Tryz.pinned (.plain (OpenSpec.upto arNamesSpec)) arNamesUptoCard
end Rows
end Go.Proofs.YtmppdannkpdpmaaGreatDoor
