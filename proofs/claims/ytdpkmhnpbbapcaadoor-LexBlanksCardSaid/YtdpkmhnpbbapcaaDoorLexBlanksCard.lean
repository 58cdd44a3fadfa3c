/- PROVED: 'foundrylaw14.LexBlanks' answers true, whatever the input, and leaves its input as it was. Conditions: those of the given card alone (the listed package-level variables read as the program's text lays them). -/
import Derived.Test.YtdpkmhnpbbapcaaDoorLexBlanks
import Derived.Test.YtdpkmhnpbbapcaaDoorLexBlanksFacts
import Derived.Test.YtdpkmhnpbbapcaaDoorTie
import Derived.Test.YtdpkmhnpbbapcaaDoorCards
import Derived.ProofKit
import Derived.SevenTiedAt
namespace Go.Proofs.YtdpkmhnpbbapcaaDoor
open Go
theorem lexBlanks_holds : Rows.LexBlanksSaid :=
  OpenClaim.holds_of_wide 4 Tryd.f4 rfl rfl rfl rfl rfl rfl rfl ⟨rfl, rfl, rfl, rfl, rfl⟩ rfl rfl rfl rfl rfl (by kernel_rfl) Tryd.func4 (LexBlanksFacts.joined LexBlanksFacts.lexBlanks0 LexBlanksFacts.lexBlanks1 LexBlanksFacts.lexBlanks2 LexBlanksFacts.lexBlanks3 LexBlanksFacts.lexBlanks4 LexBlanksFacts.lexBlanks5 LexBlanksFacts.lexBlanks6 LexBlanksFacts.lexBlanks7 LexBlanksFacts.lexBlanks8 LexBlanksFacts.lexBlanks9 LexBlanksFacts.lexBlanks10 LexBlanksFacts.lexBlanks11 LexBlanksFacts.lexBlanks12 LexBlanksFacts.lexBlanks13 LexBlanksFacts.lexBlanks14 LexBlanksFacts.lexBlanks15 LexBlanksFacts.lexBlanks16 LexBlanksFacts.lexBlanks17 LexBlanksFacts.lexBlanks18 LexBlanksFacts.lexBlanks19 LexBlanksFacts.lexBlanks20 LexBlanksFacts.lexBlanks21 LexBlanksFacts.lexBlanks22 LexBlanksFacts.lexBlanks23 LexBlanksFacts.lexBlanks24 LexBlanksFacts.lexBlanks25 LexBlanksFacts.lexBlanks26 LexBlanksFacts.lexBlanks27 LexBlanksFacts.lexBlanks28 LexBlanksFacts.lexBlanks29 LexBlanksFacts.lexBlanks30 LexBlanksFacts.lexBlanks31)
    (of_decide_eq_true (by kernel_rfl)) (by unfold Func.isWrapper; first | (rw [if_pos (by decide +kernel)]; kernel_rfl) | (rw [if_neg (by decide +kernel)]; exact ⟨rfl, rfl⟩))
    (fun os started H enc _ => lexBlanks_lifted os started H enc)
theorem lexBlanks_wf : Rows.lexBlanksRow.wfByText (OpenSpec.ofChange Rows.lexBlanksSpec) = true := by kernel_rfl
theorem lexBlanks_main : Tryd.pinned.checked.prog.mainIs = some (true, "644ef95fedd0e588b0e537822045dc2893e6cebef73b6bd9a27b6f8846e325a3".toList) := by kernel_rfl
theorem lexBlanks_named : Tryd.prog.funcNamed "foundry/foundrylaw14.LexBlanks" = some 4 := by kernel_rfl
theorem lexBlanks_looks : true = Tryd.pinned.checked.prog.looks [] := by kernel_rfl
theorem lexBlanks_stand : ([9, 9].all fun u => !Tryd.prog.wantsStandIn u) = true := by kernel_rfl
theorem lexBlanks_goes : false = Rows.lexBlanksRow.goesBy Tryd.pinned.checked.prog := by kernel_rfl
theorem lexBlanks_card : Rows.LexBlanksCardSaid :=
  Claim7.holds_tied_plain_at .later [] [.data, .data, .data, .data, .sentinel, .sentinel, .pinned] true (true, "644ef95fedd0e588b0e537822045dc2893e6cebef73b6bd9a27b6f8846e325a3") true
    lexBlanks_holds (fun _ h => by cases h) lexBlanks_wf (fun _ h => by cases h) lexBlanks_row_tie rfl ⟨rfl, rfl⟩ lexBlanks_main rfl
    (fun f fn hf hfn => by
      obtain rfl : f = 4 := Option.some.inj (lexBlanks_named.symm.trans hf) |>.symm
      obtain rfl : fn = Tryd.f4 := (Option.some.inj (Tryd.func4.symm.trans hfn)).symm
      exact ⟨lexBlanks_looks, fun j t ht => by
        rw [Tryd.params4] at ht
        have hm : t ∈ [9, 9] := by simpa using Array.mem_of_getElem? ht
        exact (show Tryd.prog.wantsStandIn t = false by simpa using List.all_eq_true.1 lexBlanks_stand t hm)⟩)
    lexBlanks_goes
end Go.Proofs.YtdpkmhnpbbapcaaDoor
