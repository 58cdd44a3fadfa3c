/- PROVED: foundrylaw14.LexLines answers true, whatever the input. Conditions: those of the given card alone (the listed package-level variables read as the program's text lays them). -/
import Derived.Test.YtdpkmhnpbbapcaaDoorLexLines
import Derived.Test.YtdpkmhnpbbapcaaDoorLexLinesFacts
import Derived.Test.YtdpkmhnpbbapcaaDoorTie
import Derived.Test.YtdpkmhnpbbapcaaDoorCards
import Derived.ProofKit
import Derived.SevenTiedAt
namespace Go.Proofs.YtdpkmhnpbbapcaaDoor
open Go
theorem lexLines_holds : Rows.LexLinesSaid :=
  OpenClaim.holds_of_wide 3 Tryd.f3 rfl rfl rfl rfl rfl rfl rfl ⟨rfl, rfl, rfl, rfl, rfl⟩ rfl rfl rfl rfl rfl (by kernel_rfl) Tryd.func3 (LexLinesFacts.joined LexLinesFacts.lexLines0 LexLinesFacts.lexLines1 LexLinesFacts.lexLines2 LexLinesFacts.lexLines3 LexLinesFacts.lexLines4 LexLinesFacts.lexLines5 LexLinesFacts.lexLines6 LexLinesFacts.lexLines7 LexLinesFacts.lexLines8 LexLinesFacts.lexLines9 LexLinesFacts.lexLines10 LexLinesFacts.lexLines11 LexLinesFacts.lexLines12 LexLinesFacts.lexLines13 LexLinesFacts.lexLines14 LexLinesFacts.lexLines15 LexLinesFacts.lexLines16 LexLinesFacts.lexLines17 LexLinesFacts.lexLines18 LexLinesFacts.lexLines19 LexLinesFacts.lexLines20 LexLinesFacts.lexLines21 LexLinesFacts.lexLines22 LexLinesFacts.lexLines23 LexLinesFacts.lexLines24 LexLinesFacts.lexLines25 LexLinesFacts.lexLines26 LexLinesFacts.lexLines27 LexLinesFacts.lexLines28 LexLinesFacts.lexLines29 LexLinesFacts.lexLines30 LexLinesFacts.lexLines31)
    (of_decide_eq_true (by kernel_rfl)) (by unfold Func.isWrapper; first | (rw [if_pos (by decide +kernel)]; kernel_rfl) | (rw [if_neg (by decide +kernel)]; exact ⟨rfl, rfl⟩))
    (fun os started H enc _ => Zyi os started H enc)
theorem lexLines_wf : Rows.lexLinesRow.wfByText (OpenSpec.ofChange Rows.lexLinesSpec) = true := by kernel_rfl
theorem lexLines_main : Tryd.pinned.checked.prog.mainIs = some (true, "644ef95fedd0e588b0e537822045dc2893e6cebef73b6bd9a27b6f8846e325a3".toList) := by kernel_rfl
theorem lexLines_named : Tryd.prog.funcNamed "foundry/foundrylaw14.LexLines" = some 3 := by kernel_rfl
theorem lexLines_looks : true = Tryd.pinned.checked.prog.looks [] := by kernel_rfl
theorem lexLines_stand : ([9].all fun u => !Tryd.prog.wantsStandIn u) = true := by kernel_rfl
theorem lexLines_goes : false = Rows.lexLinesRow.goesBy Tryd.pinned.checked.prog := by kernel_rfl
theorem lexLines_card : Rows.LexLinesCardSaid :=
  Claim7.holds_tied_plain_at .later [] [.data, .data, .data, .data, .sentinel, .sentinel, .pinned] true (true, "644ef95fedd0e588b0e537822045dc2893e6cebef73b6bd9a27b6f8846e325a3") true
    lexLines_holds (fun _ h => by cases h) lexLines_wf (fun _ h => by cases h) lexLines_row_tie rfl ⟨rfl, rfl⟩ lexLines_main rfl
    (fun f fn hf hfn => by
      obtain rfl : f = 3 := Option.some.inj (lexLines_named.symm.trans hf) |>.symm
      obtain rfl : fn = Tryd.f3 := (Option.some.inj (Tryd.func3.symm.trans hfn)).symm
      exact ⟨lexLines_looks, fun j t ht => by
        rw [Tryd.params3] at ht
        have hm : t ∈ [9] := by simpa using Array.mem_of_getElem? ht
        exact (show Tryd.prog.wantsStandIn t = false by simpa using List.all_eq_true.1 lexLines_stand t hm)⟩)
    lexLines_goes
end Go.Proofs.YtdpkmhnpbbapcaaDoor
