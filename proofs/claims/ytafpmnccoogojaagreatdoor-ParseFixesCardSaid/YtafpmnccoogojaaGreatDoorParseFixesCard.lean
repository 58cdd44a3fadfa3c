/- PROVED: 'foundrylaw15.ParseFixes' answers true, whatever the input, and leaves its input as it was. Conditions: those of the given card alone (the listed package-level variables read as the program's text lays them). -/
import Derived.Test.YtafpmnccoogojaaGreatDoorParseFixes
import Derived.Test.YtafpmnccoogojaaGreatDoorParseFixesFacts
import Derived.Test.YtafpmnccoogojaaGreatDoorTie
import Derived.Test.YtafpmnccoogojaaGreatDoorCards
import Derived.ProofKit
import Derived.SevenTiedAt
namespace Go.Proofs.YtafpmnccoogojaaGreatDoor
open Go
theorem parseFixes_holds : Rows.ParseFixesSaid :=
  OpenClaim.holds_of_wide 3 Tryz.f3 rfl rfl rfl rfl rfl rfl rfl ⟨rfl, rfl, rfl, rfl, rfl⟩ rfl rfl rfl rfl rfl (by kernel_rfl) Tryz.func3 (ParseFixesFacts.joined ParseFixesFacts.parseFixes0 ParseFixesFacts.parseFixes1 ParseFixesFacts.parseFixes2 ParseFixesFacts.parseFixes3 ParseFixesFacts.parseFixes4 ParseFixesFacts.parseFixes5 ParseFixesFacts.parseFixes6 ParseFixesFacts.parseFixes7 ParseFixesFacts.parseFixes8 ParseFixesFacts.parseFixes9 ParseFixesFacts.parseFixes10 ParseFixesFacts.parseFixes11 ParseFixesFacts.parseFixes12 ParseFixesFacts.parseFixes13 ParseFixesFacts.parseFixes14 ParseFixesFacts.parseFixes15 ParseFixesFacts.parseFixes16 ParseFixesFacts.parseFixes17 ParseFixesFacts.parseFixes18 ParseFixesFacts.parseFixes19 ParseFixesFacts.parseFixes20 ParseFixesFacts.parseFixes21 ParseFixesFacts.parseFixes22 ParseFixesFacts.parseFixes23 ParseFixesFacts.parseFixes24 ParseFixesFacts.parseFixes25 ParseFixesFacts.parseFixes26 ParseFixesFacts.parseFixes27 ParseFixesFacts.parseFixes28 ParseFixesFacts.parseFixes29 ParseFixesFacts.parseFixes30 ParseFixesFacts.parseFixes31)
    (of_decide_eq_true (by kernel_rfl)) (by unfold Func.isWrapper; first | (rw [if_pos (by decide +kernel)]; kernel_rfl) | (rw [if_neg (by decide +kernel)]; exact ⟨rfl, rfl⟩))
    (fun os started H enc _ => parseFixes_lifted os started H enc)
theorem parseFixes_wf : Rows.parseFixesRow.wfByText (OpenSpec.ofChange Rows.parseFixesSpec) = true := by kernel_rfl
theorem parseFixes_main : Tryz.pinned.checked.prog.mainIs = some (true, "6cf0ec771570222d31c5a9505fceb19c76c01dc89cb308ad50541262d99dcfb1".toList) := by kernel_rfl
theorem parseFixes_named : Tryz.prog.funcNamed "foundry/foundrylaw15.ParseFixes" = some 3 := by kernel_rfl
theorem parseFixes_looks : true = Tryz.pinned.checked.prog.looks [] := by kernel_rfl
theorem parseFixes_stand : ([3, 22, 4, 5].all fun u => !Tryz.prog.wantsStandIn u) = true := by kernel_rfl
theorem parseFixes_goes : false = Rows.parseFixesRow.goesBy Tryz.pinned.checked.prog := by kernel_rfl
theorem parseFixes_card : Rows.ParseFixesCardSaid :=
  Claim7.holds_tied_plain_at .later [] [.data, .data, .data, .data, .sentinel, .sentinel, .listed, .data, .pinned, .pinned] true (true, "6cf0ec771570222d31c5a9505fceb19c76c01dc89cb308ad50541262d99dcfb1") true
    parseFixes_holds (fun _ h => by cases h) parseFixes_wf (fun _ h => by cases h) parseFixes_row_tie rfl ⟨rfl, rfl⟩ parseFixes_main rfl
    (fun f fn hf hfn => by
      obtain rfl : f = 3 := Option.some.inj (parseFixes_named.symm.trans hf) |>.symm
      obtain rfl : fn = Tryz.f3 := (Option.some.inj (Tryz.func3.symm.trans hfn)).symm
      exact ⟨parseFixes_looks, fun j t ht => by
        rw [Tryz.params3] at ht
        have hm : t ∈ [3, 22, 4, 5] := by simpa using Array.mem_of_getElem? ht
        exact (show Tryz.prog.wantsStandIn t = false by simpa using List.all_eq_true.1 parseFixes_stand t hm)⟩)
    parseFixes_goes
end Go.Proofs.YtafpmnccoogojaaGreatDoor
