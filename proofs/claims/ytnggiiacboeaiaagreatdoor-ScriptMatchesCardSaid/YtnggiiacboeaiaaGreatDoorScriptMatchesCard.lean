/- PROVED: 'foundrylaw21.ScriptMatches' answers true for every input and leaves its arguments as they were. Conditions: those of the given card alone (the listed package-level variables read as the program's text lays them). -/
import Derived.Test.YtnggiiacboeaiaaGreatDoorMatches
import Derived.Test.YtnggiiacboeaiaaGreatDoorScriptMatchesFacts
import Derived.Test.YtnggiiacboeaiaaGreatDoorTie
import Derived.Test.YtnggiiacboeaiaaGreatDoorCards
import Derived.ProofKit
import Derived.SevenTiedAt
namespace Go.Proofs.YtnggiiacboeaiaaGreatDoor
open Go
theorem scriptMatches_holds : Rows.ScriptMatchesSaid :=
  OpenClaim.holds_of_wide 3 Tryz.f3 rfl rfl rfl rfl rfl rfl rfl ⟨rfl, rfl, rfl, rfl, rfl⟩ rfl rfl rfl rfl rfl (by kernel_rfl) Tryz.func3 (ScriptMatchesFacts.joined ScriptMatchesFacts.scriptMatches0 ScriptMatchesFacts.scriptMatches1 ScriptMatchesFacts.scriptMatches2 ScriptMatchesFacts.scriptMatches3 ScriptMatchesFacts.scriptMatches4 ScriptMatchesFacts.scriptMatches5 ScriptMatchesFacts.scriptMatches6 ScriptMatchesFacts.scriptMatches7 ScriptMatchesFacts.scriptMatches8 ScriptMatchesFacts.scriptMatches9 ScriptMatchesFacts.scriptMatches10 ScriptMatchesFacts.scriptMatches11 ScriptMatchesFacts.scriptMatches12 ScriptMatchesFacts.scriptMatches13 ScriptMatchesFacts.scriptMatches14 ScriptMatchesFacts.scriptMatches15 ScriptMatchesFacts.scriptMatches16 ScriptMatchesFacts.scriptMatches17 ScriptMatchesFacts.scriptMatches18 ScriptMatchesFacts.scriptMatches19 ScriptMatchesFacts.scriptMatches20 ScriptMatchesFacts.scriptMatches21 ScriptMatchesFacts.scriptMatches22 ScriptMatchesFacts.scriptMatches23 ScriptMatchesFacts.scriptMatches24 ScriptMatchesFacts.scriptMatches25 ScriptMatchesFacts.scriptMatches26 ScriptMatchesFacts.scriptMatches27 ScriptMatchesFacts.scriptMatches28 ScriptMatchesFacts.scriptMatches29 ScriptMatchesFacts.scriptMatches30 ScriptMatchesFacts.scriptMatches31)
    (of_decide_eq_true (by kernel_rfl)) (by unfold Func.isWrapper; first | (rw [if_pos (by decide +kernel)]; kernel_rfl) | (rw [if_neg (by decide +kernel)]; exact ⟨rfl, rfl⟩))
    (fun os started H enc _ => scriptMatches_lifted os started H enc)

theorem scriptMatches_wf : Rows.scriptMatchesRow.wfByText (OpenSpec.ofChange Rows.scriptMatchesSpec) = true := by kernel_rfl
theorem scriptMatches_main : Tryz.pinned.checked.prog.mainIs = some (true, "adf325a58dba9022edfaf4141535daf6fdc7c29503175ee1f87039c664a1cac8".toList) := by kernel_rfl
theorem scriptMatches_named : Tryz.prog.funcNamed "foundry/foundrylaw21.ScriptMatches" = some 3 := by kernel_rfl
theorem scriptMatches_looks : true = Tryz.pinned.checked.prog.looks [] := by kernel_rfl
theorem scriptMatches_stand : ([22, 22].all fun u => !Tryz.prog.wantsStandIn u) = true := by kernel_rfl
theorem scriptMatches_goes : false = Rows.scriptMatchesRow.goesBy Tryz.pinned.checked.prog := by kernel_rfl
theorem scriptMatches_card : Rows.ScriptMatchesCardSaid :=
  Claim7.holds_tied_plain_at .later [] [.data, .data, .data, .sentinel, .sentinel] true (true, "adf325a58dba9022edfaf4141535daf6fdc7c29503175ee1f87039c664a1cac8") true
    scriptMatches_holds (fun _ h => by cases h) scriptMatches_wf (fun _ h => by cases h) scriptMatches_row_tie rfl ⟨rfl, rfl⟩ scriptMatches_main rfl
    (fun f fn hf hfn => by
      obtain rfl : f = 3 := Option.some.inj (scriptMatches_named.symm.trans hf) |>.symm
      obtain rfl : fn = Tryz.f3 := (Option.some.inj (Tryz.func3.symm.trans hfn)).symm
      exact ⟨scriptMatches_looks, fun j t ht => by
        rw [Tryz.params3] at ht
        have hm : t ∈ [22, 22] := by simpa using Array.mem_of_getElem? ht
        exact (show Tryz.prog.wantsStandIn t = false by simpa using List.all_eq_true.1 scriptMatches_stand t hm)⟩)
    scriptMatches_goes
end Go.Proofs.YtnggiiacboeaiaaGreatDoor
