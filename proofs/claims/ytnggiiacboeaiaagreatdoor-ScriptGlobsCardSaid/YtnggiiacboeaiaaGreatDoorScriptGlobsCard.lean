/- PROVED: 'foundrylaw21.ScriptGlobs' answers true for every input and leaves its arguments as they were. Conditions: those of the given card alone (the listed package-level variables read as the program's text lays them). -/
import Derived.Test.YtnggiiacboeaiaaGreatDoorGlobs
import Derived.Test.YtnggiiacboeaiaaGreatDoorScriptGlobsFacts
import Derived.Test.YtnggiiacboeaiaaGreatDoorTie
import Derived.Test.YtnggiiacboeaiaaGreatDoorCards
import Derived.ProofKit
import Derived.SevenTiedAt
namespace Go.Proofs.YtnggiiacboeaiaaGreatDoor
open Go
theorem scriptGlobs_holds : Rows.ScriptGlobsSaid :=
  OpenClaim.holds_of_wide 5 Tryz.f5 rfl rfl rfl rfl rfl rfl rfl ⟨rfl, rfl, rfl, rfl, rfl⟩ rfl rfl rfl rfl rfl (by kernel_rfl) Tryz.func5 (ScriptGlobsFacts.joined ScriptGlobsFacts.scriptGlobs0 ScriptGlobsFacts.scriptGlobs1 ScriptGlobsFacts.scriptGlobs2 ScriptGlobsFacts.scriptGlobs3 ScriptGlobsFacts.scriptGlobs4 ScriptGlobsFacts.scriptGlobs5 ScriptGlobsFacts.scriptGlobs6 ScriptGlobsFacts.scriptGlobs7 ScriptGlobsFacts.scriptGlobs8 ScriptGlobsFacts.scriptGlobs9 ScriptGlobsFacts.scriptGlobs10 ScriptGlobsFacts.scriptGlobs11 ScriptGlobsFacts.scriptGlobs12 ScriptGlobsFacts.scriptGlobs13 ScriptGlobsFacts.scriptGlobs14 ScriptGlobsFacts.scriptGlobs15 ScriptGlobsFacts.scriptGlobs16 ScriptGlobsFacts.scriptGlobs17 ScriptGlobsFacts.scriptGlobs18 ScriptGlobsFacts.scriptGlobs19 ScriptGlobsFacts.scriptGlobs20 ScriptGlobsFacts.scriptGlobs21 ScriptGlobsFacts.scriptGlobs22 ScriptGlobsFacts.scriptGlobs23 ScriptGlobsFacts.scriptGlobs24 ScriptGlobsFacts.scriptGlobs25 ScriptGlobsFacts.scriptGlobs26 ScriptGlobsFacts.scriptGlobs27 ScriptGlobsFacts.scriptGlobs28 ScriptGlobsFacts.scriptGlobs29 ScriptGlobsFacts.scriptGlobs30 ScriptGlobsFacts.scriptGlobs31)
    (of_decide_eq_true (by kernel_rfl)) (by unfold Func.isWrapper; first | (rw [if_pos (by decide +kernel)]; kernel_rfl) | (rw [if_neg (by decide +kernel)]; exact ⟨rfl, rfl⟩))
    (fun os started H enc _ => scriptGlobs_lifted os started H enc)

theorem scriptGlobs_wf : Rows.scriptGlobsRow.wfByText (OpenSpec.ofChange Rows.scriptGlobsSpec) = true := by kernel_rfl
theorem scriptGlobs_main : Tryz.pinned.checked.prog.mainIs = some (true, "adf325a58dba9022edfaf4141535daf6fdc7c29503175ee1f87039c664a1cac8".toList) := by kernel_rfl
theorem scriptGlobs_named : Tryz.prog.funcNamed "foundry/foundrylaw21.ScriptGlobs" = some 5 := by kernel_rfl
theorem scriptGlobs_looks : true = Tryz.pinned.checked.prog.looks [] := by kernel_rfl
theorem scriptGlobs_stand : ([9, 9, 9].all fun u => !Tryz.prog.wantsStandIn u) = true := by kernel_rfl
theorem scriptGlobs_goes : false = Rows.scriptGlobsRow.goesBy Tryz.pinned.checked.prog := by kernel_rfl
theorem scriptGlobs_card : Rows.ScriptGlobsCardSaid :=
  Claim7.holds_tied_plain_at .later [] [.data, .data, .data, .sentinel, .sentinel] true (true, "adf325a58dba9022edfaf4141535daf6fdc7c29503175ee1f87039c664a1cac8") true
    scriptGlobs_holds (fun _ h => by cases h) scriptGlobs_wf (fun _ h => by cases h) scriptGlobs_row_tie rfl ⟨rfl, rfl⟩ scriptGlobs_main rfl
    (fun f fn hf hfn => by
      obtain rfl : f = 5 := Option.some.inj (scriptGlobs_named.symm.trans hf) |>.symm
      obtain rfl : fn = Tryz.f5 := (Option.some.inj (Tryz.func5.symm.trans hfn)).symm
      exact ⟨scriptGlobs_looks, fun j t ht => by
        rw [Tryz.params5] at ht
        have hm : t ∈ [9, 9, 9] := by simpa using Array.mem_of_getElem? ht
        exact (show Tryz.prog.wantsStandIn t = false by simpa using List.all_eq_true.1 scriptGlobs_stand t hm)⟩)
    scriptGlobs_goes
end Go.Proofs.YtnggiiacboeaiaaGreatDoor
