/- PROVED: PlaceGlobs answers true, whatever the input. Conditions: those of the given card alone (the listed package-level variables read as the program's text lays them). -/
import Derived.Test.YteinliapjcgpfaaGreatDoorPlaceGlobs
import Derived.Test.YteinliapjcgpfaaGreatDoorPlaceGlobsFacts
import Derived.Test.YteinliapjcgpfaaGreatDoorTie
import Derived.Test.YteinliapjcgpfaaGreatDoorCards
import Derived.ProofKit
import Derived.SevenTiedAt
namespace Go.Proofs.YteinliapjcgpfaaGreatDoor
open Go
theorem placeGlobs_holds : Rows.PlaceGlobsSaid :=
  OpenClaim.holds_of_wide 3 Tryz.f3 rfl rfl rfl rfl rfl rfl rfl ⟨rfl, rfl, rfl, rfl, rfl⟩ rfl rfl rfl rfl rfl (by kernel_rfl) Tryz.func3 (PlaceGlobsFacts.joined PlaceGlobsFacts.placeGlobs0 PlaceGlobsFacts.placeGlobs1 PlaceGlobsFacts.placeGlobs2 PlaceGlobsFacts.placeGlobs3 PlaceGlobsFacts.placeGlobs4 PlaceGlobsFacts.placeGlobs5 PlaceGlobsFacts.placeGlobs6 PlaceGlobsFacts.placeGlobs7 PlaceGlobsFacts.placeGlobs8 PlaceGlobsFacts.placeGlobs9 PlaceGlobsFacts.placeGlobs10 PlaceGlobsFacts.placeGlobs11 PlaceGlobsFacts.placeGlobs12 PlaceGlobsFacts.placeGlobs13 PlaceGlobsFacts.placeGlobs14 PlaceGlobsFacts.placeGlobs15 PlaceGlobsFacts.placeGlobs16 PlaceGlobsFacts.placeGlobs17 PlaceGlobsFacts.placeGlobs18 PlaceGlobsFacts.placeGlobs19 PlaceGlobsFacts.placeGlobs20 PlaceGlobsFacts.placeGlobs21 PlaceGlobsFacts.placeGlobs22 PlaceGlobsFacts.placeGlobs23 PlaceGlobsFacts.placeGlobs24 PlaceGlobsFacts.placeGlobs25 PlaceGlobsFacts.placeGlobs26 PlaceGlobsFacts.placeGlobs27 PlaceGlobsFacts.placeGlobs28 PlaceGlobsFacts.placeGlobs29 PlaceGlobsFacts.placeGlobs30 PlaceGlobsFacts.placeGlobs31)
    (of_decide_eq_true (by kernel_rfl)) (by unfold Func.isWrapper; first | (rw [if_pos (by decide +kernel)]; kernel_rfl) | (rw [if_neg (by decide +kernel)]; exact ⟨rfl, rfl⟩))
    (fun os started H enc _ => placeGlobs_lifted os started H enc)

theorem placeGlobs_wf : Rows.placeGlobsRow.wfByText (OpenSpec.ofChange Rows.placeGlobsSpec) = true := by kernel_rfl
theorem placeGlobs_main : Tryz.pinned.checked.prog.mainIs = some (true, "a07438bd1227c8c2815f3bb8798712467aae7b159cd28c08ca0c2098d06c2369".toList) := by kernel_rfl
theorem placeGlobs_named : Tryz.prog.funcNamed "foundry/foundrylaw23.PlaceGlobs" = some 3 := by kernel_rfl
theorem placeGlobs_looks : true = Tryz.pinned.checked.prog.looks [] := by kernel_rfl
theorem placeGlobs_stand : ([5, 5, 5, 4].all fun u => !Tryz.prog.wantsStandIn u) = true := by kernel_rfl
theorem placeGlobs_goes : false = Rows.placeGlobsRow.goesBy Tryz.pinned.checked.prog := by kernel_rfl
theorem placeGlobs_card : Rows.PlaceGlobsCardSaid :=
  Claim7.holds_tied_plain_at .later [] [.data, .data, .data, .sentinel, .sentinel] true (true, "a07438bd1227c8c2815f3bb8798712467aae7b159cd28c08ca0c2098d06c2369") true
    placeGlobs_holds (fun _ h => by cases h) placeGlobs_wf (fun _ h => by cases h) placeGlobs_row_tie rfl ⟨rfl, rfl⟩ placeGlobs_main rfl
    (fun f fn hf hfn => by
      obtain rfl : f = 3 := Option.some.inj (placeGlobs_named.symm.trans hf) |>.symm
      obtain rfl : fn = Tryz.f3 := (Option.some.inj (Tryz.func3.symm.trans hfn)).symm
      exact ⟨placeGlobs_looks, fun j t ht => by
        rw [Tryz.params3] at ht
        have hm : t ∈ [5, 5, 5, 4] := by simpa using Array.mem_of_getElem? ht
        exact (show Tryz.prog.wantsStandIn t = false by simpa using List.all_eq_true.1 placeGlobs_stand t hm)⟩)
    placeGlobs_goes
end Go.Proofs.YteinliapjcgpfaaGreatDoor
