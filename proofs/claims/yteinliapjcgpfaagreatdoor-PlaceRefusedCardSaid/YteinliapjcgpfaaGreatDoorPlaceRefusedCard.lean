/- PROVED: PlaceRefused answers true, whatever the input. Conditions: those of the given card alone (the listed package-level variables read as the program's text lays them). -/
import Derived.Test.YteinliapjcgpfaaGreatDoorPlaceRefused
import Derived.Test.YteinliapjcgpfaaGreatDoorPlaceRefusedFacts
import Derived.Test.YteinliapjcgpfaaGreatDoorTie
import Derived.Test.YteinliapjcgpfaaGreatDoorCards
import Derived.ProofKit
import Derived.SevenTiedAt
namespace Go.Proofs.YteinliapjcgpfaaGreatDoor
open Go
theorem placeRefused_holds : Rows.PlaceRefusedSaid :=
  OpenClaim.holds_of_wide 4 Tryz.f4 rfl rfl rfl rfl rfl rfl rfl ⟨rfl, rfl, rfl, rfl, rfl⟩ rfl rfl rfl rfl rfl (by kernel_rfl) Tryz.func4 (PlaceRefusedFacts.joined PlaceRefusedFacts.placeRefused0 PlaceRefusedFacts.placeRefused1 PlaceRefusedFacts.placeRefused2 PlaceRefusedFacts.placeRefused3 PlaceRefusedFacts.placeRefused4 PlaceRefusedFacts.placeRefused5 PlaceRefusedFacts.placeRefused6 PlaceRefusedFacts.placeRefused7 PlaceRefusedFacts.placeRefused8 PlaceRefusedFacts.placeRefused9 PlaceRefusedFacts.placeRefused10 PlaceRefusedFacts.placeRefused11 PlaceRefusedFacts.placeRefused12 PlaceRefusedFacts.placeRefused13 PlaceRefusedFacts.placeRefused14 PlaceRefusedFacts.placeRefused15 PlaceRefusedFacts.placeRefused16 PlaceRefusedFacts.placeRefused17 PlaceRefusedFacts.placeRefused18 PlaceRefusedFacts.placeRefused19 PlaceRefusedFacts.placeRefused20 PlaceRefusedFacts.placeRefused21 PlaceRefusedFacts.placeRefused22 PlaceRefusedFacts.placeRefused23 PlaceRefusedFacts.placeRefused24 PlaceRefusedFacts.placeRefused25 PlaceRefusedFacts.placeRefused26 PlaceRefusedFacts.placeRefused27 PlaceRefusedFacts.placeRefused28 PlaceRefusedFacts.placeRefused29 PlaceRefusedFacts.placeRefused30 PlaceRefusedFacts.placeRefused31)
    (of_decide_eq_true (by kernel_rfl)) (by unfold Func.isWrapper; first | (rw [if_pos (by decide +kernel)]; kernel_rfl) | (rw [if_neg (by decide +kernel)]; exact ⟨rfl, rfl⟩))
    (fun os started H enc _ => placeRefused_lifted os started H enc)

theorem placeRefused_wf : Rows.placeRefusedRow.wfByText (OpenSpec.ofChange Rows.placeRefusedSpec) = true := by kernel_rfl
theorem placeRefused_main : Tryz.pinned.checked.prog.mainIs = some (true, "a07438bd1227c8c2815f3bb8798712467aae7b159cd28c08ca0c2098d06c2369".toList) := by kernel_rfl
theorem placeRefused_named : Tryz.prog.funcNamed "foundry/foundrylaw23.PlaceRefused" = some 4 := by kernel_rfl
theorem placeRefused_looks : true = Tryz.pinned.checked.prog.looks [] := by kernel_rfl
theorem placeRefused_stand : ([62, 5].all fun u => !Tryz.prog.wantsStandIn u) = true := by kernel_rfl
theorem placeRefused_goes : false = Rows.placeRefusedRow.goesBy Tryz.pinned.checked.prog := by kernel_rfl
theorem placeRefused_card : Rows.PlaceRefusedCardSaid :=
  Claim7.holds_tied_plain_at .later [] [.data, .data, .data, .sentinel, .sentinel] true (true, "a07438bd1227c8c2815f3bb8798712467aae7b159cd28c08ca0c2098d06c2369") true
    placeRefused_holds (fun _ h => by cases h) placeRefused_wf (fun _ h => by cases h) placeRefused_row_tie rfl ⟨rfl, rfl⟩ placeRefused_main rfl
    (fun f fn hf hfn => by
      obtain rfl : f = 4 := Option.some.inj (placeRefused_named.symm.trans hf) |>.symm
      obtain rfl : fn = Tryz.f4 := (Option.some.inj (Tryz.func4.symm.trans hfn)).symm
      exact ⟨placeRefused_looks, fun j t ht => by
        rw [Tryz.params4] at ht
        have hm : t ∈ [62, 5] := by simpa using Array.mem_of_getElem? ht
        exact (show Tryz.prog.wantsStandIn t = false by simpa using List.all_eq_true.1 placeRefused_stand t hm)⟩)
    placeRefused_goes
end Go.Proofs.YteinliapjcgpfaaGreatDoor
