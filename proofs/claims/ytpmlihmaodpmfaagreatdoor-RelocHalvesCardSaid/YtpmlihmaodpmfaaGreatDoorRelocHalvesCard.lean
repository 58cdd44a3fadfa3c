/- PROVED: foundrylaw16.RelocHalves answers true at every input: RV64's high and low halves, and ARM's page and lowest bits, come to the address together. Conditions: those of the given card alone (the listed package-level variables read as the program's text lays them). -/
import Derived.Test.YtpmlihmaodpmfaaGreatDoorRelocHalves
import Derived.Test.YtpmlihmaodpmfaaGreatDoorRelocHalvesFacts
import Derived.Test.YtpmlihmaodpmfaaGreatDoorTie
import Derived.Test.YtpmlihmaodpmfaaGreatDoorCards
import Derived.ProofKit
import Derived.SevenTiedAt
namespace Go.Proofs.YtpmlihmaodpmfaaGreatDoor
open Go
theorem relocHalves_holds : Rows.RelocHalvesSaid :=
  OpenClaim.holds_of_wide 3 Tryz.f3 rfl rfl rfl rfl rfl rfl rfl ⟨rfl, rfl, rfl, rfl, rfl⟩ rfl rfl rfl rfl rfl (by kernel_rfl) Tryz.func3 (RelocHalvesFacts.joined RelocHalvesFacts.relocHalves0 RelocHalvesFacts.relocHalves1 RelocHalvesFacts.relocHalves2 RelocHalvesFacts.relocHalves3 RelocHalvesFacts.relocHalves4 RelocHalvesFacts.relocHalves5 RelocHalvesFacts.relocHalves6 RelocHalvesFacts.relocHalves7 RelocHalvesFacts.relocHalves8 RelocHalvesFacts.relocHalves9 RelocHalvesFacts.relocHalves10 RelocHalvesFacts.relocHalves11 RelocHalvesFacts.relocHalves12 RelocHalvesFacts.relocHalves13 RelocHalvesFacts.relocHalves14 RelocHalvesFacts.relocHalves15 RelocHalvesFacts.relocHalves16 RelocHalvesFacts.relocHalves17 RelocHalvesFacts.relocHalves18 RelocHalvesFacts.relocHalves19 RelocHalvesFacts.relocHalves20 RelocHalvesFacts.relocHalves21 RelocHalvesFacts.relocHalves22 RelocHalvesFacts.relocHalves23 RelocHalvesFacts.relocHalves24 RelocHalvesFacts.relocHalves25 RelocHalvesFacts.relocHalves26 RelocHalvesFacts.relocHalves27 RelocHalvesFacts.relocHalves28 RelocHalvesFacts.relocHalves29 RelocHalvesFacts.relocHalves30 RelocHalvesFacts.relocHalves31)
    (of_decide_eq_true (by kernel_rfl)) (by unfold Func.isWrapper; first | (rw [if_pos (by decide +kernel)]; kernel_rfl) | (rw [if_neg (by decide +kernel)]; exact ⟨rfl, rfl⟩))
    (fun os started H enc _ => relocHalves_lifted os started H enc)

theorem relocHalves_wf : Rows.relocHalvesRow.wfByText (OpenSpec.ofChange Rows.relocHalvesSpec) = true := by kernel_rfl
theorem relocHalves_main : Tryz.pinned.checked.prog.mainIs = some (true, "319d16c685e50b970f4a4fde5f83039f712c13e6678771cf1f1d5ba62505299d".toList) := by kernel_rfl
theorem relocHalves_named : Tryz.prog.funcNamed "foundry/foundrylaw16.RelocHalves" = some 3 := by kernel_rfl
theorem relocHalves_looks : true = Tryz.pinned.checked.prog.looks [] := by kernel_rfl
theorem relocHalves_stand : ([22, 22, 3].all fun u => !Tryz.prog.wantsStandIn u) = true := by kernel_rfl
theorem relocHalves_goes : false = Rows.relocHalvesRow.goesBy Tryz.pinned.checked.prog := by kernel_rfl
theorem relocHalves_card : Rows.RelocHalvesCardSaid :=
  Claim7.holds_tied_plain_at .later [] [.data, .data, .data, .data, .sentinel, .sentinel, .listed, .data, .pinned, .pinned] true (true, "319d16c685e50b970f4a4fde5f83039f712c13e6678771cf1f1d5ba62505299d") true
    relocHalves_holds (fun _ h => by cases h) relocHalves_wf (fun _ h => by cases h) relocHalves_row_tie rfl ⟨rfl, rfl⟩ relocHalves_main rfl
    (fun f fn hf hfn => by
      obtain rfl : f = 3 := Option.some.inj (relocHalves_named.symm.trans hf) |>.symm
      obtain rfl : fn = Tryz.f3 := (Option.some.inj (Tryz.func3.symm.trans hfn)).symm
      exact ⟨relocHalves_looks, fun j t ht => by
        rw [Tryz.params3] at ht
        have hm : t ∈ [22, 22, 3] := by simpa using Array.mem_of_getElem? ht
        exact (show Tryz.prog.wantsStandIn t = false by simpa using List.all_eq_true.1 relocHalves_stand t hm)⟩)
    relocHalves_goes
end Go.Proofs.YtpmlihmaodpmfaaGreatDoor
