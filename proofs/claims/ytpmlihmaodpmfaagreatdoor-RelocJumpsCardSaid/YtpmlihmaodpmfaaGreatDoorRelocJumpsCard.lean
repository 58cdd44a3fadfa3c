/- PROVED: foundrylaw16.RelocJumps answers true at every input: a jump that a relocation reached leads to S, and one beyond its range is refused. Conditions: those of the given card alone (the listed package-level variables read as the program's text lays them). -/
import Derived.Test.YtpmlihmaodpmfaaGreatDoorRelocJumps
import Derived.Test.YtpmlihmaodpmfaaGreatDoorRelocJumpsFacts
import Derived.Test.YtpmlihmaodpmfaaGreatDoorTie
import Derived.Test.YtpmlihmaodpmfaaGreatDoorCards
import Derived.ProofKit
import Derived.SevenTiedAt
namespace Go.Proofs.YtpmlihmaodpmfaaGreatDoor
open Go
theorem relocJumps_holds : Rows.RelocJumpsSaid :=
  OpenClaim.holds_of_wide 4 Tryz.f4 rfl rfl rfl rfl rfl rfl rfl ⟨rfl, rfl, rfl, rfl, rfl⟩ rfl rfl rfl rfl rfl (by kernel_rfl) Tryz.func4 (RelocJumpsFacts.joined RelocJumpsFacts.relocJumps0 RelocJumpsFacts.relocJumps1 RelocJumpsFacts.relocJumps2 RelocJumpsFacts.relocJumps3 RelocJumpsFacts.relocJumps4 RelocJumpsFacts.relocJumps5 RelocJumpsFacts.relocJumps6 RelocJumpsFacts.relocJumps7 RelocJumpsFacts.relocJumps8 RelocJumpsFacts.relocJumps9 RelocJumpsFacts.relocJumps10 RelocJumpsFacts.relocJumps11 RelocJumpsFacts.relocJumps12 RelocJumpsFacts.relocJumps13 RelocJumpsFacts.relocJumps14 RelocJumpsFacts.relocJumps15 RelocJumpsFacts.relocJumps16 RelocJumpsFacts.relocJumps17 RelocJumpsFacts.relocJumps18 RelocJumpsFacts.relocJumps19 RelocJumpsFacts.relocJumps20 RelocJumpsFacts.relocJumps21 RelocJumpsFacts.relocJumps22 RelocJumpsFacts.relocJumps23 RelocJumpsFacts.relocJumps24 RelocJumpsFacts.relocJumps25 RelocJumpsFacts.relocJumps26 RelocJumpsFacts.relocJumps27 RelocJumpsFacts.relocJumps28 RelocJumpsFacts.relocJumps29 RelocJumpsFacts.relocJumps30 RelocJumpsFacts.relocJumps31)
    (of_decide_eq_true (by kernel_rfl)) (by unfold Func.isWrapper; first | (rw [if_pos (by decide +kernel)]; kernel_rfl) | (rw [if_neg (by decide +kernel)]; exact ⟨rfl, rfl⟩))
    (fun os started H enc _ => relocJumps_lifted os started H enc)
theorem relocJumps_wf : Rows.relocJumpsRow.wfByText (OpenSpec.ofChange Rows.relocJumpsSpec) = true := by kernel_rfl
theorem relocJumps_main : Tryz.pinned.checked.prog.mainIs = some (true, "319d16c685e50b970f4a4fde5f83039f712c13e6678771cf1f1d5ba62505299d".toList) := by kernel_rfl
theorem relocJumps_named : Tryz.prog.funcNamed "foundry/foundrylaw16.RelocJumps" = some 4 := by kernel_rfl
theorem relocJumps_looks : true = Tryz.pinned.checked.prog.looks [] := by kernel_rfl
theorem relocJumps_stand : ([3, 22, 22].all fun u => !Tryz.prog.wantsStandIn u) = true := by kernel_rfl
theorem relocJumps_goes : false = Rows.relocJumpsRow.goesBy Tryz.pinned.checked.prog := by kernel_rfl
theorem relocJumps_card : Rows.RelocJumpsCardSaid :=
  Claim7.holds_tied_plain_at .later [] [.data, .data, .data, .data, .sentinel, .sentinel, .listed, .data, .pinned, .pinned] true (true, "319d16c685e50b970f4a4fde5f83039f712c13e6678771cf1f1d5ba62505299d") true
    relocJumps_holds (fun _ h => by cases h) relocJumps_wf (fun _ h => by cases h) relocJumps_row_tie rfl ⟨rfl, rfl⟩ relocJumps_main rfl
    (fun f fn hf hfn => by
      obtain rfl : f = 4 := Option.some.inj (relocJumps_named.symm.trans hf) |>.symm
      obtain rfl : fn = Tryz.f4 := (Option.some.inj (Tryz.func4.symm.trans hfn)).symm
      exact ⟨relocJumps_looks, fun j t ht => by
        rw [Tryz.params4] at ht
        have hm : t ∈ [3, 22, 22] := by simpa using Array.mem_of_getElem? ht
        exact (show Tryz.prog.wantsStandIn t = false by simpa using List.all_eq_true.1 relocJumps_stand t hm)⟩)
    relocJumps_goes
end Go.Proofs.YtpmlihmaodpmfaaGreatDoor
