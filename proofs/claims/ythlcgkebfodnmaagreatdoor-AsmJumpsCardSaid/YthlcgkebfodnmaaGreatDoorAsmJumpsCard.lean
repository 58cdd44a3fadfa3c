/- PROVED: AsmJumps answers true, whatever the input. Conditions: those of the given card alone (the listed package-level variables read as the program's text lays them). -/
import Derived.Test.YthlcgkebfodnmaaGreatDoorAsmJumps
import Derived.Test.YthlcgkebfodnmaaGreatDoorAsmJumpsFacts
namespace Go.Proofs.YthlcgkebfodnmaaGreatDoor
open Go
theorem asmJumps_holds : Rows.AsmJumpsSaid :=
  OpenClaim.holds_of_wide 4 Tryz.f4 rfl rfl rfl rfl rfl rfl rfl ⟨rfl, rfl, rfl, rfl, rfl⟩ rfl rfl rfl rfl rfl (by kernel_rfl) Tryz.func4 (AsmJumpsFacts.joined AsmJumpsFacts.asmJumps0 AsmJumpsFacts.asmJumps1 AsmJumpsFacts.asmJumps2 AsmJumpsFacts.asmJumps3 AsmJumpsFacts.asmJumps4 AsmJumpsFacts.asmJumps5 AsmJumpsFacts.asmJumps6 AsmJumpsFacts.asmJumps7 AsmJumpsFacts.asmJumps8 AsmJumpsFacts.asmJumps9 AsmJumpsFacts.asmJumps10 AsmJumpsFacts.asmJumps11 AsmJumpsFacts.asmJumps12 AsmJumpsFacts.asmJumps13 AsmJumpsFacts.asmJumps14 AsmJumpsFacts.asmJumps15 AsmJumpsFacts.asmJumps16 AsmJumpsFacts.asmJumps17 AsmJumpsFacts.asmJumps18 AsmJumpsFacts.asmJumps19 AsmJumpsFacts.asmJumps20 AsmJumpsFacts.asmJumps21 AsmJumpsFacts.asmJumps22 AsmJumpsFacts.asmJumps23 AsmJumpsFacts.asmJumps24 AsmJumpsFacts.asmJumps25 AsmJumpsFacts.asmJumps26 AsmJumpsFacts.asmJumps27 AsmJumpsFacts.asmJumps28 AsmJumpsFacts.asmJumps29 AsmJumpsFacts.asmJumps30 AsmJumpsFacts.asmJumps31)
    (of_decide_eq_true (by kernel_rfl)) (by unfold Func.isWrapper; first | (rw [if_pos (by decide +kernel)]; kernel_rfl) | (rw [if_neg (by decide +kernel)]; exact ⟨rfl, rfl⟩))
    (fun os started H enc _ => asmJumps_lifted os started H enc)
theorem asmJumps_wf : Rows.asmJumpsRow.wfByText (OpenSpec.ofChange Rows.asmJumpsSpec) = true := by kernel_rfl
theorem asmJumps_main : Tryz.pinned.checked.prog.mainIs = some (true, "bbbe0ccf25bc67d76d0ae3f10610bd39a619f9b04a27dc6019a86914bf7f9553".toList) := by kernel_rfl
theorem asmJumps_named : Tryz.prog.funcNamed "foundry/foundrylaw20.AsmJumps" = some 4 := by kernel_rfl
theorem asmJumps_looks : true = Tryz.pinned.checked.prog.looks [] := by kernel_rfl
theorem asmJumps_stand : ([3, 3].all fun u => !Tryz.prog.wantsStandIn u) = true := by kernel_rfl
theorem asmJumps_goes : false = Rows.asmJumpsRow.goesBy Tryz.pinned.checked.prog := by kernel_rfl
theorem asmJumps_card : Rows.AsmJumpsCardSaid :=
  Claim7.holds_tied_plain_at .later [] [.pinned, .data, .sentinel, .sentinel, .data, .data, .data, .data, .listed, .pinned] true (true, "bbbe0ccf25bc67d76d0ae3f10610bd39a619f9b04a27dc6019a86914bf7f9553") true
    asmJumps_holds (fun _ h => by cases h) asmJumps_wf (fun _ h => by cases h) asmJumps_row_tie rfl ⟨rfl, rfl⟩ asmJumps_main rfl
    (fun f fn hf hfn => by
      obtain rfl : f = 4 := Option.some.inj (asmJumps_named.symm.trans hf) |>.symm
      obtain rfl : fn = Tryz.f4 := (Option.some.inj (Tryz.func4.symm.trans hfn)).symm
      exact ⟨asmJumps_looks, fun j t ht => by
        rw [Tryz.params4] at ht
        have hm : t ∈ [3, 3] := by simpa using Array.mem_of_getElem? ht
        exact (show Tryz.prog.wantsStandIn t = false by simpa using List.all_eq_true.1 asmJumps_stand t hm)⟩)
    asmJumps_goes
end Go.Proofs.YthlcgkebfodnmaaGreatDoor
