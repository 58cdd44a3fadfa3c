/- PROVED: foundrylaw20.AsmAligns answers true for every input and leaves its arguments as they were. Conditions: those of the given card alone (the listed package-level variables read as the program's text lays them). -/
import Derived.Test.YthlcgkebfodnmaaGreatDoorAsmAligns
import Derived.Test.YthlcgkebfodnmaaGreatDoorAsmAlignsFacts
namespace Go.Proofs.YthlcgkebfodnmaaGreatDoor
open Go
theorem asmAligns_holds : Rows.AsmAlignsSaid :=
  OpenClaim.holds_of_wide 3 Tryz.f3 rfl rfl rfl rfl rfl rfl rfl ⟨rfl, rfl, rfl, rfl, rfl⟩ rfl rfl rfl rfl rfl (by kernel_rfl) Tryz.func3 (AsmAlignsFacts.joined AsmAlignsFacts.asmAligns0 AsmAlignsFacts.asmAligns1 AsmAlignsFacts.asmAligns2 AsmAlignsFacts.asmAligns3 AsmAlignsFacts.asmAligns4 AsmAlignsFacts.asmAligns5 AsmAlignsFacts.asmAligns6 AsmAlignsFacts.asmAligns7 AsmAlignsFacts.asmAligns8 AsmAlignsFacts.asmAligns9 AsmAlignsFacts.asmAligns10 AsmAlignsFacts.asmAligns11 AsmAlignsFacts.asmAligns12 AsmAlignsFacts.asmAligns13 AsmAlignsFacts.asmAligns14 AsmAlignsFacts.asmAligns15 AsmAlignsFacts.asmAligns16 AsmAlignsFacts.asmAligns17 AsmAlignsFacts.asmAligns18 AsmAlignsFacts.asmAligns19 AsmAlignsFacts.asmAligns20 AsmAlignsFacts.asmAligns21 AsmAlignsFacts.asmAligns22 AsmAlignsFacts.asmAligns23 AsmAlignsFacts.asmAligns24 AsmAlignsFacts.asmAligns25 AsmAlignsFacts.asmAligns26 AsmAlignsFacts.asmAligns27 AsmAlignsFacts.asmAligns28 AsmAlignsFacts.asmAligns29 AsmAlignsFacts.asmAligns30 AsmAlignsFacts.asmAligns31)
    (of_decide_eq_true (by kernel_rfl)) (by unfold Func.isWrapper; first | (rw [if_pos (by decide +kernel)]; kernel_rfl) | (rw [if_neg (by decide +kernel)]; exact ⟨rfl, rfl⟩))
    (fun os started H enc _ => asmAligns_lifted os started H enc)
theorem asmAligns_wf : Rows.asmAlignsRow.wfByText (OpenSpec.ofChange Rows.asmAlignsSpec) = true := by kernel_rfl
theorem asmAligns_main : Tryz.pinned.checked.prog.mainIs = some (true, "bbbe0ccf25bc67d76d0ae3f10610bd39a619f9b04a27dc6019a86914bf7f9553".toList) := by kernel_rfl
theorem asmAligns_named : Tryz.prog.funcNamed "foundry/foundrylaw20.AsmAligns" = some 3 := by kernel_rfl
theorem asmAligns_looks : true = Tryz.pinned.checked.prog.looks [] := by kernel_rfl
theorem asmAligns_stand : ([3, 3, 3, 4].all fun u => !Tryz.prog.wantsStandIn u) = true := by kernel_rfl
theorem asmAligns_goes : false = Rows.asmAlignsRow.goesBy Tryz.pinned.checked.prog := by kernel_rfl
theorem asmAligns_card : Rows.AsmAlignsCardSaid :=
  Claim7.holds_tied_plain_at .later [] [.pinned, .data, .sentinel, .sentinel, .data, .data, .data, .data, .listed, .pinned] true (true, "bbbe0ccf25bc67d76d0ae3f10610bd39a619f9b04a27dc6019a86914bf7f9553") true
    asmAligns_holds (fun _ h => by cases h) asmAligns_wf (fun _ h => by cases h) asmAligns_row_tie rfl ⟨rfl, rfl⟩ asmAligns_main rfl
    (fun f fn hf hfn => by
      obtain rfl : f = 3 := Option.some.inj (asmAligns_named.symm.trans hf) |>.symm
      obtain rfl : fn = Tryz.f3 := (Option.some.inj (Tryz.func3.symm.trans hfn)).symm
      exact ⟨asmAligns_looks, fun j t ht => by
        rw [Tryz.params3] at ht
        have hm : t ∈ [3, 3, 3, 4] := by simpa using Array.mem_of_getElem? ht
        exact (show Tryz.prog.wantsStandIn t = false by simpa using List.all_eq_true.1 asmAligns_stand t hm)⟩)
    asmAligns_goes
end Go.Proofs.YthlcgkebfodnmaaGreatDoor
