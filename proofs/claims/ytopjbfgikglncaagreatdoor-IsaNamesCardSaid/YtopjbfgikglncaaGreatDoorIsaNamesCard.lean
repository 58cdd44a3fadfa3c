/- PROVED: IsaNames answers true, whatever the input. Conditions: those of the given card alone (the listed package-level variables read as the program's text lays them). -/
import Derived.Test.YtopjbfgikglncaaGreatDoorIsaNames
import Derived.Test.YtopjbfgikglncaaGreatDoorIsaNamesFacts
import Derived.Test.YtopjbfgikglncaaGreatDoorTie
import Derived.Test.YtopjbfgikglncaaGreatDoorCards
import Derived.ProofKit
import Derived.SevenTiedAt
namespace Go.Proofs.YtopjbfgikglncaaGreatDoor
open Go
theorem isaNames_holds : Rows.IsaNamesSaid :=
  OpenClaim.holds_of_wide 3 Tryz.f3 rfl rfl rfl rfl rfl rfl rfl ⟨rfl, rfl, rfl, rfl, rfl⟩ rfl rfl rfl rfl rfl (by kernel_rfl) Tryz.func3 (IsaNamesFacts.joined IsaNamesFacts.isaNames0 IsaNamesFacts.isaNames1 IsaNamesFacts.isaNames2 IsaNamesFacts.isaNames3 IsaNamesFacts.isaNames4 IsaNamesFacts.isaNames5 IsaNamesFacts.isaNames6 IsaNamesFacts.isaNames7 IsaNamesFacts.isaNames8 IsaNamesFacts.isaNames9 IsaNamesFacts.isaNames10 IsaNamesFacts.isaNames11 IsaNamesFacts.isaNames12 IsaNamesFacts.isaNames13 IsaNamesFacts.isaNames14 IsaNamesFacts.isaNames15 IsaNamesFacts.isaNames16 IsaNamesFacts.isaNames17 IsaNamesFacts.isaNames18 IsaNamesFacts.isaNames19 IsaNamesFacts.isaNames20 IsaNamesFacts.isaNames21 IsaNamesFacts.isaNames22 IsaNamesFacts.isaNames23 IsaNamesFacts.isaNames24 IsaNamesFacts.isaNames25 IsaNamesFacts.isaNames26 IsaNamesFacts.isaNames27 IsaNamesFacts.isaNames28 IsaNamesFacts.isaNames29 IsaNamesFacts.isaNames30 IsaNamesFacts.isaNames31)
    (of_decide_eq_true (by kernel_rfl)) (by unfold Func.isWrapper; first | (rw [if_pos (by decide +kernel)]; kernel_rfl) | (rw [if_neg (by decide +kernel)]; exact ⟨rfl, rfl⟩))
    (fun os started H enc _ => isaNames_lifted os started H enc)

theorem isaNames_wf : Rows.isaNamesRow.wfByText (OpenSpec.ofChange Rows.isaNamesSpec) = true := by kernel_rfl
theorem isaNames_main : Tryz.pinned.checked.prog.mainIs = some (true, "404a8b3b94c354d5650c71b0f30d4eab8c6ef82fac7a6ef25fa257d29cde1bb5".toList) := by kernel_rfl
theorem isaNames_named : Tryz.prog.funcNamed "foundry/foundrylaw13.IsaNames" = some 3 := by kernel_rfl
theorem isaNames_looks : true = Tryz.pinned.checked.prog.looks [] := by kernel_rfl
theorem isaNames_stand : ([3, 22].all fun u => !Tryz.prog.wantsStandIn u) = true := by kernel_rfl
theorem isaNames_goes : false = Rows.isaNamesRow.goesBy Tryz.pinned.checked.prog := by kernel_rfl
theorem isaNames_card : Rows.IsaNamesCardSaid :=
  Claim7.holds_tied_plain_at .later [] [.data, .data, .data, .data, .sentinel, .sentinel, .listed, .data, .pinned, .pinned] true (true, "404a8b3b94c354d5650c71b0f30d4eab8c6ef82fac7a6ef25fa257d29cde1bb5") true
    isaNames_holds (fun _ h => by cases h) isaNames_wf (fun _ h => by cases h) isaNames_row_tie rfl ⟨rfl, rfl⟩ isaNames_main rfl
    (fun f fn hf hfn => by
      obtain rfl : f = 3 := Option.some.inj (isaNames_named.symm.trans hf) |>.symm
      obtain rfl : fn = Tryz.f3 := (Option.some.inj (Tryz.func3.symm.trans hfn)).symm
      exact ⟨isaNames_looks, fun j t ht => by
        rw [Tryz.params3] at ht
        have hm : t ∈ [3, 22] := by simpa using Array.mem_of_getElem? ht
        exact (show Tryz.prog.wantsStandIn t = false by simpa using List.all_eq_true.1 isaNames_stand t hm)⟩)
    isaNames_goes
end Go.Proofs.YtopjbfgikglncaaGreatDoor
