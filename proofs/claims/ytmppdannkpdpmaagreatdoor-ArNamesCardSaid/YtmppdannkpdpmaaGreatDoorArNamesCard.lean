/- PROVED: 'foundrylaw7.ArNames' answers true from any input; what it reads reads as it did. Conditions: those of the given card alone (the listed package-level variables read as the program's text lays them). -/
import Derived.Test.YtmppdannkpdpmaaGreatDoorArLaw
import Derived.Test.YtmppdannkpdpmaaGreatDoorArNamesFacts
import Derived.Test.YtmppdannkpdpmaaGreatDoorTie
import Derived.Test.YtmppdannkpdpmaaGreatDoorCards
import Derived.ProofKit
import Derived.SevenTiedAt
namespace Go.Proofs.YtmppdannkpdpmaaGreatDoor
open Go
theorem arNames_holds : Rows.ArNamesSaid :=
  OpenClaim.holds_of_wide 6 Tryz.f6 rfl rfl rfl rfl rfl rfl rfl ⟨rfl, rfl, rfl, rfl, rfl⟩ rfl rfl rfl rfl rfl (by kernel_rfl) Tryz.func6 (ArNamesFacts.joined ArNamesFacts.arNames0 ArNamesFacts.arNames1 ArNamesFacts.arNames2 ArNamesFacts.arNames3 ArNamesFacts.arNames4 ArNamesFacts.arNames5 ArNamesFacts.arNames6 ArNamesFacts.arNames7 ArNamesFacts.arNames8 ArNamesFacts.arNames9 ArNamesFacts.arNames10 ArNamesFacts.arNames11 ArNamesFacts.arNames12 ArNamesFacts.arNames13 ArNamesFacts.arNames14 ArNamesFacts.arNames15 ArNamesFacts.arNames16 ArNamesFacts.arNames17 ArNamesFacts.arNames18 ArNamesFacts.arNames19 ArNamesFacts.arNames20 ArNamesFacts.arNames21 ArNamesFacts.arNames22 ArNamesFacts.arNames23 ArNamesFacts.arNames24 ArNamesFacts.arNames25 ArNamesFacts.arNames26 ArNamesFacts.arNames27 ArNamesFacts.arNames28 ArNamesFacts.arNames29 ArNamesFacts.arNames30 ArNamesFacts.arNames31)
    (of_decide_eq_true (by kernel_rfl)) (by unfold Func.isWrapper; first | (rw [if_pos (by decide +kernel)]; kernel_rfl) | (rw [if_neg (by decide +kernel)]; exact ⟨rfl, rfl⟩))
    (fun os started H enc _ => Zuu os started H enc)
theorem arNames_wf : Rows.arNamesRow.wfByText (OpenSpec.ofChange Rows.arNamesSpec) = true := by kernel_rfl
theorem arNames_main : Tryz.pinned.checked.prog.mainIs = some (true, "610d9cdabd3cb1dc055697ea2470dbac6a7a42b8a3377b76031d2817c8b858f5".toList) := by kernel_rfl
theorem arNames_named : Tryz.prog.funcNamed "foundry/foundrylaw7.ArNames" = some 6 := by kernel_rfl
theorem arNames_looks : true = Tryz.pinned.checked.prog.looks [] := by kernel_rfl
theorem arNames_stand : ([3, 3, 25].all fun u => !Tryz.prog.wantsStandIn u) = true := by kernel_rfl
theorem arNames_goes : false = Rows.arNamesRow.goesBy Tryz.pinned.checked.prog := by kernel_rfl
theorem arNames_card : Rows.ArNamesCardSaid :=
  Claim7.holds_tied_plain_at .later [] [.data, .data, .data, .data, .sentinel, .sentinel, .pinned] true (true, "610d9cdabd3cb1dc055697ea2470dbac6a7a42b8a3377b76031d2817c8b858f5") true
    arNames_holds (fun _ h => by cases h) arNames_wf (fun _ h => by cases h) arNames_row_tie rfl ⟨rfl, rfl⟩ arNames_main rfl
    (fun f fn hf hfn => by
      obtain rfl : f = 6 := Option.some.inj (arNames_named.symm.trans hf) |>.symm
      obtain rfl : fn = Tryz.f6 := (Option.some.inj (Tryz.func6.symm.trans hfn)).symm
      exact ⟨arNames_looks, fun j t ht => by
        rw [Tryz.params6] at ht
        have hm : t ∈ [3, 3, 25] := by simpa using Array.mem_of_getElem? ht
        exact (show Tryz.prog.wantsStandIn t = false by simpa using List.all_eq_true.1 arNames_stand t hm)⟩)
    arNames_goes
end Go.Proofs.YtmppdannkpdpmaaGreatDoor
