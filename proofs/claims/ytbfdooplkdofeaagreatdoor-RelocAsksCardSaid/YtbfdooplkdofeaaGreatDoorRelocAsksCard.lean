/- PROVED: RelocAsks: what an operand asks for, and pairs, are the document's. Conditions: those of the given card alone (the listed package-level variables read as the program's text lays them). -/
import Derived.Test.YtbfdooplkdofeaaGreatDoorAsLaw
import Derived.Test.YtbfdooplkdofeaaGreatDoorRelocAsksFacts
import Derived.Test.YtbfdooplkdofeaaGreatDoorTie
import Derived.Test.YtbfdooplkdofeaaGreatDoorCards
import Derived.ProofKit
import Derived.SevenTiedAt
namespace Go.Proofs.YtbfdooplkdofeaaGreatDoor
open Go
theorem relocAsks_holds : Rows.RelocAsksSaid :=
  OpenClaim.holds_of_wide 3 Tryz.f3 rfl rfl rfl rfl rfl rfl rfl ⟨rfl, rfl, rfl, rfl, rfl⟩ rfl rfl rfl rfl rfl (by kernel_rfl) Tryz.func3 (RelocAsksFacts.joined RelocAsksFacts.relocAsks0 RelocAsksFacts.relocAsks1 RelocAsksFacts.relocAsks2 RelocAsksFacts.relocAsks3 RelocAsksFacts.relocAsks4 RelocAsksFacts.relocAsks5 RelocAsksFacts.relocAsks6 RelocAsksFacts.relocAsks7 RelocAsksFacts.relocAsks8 RelocAsksFacts.relocAsks9 RelocAsksFacts.relocAsks10 RelocAsksFacts.relocAsks11 RelocAsksFacts.relocAsks12 RelocAsksFacts.relocAsks13 RelocAsksFacts.relocAsks14 RelocAsksFacts.relocAsks15 RelocAsksFacts.relocAsks16 RelocAsksFacts.relocAsks17 RelocAsksFacts.relocAsks18 RelocAsksFacts.relocAsks19 RelocAsksFacts.relocAsks20 RelocAsksFacts.relocAsks21 RelocAsksFacts.relocAsks22 RelocAsksFacts.relocAsks23 RelocAsksFacts.relocAsks24 RelocAsksFacts.relocAsks25 RelocAsksFacts.relocAsks26 RelocAsksFacts.relocAsks27 RelocAsksFacts.relocAsks28 RelocAsksFacts.relocAsks29 RelocAsksFacts.relocAsks30 RelocAsksFacts.relocAsks31)
    (of_decide_eq_true (by kernel_rfl)) (by unfold Func.isWrapper; first | (rw [if_pos (by decide +kernel)]; kernel_rfl) | (rw [if_neg (by decide +kernel)]; exact ⟨rfl, rfl⟩))
    (fun os started H enc _ => relocAsks_lifted os started H enc)
theorem relocAsks_wf : Rows.relocAsksRow.wfByText (OpenSpec.ofChange Rows.relocAsksSpec) = true := by kernel_rfl
theorem relocAsks_main : Tryz.pinned.checked.prog.mainIs = some (true, "a25289f0ca8e29adfcc6b228760555f8335217205b7fea9ec2cb661e4a80fbb7".toList) := by kernel_rfl
theorem relocAsks_named : Tryz.prog.funcNamed "foundry/foundrylaw16.RelocAsks" = some 3 := by kernel_rfl
theorem relocAsks_looks : true = Tryz.pinned.checked.prog.looks [] := by kernel_rfl
theorem relocAsks_stand : ([3, 23, 9, 3, 24, 25].all fun u => !Tryz.prog.wantsStandIn u) = true := by kernel_rfl
theorem relocAsks_goes : false = Rows.relocAsksRow.goesBy Tryz.pinned.checked.prog := by kernel_rfl
theorem relocAsks_card : Rows.RelocAsksCardSaid :=
  Claim7.holds_tied_plain_at .later [] [.data, .data, .data, .data, .sentinel, .sentinel, .listed, .data, .pinned, .pinned] true (true, "a25289f0ca8e29adfcc6b228760555f8335217205b7fea9ec2cb661e4a80fbb7") true
    relocAsks_holds (fun _ h => by cases h) relocAsks_wf (fun _ h => by cases h) relocAsks_row_tie rfl ⟨rfl, rfl⟩ relocAsks_main rfl
    (fun f fn hf hfn => by
      obtain rfl : f = 3 := Option.some.inj (relocAsks_named.symm.trans hf) |>.symm
      obtain rfl : fn = Tryz.f3 := (Option.some.inj (Tryz.func3.symm.trans hfn)).symm
      exact ⟨relocAsks_looks, fun j t ht => by
        rw [Tryz.params3] at ht
        have hm : t ∈ [3, 23, 9, 3, 24, 25] := by simpa using Array.mem_of_getElem? ht
        exact (show Tryz.prog.wantsStandIn t = false by simpa using List.all_eq_true.1 relocAsks_stand t hm)⟩)
    relocAsks_goes
end Go.Proofs.YtbfdooplkdofeaaGreatDoor
