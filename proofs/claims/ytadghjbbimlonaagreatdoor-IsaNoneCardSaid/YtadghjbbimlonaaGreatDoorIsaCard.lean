/- PROVED: 'foundrylaw13.IsaNone' answers true for every input and leaves its arguments as they were. Conditions: those of the given card alone (the listed package-level variables read as the program's text lays them). -/
import Derived.Test.YtadghjbbimlonaaGreatDoorIsaNone
import Derived.Test.YtadghjbbimlonaaGreatDoorIsaFacts
import Derived.Test.YtadghjbbimlonaaGreatDoorTie
import Derived.Test.YtadghjbbimlonaaGreatDoorCards
import Derived.ProofKit
import Derived.SevenTiedAt
namespace Go.Proofs.YtadghjbbimlonaaGreatDoor
open Go
theorem isaNone_holds : Rows.IsaNoneSaid :=
  OpenClaim.holds_of_wide 7 Tryz.f7 rfl rfl rfl rfl rfl rfl rfl ⟨rfl, rfl, rfl, rfl, rfl⟩ rfl rfl rfl rfl rfl (by kernel_rfl) Tryz.func7 (Facts.joined Facts.isaNone0 Facts.isaNone1 Facts.isaNone2 Facts.isaNone3 Facts.isaNone4 Facts.isaNone5 Facts.isaNone6 Facts.isaNone7 Facts.isaNone8 Facts.isaNone9 Facts.isaNone10 Facts.isaNone11 Facts.isaNone12 Facts.isaNone13 Facts.isaNone14 Facts.isaNone15 Facts.isaNone16 Facts.isaNone17 Facts.isaNone18 Facts.isaNone19 Facts.isaNone20 Facts.isaNone21 Facts.isaNone22 Facts.isaNone23 Facts.isaNone24 Facts.isaNone25 Facts.isaNone26 Facts.isaNone27 Facts.isaNone28 Facts.isaNone29 Facts.isaNone30 Facts.isaNone31)
    (of_decide_eq_true (by kernel_rfl)) (by unfold Func.isWrapper; first | (rw [if_pos (by decide +kernel)]; kernel_rfl) | (rw [if_neg (by decide +kernel)]; exact ⟨rfl, rfl⟩))
    (fun os started H enc _ => lifted os started H enc)

theorem isaNone_wf : Rows.isaNoneRow.wfByText (OpenSpec.ofChange Rows.isaNoneSpec) = true := by kernel_rfl
theorem isaNone_main : Tryz.pinned.checked.prog.mainIs = some (true, "a4e7c76d04ff8951951d544189fde6eab71803d54ab699d82d4318333b8e0e40".toList) := by kernel_rfl
theorem isaNone_named : Tryz.prog.funcNamed "foundry/foundrylaw13.IsaNone" = some 7 := by kernel_rfl
theorem isaNone_looks : true = Tryz.pinned.checked.prog.looks [] := by kernel_rfl
theorem isaNone_stand : ([3, 29, 23, 9].all fun u => !Tryz.prog.wantsStandIn u) = true := by kernel_rfl
theorem isaNone_goes : false = Rows.isaNoneRow.goesBy Tryz.pinned.checked.prog := by kernel_rfl
theorem isaNone_card : Rows.IsaNoneCardSaid :=
  Claim7.holds_tied_plain_at .later [] [.data, .data, .data, .data, .sentinel, .sentinel, .listed, .data, .pinned, .pinned] true (true, "a4e7c76d04ff8951951d544189fde6eab71803d54ab699d82d4318333b8e0e40") true
    isaNone_holds (fun _ h => by cases h) isaNone_wf (fun _ h => by cases h) isaNone_row_tie rfl ⟨rfl, rfl⟩ isaNone_main rfl
    (fun f fn hf hfn => by
      obtain rfl : f = 7 := Option.some.inj (isaNone_named.symm.trans hf) |>.symm
      obtain rfl : fn = Tryz.f7 := (Option.some.inj (Tryz.func7.symm.trans hfn)).symm
      exact ⟨isaNone_looks, fun j t ht => by
        rw [Tryz.params7] at ht
        have hm : t ∈ [3, 29, 23, 9] := by simpa using Array.mem_of_getElem? ht
        exact (show Tryz.prog.wantsStandIn t = false by simpa using List.all_eq_true.1 isaNone_stand t hm)⟩)
    isaNone_goes
end Go.Proofs.YtadghjbbimlonaaGreatDoor
