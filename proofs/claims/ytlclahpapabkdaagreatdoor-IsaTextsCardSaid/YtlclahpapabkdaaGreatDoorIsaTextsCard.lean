/- PROVED: IsaTexts: two instructions that may be, unlike each other, have unlike texts. Conditions: those of the given card alone (the listed package-level variables read as the program's text lays them). -/
import Derived.Test.YtlclahpapabkdaaGreatDoorTxLaw
import Derived.Test.YtlclahpapabkdaaGreatDoorIsaTextsFacts
import Derived.Test.YtlclahpapabkdaaGreatDoorTie
import Derived.Test.YtlclahpapabkdaaGreatDoorCards
import Derived.ProofKit
import Derived.SevenTiedAt
namespace Go.Proofs.YtlclahpapabkdaaGreatDoor
open Go
theorem isaTexts_holds : Rows.IsaTextsSaid :=
  OpenClaim.holds_of_wide 3 Tryz.f3 rfl rfl rfl rfl rfl rfl rfl ⟨rfl, rfl, rfl, rfl, rfl⟩ rfl rfl rfl rfl rfl (by kernel_rfl) Tryz.func3 (IsaTextsFacts.joined IsaTextsFacts.isaTexts0 IsaTextsFacts.isaTexts1 IsaTextsFacts.isaTexts2 IsaTextsFacts.isaTexts3 IsaTextsFacts.isaTexts4 IsaTextsFacts.isaTexts5 IsaTextsFacts.isaTexts6 IsaTextsFacts.isaTexts7 IsaTextsFacts.isaTexts8 IsaTextsFacts.isaTexts9 IsaTextsFacts.isaTexts10 IsaTextsFacts.isaTexts11 IsaTextsFacts.isaTexts12 IsaTextsFacts.isaTexts13 IsaTextsFacts.isaTexts14 IsaTextsFacts.isaTexts15 IsaTextsFacts.isaTexts16 IsaTextsFacts.isaTexts17 IsaTextsFacts.isaTexts18 IsaTextsFacts.isaTexts19 IsaTextsFacts.isaTexts20 IsaTextsFacts.isaTexts21 IsaTextsFacts.isaTexts22 IsaTextsFacts.isaTexts23 IsaTextsFacts.isaTexts24 IsaTextsFacts.isaTexts25 IsaTextsFacts.isaTexts26 IsaTextsFacts.isaTexts27 IsaTextsFacts.isaTexts28 IsaTextsFacts.isaTexts29 IsaTextsFacts.isaTexts30 IsaTextsFacts.isaTexts31)
    (of_decide_eq_true (by kernel_rfl)) (by unfold Func.isWrapper; first | (rw [if_pos (by decide +kernel)]; kernel_rfl) | (rw [if_neg (by decide +kernel)]; exact ⟨rfl, rfl⟩))
    (fun os started H enc _ => isaTexts_lifted os started H enc)
theorem isaTexts_wf : Rows.isaTextsRow.wfByText (OpenSpec.ofChange Rows.isaTextsSpec) = true := by kernel_rfl
theorem isaTexts_main : Tryz.pinned.checked.prog.mainIs = some (true, "b5c87d300a4b61618568e5fbbe4c677db5fff3430a72ab6d1369ada07e0e0f2f".toList) := by kernel_rfl
theorem isaTexts_named : Tryz.prog.funcNamed "foundry/foundrylaw13.IsaTexts" = some 3 := by kernel_rfl
theorem isaTexts_looks : true = Tryz.pinned.checked.prog.looks [] := by kernel_rfl
theorem isaTexts_stand : ([3, 23, 23].all fun u => !Tryz.prog.wantsStandIn u) = true := by kernel_rfl
theorem isaTexts_goes : false = Rows.isaTextsRow.goesBy Tryz.pinned.checked.prog := by kernel_rfl
theorem isaTexts_card : Rows.IsaTextsCardSaid :=
  Claim7.holds_tied_plain_at .later [] [.data, .data, .data, .data, .sentinel, .sentinel, .listed, .data, .pinned, .pinned] true (true, "b5c87d300a4b61618568e5fbbe4c677db5fff3430a72ab6d1369ada07e0e0f2f") true
    isaTexts_holds (fun _ h => by cases h) isaTexts_wf (fun _ h => by cases h) isaTexts_row_tie rfl ⟨rfl, rfl⟩ isaTexts_main rfl
    (fun f fn hf hfn => by
      obtain rfl : f = 3 := Option.some.inj (isaTexts_named.symm.trans hf) |>.symm
      obtain rfl : fn = Tryz.f3 := (Option.some.inj (Tryz.func3.symm.trans hfn)).symm
      exact ⟨isaTexts_looks, fun j t ht => by
        rw [Tryz.params3] at ht
        have hm : t ∈ [3, 23, 23] := by simpa using Array.mem_of_getElem? ht
        exact (show Tryz.prog.wantsStandIn t = false by simpa using List.all_eq_true.1 isaTexts_stand t hm)⟩)
    isaTexts_goes
end Go.Proofs.YtlclahpapabkdaaGreatDoor
