/- PROVED: Whatever the input: RelocField answers true, and the input reads as it did. Conditions: those of the given card alone (the listed package-level variables read as the program's text lays them). -/
import Derived.Test.YtaakhjmfojoodaaGreatDoorRelocFieldLaw
import Derived.Test.YtaakhjmfojoodaaGreatDoorRelocFieldFacts
namespace Go.Proofs.YtaakhjmfojoodaaGreatDoor
open Go
theorem Zlx : Rows.RelocFieldSaid :=
  OpenClaim.holds_of_wide 3 Tryz.f3 rfl rfl rfl rfl rfl rfl rfl ⟨rfl, rfl, rfl, rfl, rfl⟩ rfl rfl rfl rfl rfl (by kernel_rfl) Tryz.func3 (RelocFieldFacts.joined RelocFieldFacts.relocField0 RelocFieldFacts.relocField1 RelocFieldFacts.relocField2 RelocFieldFacts.relocField3 RelocFieldFacts.relocField4 RelocFieldFacts.relocField5 RelocFieldFacts.relocField6 RelocFieldFacts.relocField7 RelocFieldFacts.relocField8 RelocFieldFacts.relocField9 RelocFieldFacts.relocField10 RelocFieldFacts.relocField11 RelocFieldFacts.relocField12 RelocFieldFacts.relocField13 RelocFieldFacts.relocField14 RelocFieldFacts.relocField15 RelocFieldFacts.relocField16 RelocFieldFacts.relocField17 RelocFieldFacts.relocField18 RelocFieldFacts.relocField19 RelocFieldFacts.relocField20 RelocFieldFacts.relocField21 RelocFieldFacts.relocField22 RelocFieldFacts.relocField23 RelocFieldFacts.relocField24 RelocFieldFacts.relocField25 RelocFieldFacts.relocField26 RelocFieldFacts.relocField27 RelocFieldFacts.relocField28 RelocFieldFacts.relocField29 RelocFieldFacts.relocField30 RelocFieldFacts.relocField31)
    (of_decide_eq_true (by kernel_rfl)) (by unfold Func.isWrapper; first | (rw [if_pos (by decide +kernel)]; kernel_rfl) | (rw [if_neg (by decide +kernel)]; exact ⟨rfl, rfl⟩))
    (fun os started H enc _ => Zkl os started H enc)
theorem Zq0 : Rows.relocFieldRow.wfByText (OpenSpec.ofChange Rows.relocFieldSpec) = true := by kernel_rfl
theorem Zm8 : Tryz.pinned.checked.prog.mainIs = some (true, "b8bc29d6e52e8a263339bec90fc4da46fa49e886f0c34214e9d64c8f95cbea03".toList) := by kernel_rfl
theorem Zlc : Tryz.prog.funcNamed "foundry/foundrylaw16.RelocField" = some 3 := by kernel_rfl
theorem Zlt : true = Tryz.pinned.checked.prog.looks [] := by kernel_rfl
theorem Zl7 : ([3, 3, 22, 3, 23, 23].all fun u => !Tryz.prog.wantsStandIn u) = true := by kernel_rfl
theorem Znc : false = Rows.relocFieldRow.goesBy Tryz.pinned.checked.prog := by kernel_rfl
theorem relocField_card : Rows.RelocFieldCardSaid :=
  Claim7.holds_tied_plain_at .later [] [.data, .data, .data, .data, .sentinel, .sentinel, .listed, .data, .pinned, .pinned] true (true, "b8bc29d6e52e8a263339bec90fc4da46fa49e886f0c34214e9d64c8f95cbea03") true
    Zlx (fun _ h => by cases h) Zq0 (fun _ h => by cases h) relocField_row_tie rfl ⟨rfl, rfl⟩ Zm8 rfl
    (fun f fn hf hfn => by
      obtain rfl : f = 3 := Option.some.inj (Zlc.symm.trans hf) |>.symm
      obtain rfl : fn = Tryz.f3 := (Option.some.inj (Tryz.func3.symm.trans hfn)).symm
      exact ⟨Zlt, fun j t ht => by
        rw [Tryz.params3] at ht
        have hm : t ∈ [3, 3, 22, 3, 23, 23] := by simpa using Array.mem_of_getElem? ht
        exact (show Tryz.prog.wantsStandIn t = false by simpa using List.all_eq_true.1 Zl7 t hm)⟩)
    Znc
end Go.Proofs.YtaakhjmfojoodaaGreatDoor
