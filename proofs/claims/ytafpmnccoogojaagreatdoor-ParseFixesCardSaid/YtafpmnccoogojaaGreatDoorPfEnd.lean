/- ParseFixes answers true, whatever the input. -/
import Derived.Test.YtafpmnccoogojaaGreatDoorPfLaw
import Derived.KernelRfl
namespace Go.Proofs.YtafpmnccoogojaaGreatDoor
open Go Go.Vai
noncomputable section
set_option maxRecDepth 100000
theorem sc_ok {α : Type} : SmkOk (α := α) EPf (fun f a H k => smC EPf f a H k) := fun _ _ _ _ _ h => smC_ok _ _ _ _ _ _ h
theorem runLo (t : Int) (n k : Nat) (g : Bool) : callPS EPf (fun f a H k => smC EPf f a H k) noPin 1000 (.call 3 [.int .i64 t, .int .u32 (.ofNat n), .bool g, .int .u8 (.ofNat k)] (gHeap 12 gl)) (pO 4 14) jK = bc (ilt t (.ofNat 1)) (some (.bool true)) (none) := by kernel_rfl
theorem runHi (t : Int) (n k : Nat) (g : Bool) : callPS EPf (fun f a H k => smC EPf f a H k) noPin 1000 (.call 3 [.int .i64 t, .int .u32 (.ofNat n), .bool g, .int .u8 (.ofNat k)] (gHeap 12 gl)) (pO 4 8) jK = bc (ilt t (.ofNat 1)) (none) (bc (ilt (.ofNat 3) t) (some (.bool true)) (none)) := by kernel_rfl
theorem law_all (t : Int) {n k : Nat} (hn : n < 4294967296) (hk : k < 256) (g : Bool) : LawR t n k g := by
  by_cases h1 : t < 1
  · exact ⟨_, _, _, sc_ok, (runLo t n k g).trans (by rw [show ilt t (.ofNat 1) = true from by rw [ilt_iff]; exact decide_eq_true h1]; rfl)⟩
  by_cases h2 : 3 < t
  · exact ⟨_, _, _, sc_ok, (runHi t n k g).trans (by rw [show ilt t (.ofNat 1) = false from by rw [ilt_iff]; exact decide_eq_false h1, show ilt (.ofNat 3) t = true from by rw [ilt_iff]; exact decide_eq_true h2]; rfl)⟩
  have h3 : t = 1 ∨ t = 2 ∨ t = 3 := by omega
  rcases h3 with rfl | rfl | rfl
  · exact law_t1 hn hk g
  · exact law_t2 hn hk g
  · exact law_t3 hn hk g
theorem law_fn : (EPf.fn 3).isSome = true := by kernel_rfl
theorem law_calls {w : World} (hw : GlobOk gl w) (t : Int) {n k : Nat} (hn : n < 4294967296) (hk : k < 256) (g : Bool) : Calls Tryz.prog 3 #[.int .i64 t, .int .u32 (.ofNat n), .bool g, .int .u8 (.ofNat k)] w fun e w' => e = .returned (.bool true) ∧ Keeps w w' := by
  obtain ⟨s, pn, o, hs, h⟩ := law_all t hn hk g
  obtain ⟨x, o', e, hk⟩ := callPS_ok EPf hs pn 1000 _ _ _ _ h
  cases x with
  | code a b c => cases hk
  | dcall a => cases hk
  | call c =>
    cases c with
    | pan v H => cases hk
    | ret v1 H1 =>
      have hv1 := rn_bool (b := 0) (keep := []) (x := v1) (c := true) hk
      subst hv1
      obtain ⟨_, b⟩ := body_closed (args := [.int .i64 t, .int .u32 (.ofNat n), .bool g, .int .u8 (.ofNat k)]) (cargs := [.int .i64 t, .int .u32 (.ofNat n), .bool g, .int .u8 (.ofNat k)]) (E := EPf) epf_ok gl_ok law_fn ⟨by simp [VRel], by simp [VRel], by simp [VRel], by simp [VRel], trivial⟩ e w hw
      refine Calls.mono (callsIn_wide.1 b) ?_
      rintro e w' ⟨cv, v, H, M, rfl, _, kp, hv, rfl, rfl⟩
      simp only [VRel] at hv
      exact ⟨by rw [hv], kp.2.1⟩
end
end Go.Proofs.YtafpmnccoogojaaGreatDoor
