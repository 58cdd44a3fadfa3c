/- foundrylaw13.begun answers true: by the interpreter, run by the kernel. -/
import Derived.Test.YtlclahpapabkdaaGreatDoorTxBase
import Derived.Test.YtlclahpapabkdaaGreatDoorVaiH
import Derived.KernelRfl
namespace Go.Proofs.YtlclahpapabkdaaGreatDoor
open Go Go.Vai
set_option maxRecDepth 100000
theorem begun_fn : (E1.fn 4).isSome = true := by kernel_rfl
theorem begun_run : TRes.isB true (runR E1 100000 (.call 4 [] (gHeap 12 gl))) = true := by kernel_rfl
theorem begun_ret : ∀ w, GlobOk gl w → (callFunc 4 #[]).run Tryz.prog w = .ok (.enter 4 #[]) w ∧ Calls Tryz.prog 4 #[] w fun e w' => e = .returned (.bool true) ∧ Keeps w w' := by
  intro w hw
  have h := begun_run
  rw [runR_eq] at h
  have h2 : ∃ H1, run E1 100000 (.call 4 [] (gHeap 12 gl)) = some (.call (.ret (.bool true) H1)) := by
    unfold TRes.isB at h
    split at h
    · rename_i b H1 e
      simp only [beq_iff_eq] at h
      subst h
      exact ⟨H1, e⟩
    · cases h
  obtain ⟨H1, h2⟩ := h2
  obtain ⟨a, b⟩ := body_closed (args := []) (cargs := []) (E := E1) e1_ok gl_ok begun_fn trivial h2 w hw
  refine ⟨a, Calls.mono (callsIn_wide.1 b) ?_⟩
  rintro e w' ⟨cv, v, H, M, rfl, _, kp, hv, rfl, rfl⟩
  simp only [VRel] at hv
  exact ⟨by rw [hv], kp.2.1⟩
end Go.Proofs.YtlclahpapabkdaaGreatDoor
