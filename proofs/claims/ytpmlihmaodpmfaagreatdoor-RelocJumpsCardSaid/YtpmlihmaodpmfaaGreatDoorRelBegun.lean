/- foundrylaw16.begun answers true: by the interpreter, run by the kernel (strings.Contains and reloc.Data by what they answer). -/
import Derived.Test.YtpmlihmaodpmfaaGreatDoorRelData
import Derived.Test.YtpmlihmaodpmfaaGreatDoorVaiH
import Derived.KernelRfl
namespace Go.Proofs.YtpmlihmaodpmfaaGreatDoor
open Go Go.Vai
set_option maxRecDepth 100000
noncomputable def EB : Env := envOf Tryz.prog 12 [21, 11] (orSm (extSm kinds) (orSm (contSm 21) dataSm))
theorem eb_ok (w : World) (hw : GlobOk gl w) : EnvOk EB Tryz.prog (Kept gl w) := envOk_sm (by kernel_rfl) ((smOk_ext ext_ok).or (cont_ok1.or data_ok)) mixed_ok (fun _ _ _ h => h.1) (kept_carried hw).ext
theorem begun_fn : (EB.fn 5).isSome = true := by kernel_rfl
theorem begun_run : TRes.isB true (runR EB 100000 (.call 5 [] (gHeap 12 gl))) = true := by kernel_rfl
theorem begun_ret : ∀ w, GlobOk gl w → (callFunc 5 #[]).run Tryz.prog w = .ok (.enter 5 #[]) w ∧ Calls Tryz.prog 5 #[] w fun e w' => e = .returned (.bool true) ∧ Keeps w w' := by
  intro w hw
  have h := begun_run
  rw [runR_eq] at h
  have h2 : ∃ H1, run EB 100000 (.call 5 [] (gHeap 12 gl)) = some (.call (.ret (.bool true) H1)) := by
    unfold TRes.isB at h
    split at h
    · rename_i b H1 e
      simp only [beq_iff_eq] at h
      subst h
      exact ⟨H1, e⟩
    · cases h
  obtain ⟨H1, h2⟩ := h2
  obtain ⟨a, b⟩ := body_closed (args := []) (cargs := []) (E := EB) eb_ok gl_ok begun_fn trivial h2 w hw
  refine ⟨a, Calls.mono (callsIn_wide.1 b) ?_⟩
  rintro e w' ⟨cv, v, H, M, rfl, _, kp, hv, rfl, rfl⟩
  simp only [VRel] at hv
  exact ⟨by rw [hv], kp.2.1⟩
end Go.Proofs.YtpmlihmaodpmfaaGreatDoor
