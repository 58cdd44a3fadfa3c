/- 'begun' of package parse's laws answers true: by the interpreter, run by the kernel. -/
import Derived.Test.YtafpmnccoogojaaGreatDoorLxBase
import Derived.KernelRfl
namespace Go.Proofs.YtafpmnccoogojaaGreatDoor
open Go Go.Vai
noncomputable section
set_option maxRecDepth 100000
def EBg : Env := envOf Tryz.prog 12 [85] (orSm (extSm kinds) (contSm 85))
theorem ebg_ok (w : World) (hw : GlobOk gl w) : EnvOk EBg Tryz.prog (Kept gl w) := envOk_sm (by kernel_rfl) ((smOk_ext ext_ok).or cont_ok1) mixed_ok (fun _ _ _ h => h.1) (kept_carried hw).ext
theorem begun_fn : (EBg.fn 4).isSome = true := by kernel_rfl
theorem begun_run : TRes.isB true (runR EBg 100000 (.call 4 [] (gHeap 12 gl))) = true := by kernel_rfl
theorem begun_ret : ∀ w, GlobOk gl w → (callFunc 4 #[]).run Tryz.prog w = .ok (.enter 4 #[]) w ∧ Calls Tryz.prog 4 #[] w fun e w' => e = .returned (.bool true) ∧ Keeps w w' := by
  intro w hw
  have h := begun_run
  rw [runR_eq] at h
  obtain ⟨H1, h2⟩ := TRes.isB_some h
  obtain ⟨a, b⟩ := body_closed (args := []) (cargs := []) (E := EBg) ebg_ok gl_ok begun_fn trivial h2 w hw
  refine ⟨a, Calls.mono (callsIn_wide.1 b) ?_⟩
  rintro e w' ⟨cv, v, H, M, rfl, _, kp, hv, rfl, rfl⟩
  simp only [VRel] at hv
  exact ⟨by rw [hv], kp.2.1⟩
end
end Go.Proofs.YtafpmnccoogojaaGreatDoor
