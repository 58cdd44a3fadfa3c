/- foundrylaw20.begun answers true: by the interpreter, run by the kernel. -/
import Derived.Test.YthlcgkebfodnmaaGreatDoorAsBgD0
import Derived.Test.YthlcgkebfodnmaaGreatDoorAsBgD1
import Derived.Test.YthlcgkebfodnmaaGreatDoorAsBgD2
namespace Go.Proofs.YthlcgkebfodnmaaGreatDoor
open Go Go.Vai
noncomputable section
set_option maxRecDepth 100000
def EBg : Env := envOf Tryz.prog 12 [6, 88, 127] (orSm (extSm kinds) (orSm (contSm 127) (orSm dataSm (orSm (closedSm srcD0) (orSm (closedSm srcD1) (closedSm srcD2))))))
theorem ebg_ok (w : World) (hw : GlobOk gl w) : EnvOk EBg Tryz.prog (Kept gl w) := envOk_sm (by kernel_rfl) ((smOk_ext ext_ok).or (cont_ok1.or (data_ok.or (srcD0_ok.or (srcD1_ok.or srcD2_ok))))) mixed_ok (fun _ _ _ h => h.1) (kept_carried hw).ext
theorem begun_fn : (EBg.fn 5).isSome = true := by kernel_rfl
theorem begun_run : TRes.isB true (runR EBg 100000 (.call 5 [] (gHeap 12 gl))) = true := by kernel_rfl
theorem begun_ret : ∀ w, GlobOk gl w → (callFunc 5 #[]).run Tryz.prog w = .ok (.enter 5 #[]) w ∧ Calls Tryz.prog 5 #[] w fun e w' => e = .returned (.bool true) ∧ Keeps w w' := by
  intro w hw
  have h := begun_run
  rw [runR_eq] at h
  obtain ⟨H1, h2⟩ := TRes.isB_some h
  obtain ⟨a, b⟩ := body_closed (args := []) (cargs := []) (E := EBg) ebg_ok gl_ok begun_fn trivial h2 w hw
  refine ⟨a, Calls.mono (callsIn_wide.1 b) ?_⟩
  rintro e w' ⟨cv, v, H, M, rfl, _, kp, hv, rfl, rfl⟩
  simp only [VRel] at hv
  exact ⟨by rw [hv], kp.2.1⟩
end
end Go.Proofs.YthlcgkebfodnmaaGreatDoor
