/- foundrylaw16.begun answers true: by the interpreter, run by the kernel (strings.Contains and reloc.Data by what they answer). -/
import Derived.Test.YtbfdooplkdofeaaGreatDoorAsData
import Derived.Test.YtbfdooplkdofeaaGreatDoorVaiH
import Derived.KernelRfl
namespace Go.Proofs.YtbfdooplkdofeaaGreatDoor
open Go Go.Vai
set_option maxRecDepth 100000
noncomputable def EB : Env := Zdn Tryz.prog 12 [15, 7] (orSm (Zd2 kinds) (orSm (Zb7 15) dataSm))
theorem eb_ok (w : World) (hw : Zay gl w) : EnvOk EB Tryz.prog (Kept gl w) := Zb9 (by kernel_rfl) ((Zcc ext_ok).or (Zca.or data_ok)) Zcb (fun _ _ _ h => h.1) (Zau hw).ext
theorem begun_fn : (EB.fn 4).isSome = true := by kernel_rfl
theorem begun_run : TRes.isB true (runR EB 100000 (.call 4 [] (Zap 12 gl))) = true := by kernel_rfl
theorem begun_ret : ∀ w, Zay gl w → (callFunc 4 #[]).run Tryz.prog w = .ok (.enter 4 #[]) w ∧ Calls Tryz.prog 4 #[] w fun e w' => e = .returned (.bool true) ∧ Keeps w w' := by
  intro w hw
  have h := begun_run
  rw [Zat] at h
  have h2 : ∃ H1, run EB 100000 (.call 4 [] (Zap 12 gl)) = some (.call (.ret (.bool true) H1)) := by
    unfold TRes.isB at h
    split at h
    · rename_i b H1 e
      simp only [beq_iff_eq] at h
      subst h
      exact ⟨H1, e⟩
    · cases h
  obtain ⟨H1, h2⟩ := h2
  obtain ⟨a, b⟩ := Zdl (args := []) (cargs := []) (E := EB) eb_ok Za3 begun_fn trivial h2 w hw
  refine ⟨a, Calls.mono (callsIn_wide.1 b) ?_⟩
  rintro e w' ⟨cv, v, H, M, rfl, _, kp, hv, rfl, rfl⟩
  simp only [VRel] at hv
  exact ⟨by rw [hv], kp.2.1⟩
end Go.Proofs.YtbfdooplkdofeaaGreatDoor
