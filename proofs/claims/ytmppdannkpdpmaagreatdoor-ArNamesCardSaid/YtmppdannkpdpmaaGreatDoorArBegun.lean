/- foundrylaw7.begun answers true: by the interpreter, run by the kernel. -/
import Derived.Test.YtmppdannkpdpmaaGreatDoorArBase
import Derived.Test.YtmppdannkpdpmaaGreatDoorVaiH
import Derived.KernelRfl
namespace Go.Proofs.YtmppdannkpdpmaaGreatDoor
open Go Go.Vai
noncomputable section
set_option maxRecDepth 100000
def EBg : Env := K4 Tryz.prog 8 [39, 52, 61, 62, 67, 77] Va
theorem Zbg (w : World) (hw : Ya gl w) : EnvOk EBg Tryz.prog (Kept gl w) := Zc0 (by kernel_rfl) Za0 Qv (fun _ _ _ h => h.1) (Yg hw).ext
theorem Ztx : (EBg.fn 7).isSome = true := by kernel_rfl
theorem Zqd : TRes.isB true (Zz1 EBg 100000 (.call 7 [] (W4 8 gl))) = true := by kernel_rfl
theorem Zim : ∀ w, Ya gl w → (callFunc 7 #[]).run Tryz.prog w = .ok (.enter 7 #[]) w ∧ Calls Tryz.prog 7 #[] w fun e w' => e = .returned (.bool true) ∧ Keeps w w' := by
  intro w hw
  have h := Zqd
  rw [Zo2] at h
  obtain ⟨H1, h2⟩ := TRes.isB_some h
  obtain ⟨a, b⟩ := Ze6 (args := []) (cargs := []) (E := EBg) Zbg Zez Ztx trivial h2 w hw
  refine ⟨a, Calls.mono (callsIn_wide.1 b) ?_⟩
  rintro e w' ⟨cv, v, H, M, rfl, _, kp, hv, rfl, rfl⟩
  simp only [Zm] at hv
  exact ⟨by rw [hv], kp.2.1⟩
end
end Go.Proofs.YtmppdannkpdpmaaGreatDoor
