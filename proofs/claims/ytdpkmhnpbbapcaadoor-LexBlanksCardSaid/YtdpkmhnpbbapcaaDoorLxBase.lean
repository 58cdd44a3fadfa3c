/- What the laws of package lex begin with, 'begun', answers true: by the interpreter, run by the kernel. -/
import Derived.Test.YtdpkmhnpbbapcaaDoorRows
import Derived.Test.YtdpkmhnpbbapcaaDoorVaiE
import Derived.Test.YtdpkmhnpbbapcaaDoorVaiH
import Derived.KernelRfl
namespace Go.Proofs.YtdpkmhnpbbapcaaDoor
open Go Go.Vai
def kinds : List (Nat × Nat × Nat) := [(45, 1, 0), (16, 2, 0)]
def gl : List (Nat × List AV) := [(4, [.opq none])]
noncomputable def E1 : Env := envOf Tryd.prog 8 [] (extSm kinds)
theorem ext_ok : extOk Tryd.prog kinds = true := by kernel_rfl
theorem names_ok0 : namesOk [] Tryd.prog.funcs.toList 0 = true := by kernel_rfl
theorem mixed_ok : Tryd.prog.follows .mixedOrders = true := by kernel_rfl
theorem gl_ok : (gl.all fun x => Nat.blt x.1 8) = true := by kernel_rfl
theorem e1_ok (w : World) (hw : GlobOk gl w) : EnvOk E1 Tryd.prog (Kept gl w) := envOk_sm names_ok0 (smOk_ext ext_ok) mixed_ok (fun _ _ _ h => h.1) (kept_carried hw).ext
noncomputable def E0 : Env := envOf Tryd.prog 8 [] (smOf kinds [])
theorem begun_fn : (E0.fn 5).isSome = true := by kernel_rfl
set_option maxRecDepth 100000
theorem begun_run : TRes.isB true (runR E0 100000 (.call 5 [] (gHeap 8 gl))) = true := by kernel_rfl
theorem begun_ret : ∀ w, GlobOk gl w → (callFunc 5 #[]).run Tryd.prog w = .ok (.enter 5 #[]) w ∧ Calls Tryd.prog 5 #[] w fun e w' => e = .returned (.bool true) ∧ Keeps w w' := by
  have h := begun_run
  rw [runR_eq] at h
  exact ret_of names_ok0 ext_ok rets_nil mixed_ok gl_ok begun_fn h
end Go.Proofs.YtdpkmhnpbbapcaaDoor
