/- What every law of package isa begins with, 'begun', answers true: by the interpreter, run by the kernel. -/
import Derived.Test.YtopjbfgikglncaaGreatDoorRows
import Derived.Test.YtopjbfgikglncaaGreatDoorVaiLaid
import Derived.Test.YtopjbfgikglncaaGreatDoorVaiPlain
import Derived.KernelRfl
namespace Go.Proofs.YtopjbfgikglncaaGreatDoor
open Go Go.Vai
/-- The library's functions that the model stands in for: number, which one, the bytes' type. -/
def kinds : List (Nat × Nat × Nat) := [(140, 3, 0), (141, 4, 5), (221, 1, 0)]
def ascL : List AV := (List.range 256).map fun i => .int .u8 (if i = 32 ∨ (9 ≤ i ∧ i ≤ 13) then 1 else 0)
def gl : List (Nat × List AV) := [(2, ascL), (7, [.opq])]
noncomputable def E1 : Env := envOf Tryz.prog 12 [] (extSm kinds)
theorem ext_ok : extOk Tryz.prog kinds = true := by kernel_rfl
theorem names_ok0 : namesOk [] Tryz.prog.funcs.toList 0 = true := by kernel_rfl
theorem mixed_ok : Tryz.prog.follows .mixedOrders = true := by kernel_rfl
theorem gl_ok : (gl.all fun x => Nat.blt x.1 12) = true := by kernel_rfl
theorem e1_ok (w : World) (hw : GlobOk gl w) : EnvOk E1 Tryz.prog (Kept gl w) := envOk_sm names_ok0 (smOk_ext ext_ok) mixed_ok (fun _ _ _ h => h.1) (kept_carried hw).ext
noncomputable def E0 : Env := envOf Tryz.prog 12 [] (smOf kinds [])
theorem begun_fn : (E0.fn 4).isSome = true := by kernel_rfl
set_option maxRecDepth 100000
theorem begun_run : TRes.isB true (runR E0 100000 (.call 4 [] (gHeap 12 gl))) = true := by kernel_rfl
theorem begun_ret : ∀ w, GlobOk gl w → (callFunc 4 #[]).run Tryz.prog w = .ok (.enter 4 #[]) w ∧ Calls Tryz.prog 4 #[] w fun e w' => e = .returned (.bool true) ∧ Keeps w w' := by
  have h := begun_run
  rw [runR_eq] at h
  exact ret_of names_ok0 ext_ok rets_nil mixed_ok gl_ok begun_fn h
end Go.Proofs.YtopjbfgikglncaaGreatDoor
