/- What every law of package isa begins with, 'begun', answers true, whatever the world in which strings.asciiSpace reads as it is listed: by the interpreter, run by the kernel. -/
import Derived.Test.YtadghjbbimlonaaGreatDoorRows
import Derived.Test.YtadghjbbimlonaaGreatDoorVaiLaid
import Derived.Test.YtadghjbbimlonaaGreatDoorVaiFast
import Derived.KernelRfl
namespace Go.Proofs.YtadghjbbimlonaaGreatDoor
open Go Go.Vai
/-- The library's functions that the model stands in for: number, which one, the bytes' type. -/
def kinds : List (Nat × Nat × Nat) := [(206, 3, 0), (207, 4, 5), (298, 1, 0)]
def ascL : List AV := (List.range 256).map fun i => .int .u8 (if i = 32 ∨ (9 ≤ i ∧ i ≤ 13) then 1 else 0)
def gl : List (Nat × List AV) := [(2, ascL)]
noncomputable def E1 : Env := envOf Tryz.prog 12 [] (smOf kinds [])
theorem ext_ok : extOk Tryz.prog kinds = true := by kernel_rfl
theorem names_ok0 : namesOk [] Tryz.prog.funcs.toList 0 = true := by kernel_rfl
theorem mixed_ok : Tryz.prog.follows .mixedOrders = true := by kernel_rfl
theorem gl_ok : (gl.all fun x => Nat.blt x.1 12) = true := by kernel_rfl
theorem begun_fn : (E1.fn 8).isSome = true := by kernel_rfl
set_option maxRecDepth 100000
theorem begun_run : TRes.isB true (runR E1 100000 (.call 8 [] (gHeap 12 gl))) = true := by kernel_rfl
theorem begun_ret : ∀ w, GlobOk gl w → (callFunc 8 #[]).run Tryz.prog w = .ok (.enter 8 #[]) w ∧ Calls Tryz.prog 8 #[] w fun e w' => e = .returned (.bool true) ∧ Keeps w w' := by
  have h := begun_run
  rw [runR_eq] at h
  exact ret_of names_ok0 ext_ok rets_nil mixed_ok gl_ok begun_fn h
end Go.Proofs.YtadghjbbimlonaaGreatDoor
