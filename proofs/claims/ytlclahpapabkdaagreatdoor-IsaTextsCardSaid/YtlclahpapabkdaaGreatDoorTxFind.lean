/- find: plain tables. -/
import Derived.Test.YtlclahpapabkdaaGreatDoorTxRows
import Derived.KernelRfl
namespace Go.Proofs.YtlclahpapabkdaaGreatDoor
open Go Go.Vai
noncomputable section
set_option maxRecDepth 100000
def findAll (z : AV) (n : List UInt8) : List (List AV) → Option AV
  | [] => some z
  | (.str m :: r) :: l => bc (leq m n) (some (.tup [.agg (.str m :: r), .bool true])) (findAll z n l)
  | _ :: l => findAll z n l
theorem amFind_run (n : List UInt8) : callP E2 100000 (.call 47 [.str n] (gHeap 12 gl)) [] jK = findAll amZero n amRows := by kernel_rfl
theorem arFind_run (n : List UInt8) : callP E2 100000 (.call 53 [.str n] (gHeap 12 gl)) [] jK = findAll arZero n arRows := by kernel_rfl
theorem rvFind_run (n : List UInt8) : callP E2 100000 (.call 105 [.str n] (gHeap 12 gl)) [] jK = findAll rvZero n rvRows := by kernel_rfl
theorem coFind_run (n : List UInt8) : callP E2 100000 (.call 113 [.str n] (gHeap 12 gl)) [] jK = findAll coZero n coRows := by kernel_rfl
def findF : Nat → List AV → Option AV := fun f args => match args with
  | [.str n] => bif Nat.beq f 47 then findAll amZero n amRows else bif Nat.beq f 53 then findAll arZero n arRows else bif Nat.beq f 105 then findAll rvZero n rvRows else bif Nat.beq f 113 then findAll coZero n coRows else none
  | _ => none
theorem find_okF (f : Nat) (args : List AV) (v : AV) (h : findF f args = some v) : ∃ (E : Env) (n : Nat), (∀ w, GlobOk gl w → EnvOk E Tryz.prog (Kept gl w)) ∧ (gl.all fun x => Nat.blt x.1 E.ng) = true ∧ (E.fn f).isSome = true ∧ (∀ a ∈ args, Plain a) ∧ ∃ o, callP E n (.call f args (gHeap E.ng gl)) o jK = some v := by
  unfold findF at h
  split at h
  case h_2 => cases h
  rename_i n
  simp only [Bool.cond_eq_ite, Nat.beq_eq] at h
  split at h
  · rename_i e
    subst e
    exact ⟨E2, 100000, e2_ok, gl_ok, by kernel_rfl, plain_list rfl, [], (amFind_run n).trans h⟩
  split at h
  · rename_i e
    subst e
    exact ⟨E2, 100000, e2_ok, gl_ok, by kernel_rfl, plain_list rfl, [], (arFind_run n).trans h⟩
  split at h
  · rename_i e
    subst e
    exact ⟨E2, 100000, e2_ok, gl_ok, by kernel_rfl, plain_list rfl, [], (rvFind_run n).trans h⟩
  split at h
  · rename_i e
    subst e
    exact ⟨E2, 100000, e2_ok, gl_ok, by kernel_rfl, plain_list rfl, [], (coFind_run n).trans h⟩
  cases h
theorem find_ok : SmOk Tryz.prog gl (plainSm findF) := plain_ok find_okF
end
end Go.Proofs.YtlclahpapabkdaaGreatDoor
