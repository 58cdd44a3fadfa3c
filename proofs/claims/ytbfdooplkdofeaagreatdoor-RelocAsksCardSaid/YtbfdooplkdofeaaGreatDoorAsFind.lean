/- find: plain tables. -/
import Derived.Test.YtbfdooplkdofeaaGreatDoorAsRows
import Derived.KernelRfl
namespace Go.Proofs.YtbfdooplkdofeaaGreatDoor
open Go Go.Vai
noncomputable section
set_option maxRecDepth 100000
def Zb5 (z : AV) (n : List UInt8) : List (List AV) → Option AV
  | [] => some z
  | (.str m :: r) :: l => bc (leq m n) (some (.tup [.agg (.str m :: r), .bool true])) (Zb5 z n l)
  | _ :: l => Zb5 z n l
theorem amFind_run (n : List UInt8) : Zbo E2 100000 (.call 91 [.str n] (Zap 12 gl)) [] jK = Zb5 amZero n amRows := by kernel_rfl
theorem arFind_run (n : List UInt8) : Zbo E2 100000 (.call 97 [.str n] (Zap 12 gl)) [] jK = Zb5 arZero n Zea := by kernel_rfl
theorem rvFind_run (n : List UInt8) : Zbo E2 100000 (.call 158 [.str n] (Zap 12 gl)) [] jK = Zb5 rvZero n Zdv := by kernel_rfl
theorem coFind_run (n : List UInt8) : Zbo E2 100000 (.call 166 [.str n] (Zap 12 gl)) [] jK = Zb5 coZero n Zd4 := by kernel_rfl
def findF : Nat → List AV → Option AV := fun f args => match args with
  | [.str n] => bif Nat.beq f 91 then Zb5 amZero n amRows else bif Nat.beq f 97 then Zb5 arZero n Zea else bif Nat.beq f 158 then Zb5 rvZero n Zdv else bif Nat.beq f 166 then Zb5 coZero n Zd4 else none
  | _ => none
theorem find_okF (f : Nat) (args : List AV) (v : AV) (h : findF f args = some v) : ∃ (E : Env) (n : Nat), (∀ w, Zay gl w → EnvOk E Tryz.prog (Kept gl w)) ∧ (gl.all fun x => Nat.blt x.1 E.ng) = true ∧ (E.fn f).isSome = true ∧ (∀ a ∈ args, Plain a) ∧ ∃ o, Zbo E n (.call f args (Zap E.ng gl)) o jK = some v := by
  unfold findF at h
  split at h
  case h_2 => cases h
  rename_i n
  simp only [Bool.cond_eq_ite, Nat.beq_eq] at h
  split at h
  · rename_i e
    subst e
    exact ⟨E2, 100000, e2_ok, Za3, by kernel_rfl, Zac rfl, [], (amFind_run n).trans h⟩
  split at h
  · rename_i e
    subst e
    exact ⟨E2, 100000, e2_ok, Za3, by kernel_rfl, Zac rfl, [], (arFind_run n).trans h⟩
  split at h
  · rename_i e
    subst e
    exact ⟨E2, 100000, e2_ok, Za3, by kernel_rfl, Zac rfl, [], (rvFind_run n).trans h⟩
  split at h
  · rename_i e
    subst e
    exact ⟨E2, 100000, e2_ok, Za3, by kernel_rfl, Zac rfl, [], (coFind_run n).trans h⟩
  cases h
theorem find_ok : SmOk Tryz.prog gl (Zaz findF) := plain_ok find_okF
end
end Go.Proofs.YtbfdooplkdofeaaGreatDoor
