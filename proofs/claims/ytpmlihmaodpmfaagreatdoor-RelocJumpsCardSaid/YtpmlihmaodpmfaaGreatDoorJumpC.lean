/- c.j's and c.bnez's trees are true at all of their numbers: by the kernel, one by one. -/
import Derived.Test.YtpmlihmaodpmfaaGreatDoorJumpT2
import Derived.Test.YtpmlihmaodpmfaaGreatDoorJumpT3
import Derived.KernelRfl
namespace Go.Proofs.YtpmlihmaodpmfaaGreatDoor
open Go Go.Vai
noncomputable section
set_option maxRecDepth 100000
def isT : Option AV → Bool
  | some (.bool b) => b
  | _ => false
theorem isT_of {x : Option AV} (h : isT x = true) : x = some (.bool true) := by
  unfold isT at h
  split at h
  · rw [h]
  · cases h
def allN (n : Nat) (f : Nat → Bool) : Bool := Nat.rec (motive := fun _ => Bool) true (fun i ih => bif f i then ih else false) n
theorem allN_at {f : Nat → Bool} : ∀ {n : Nat}, allN n f = true → ∀ {i : Nat}, i < n → f i = true
  | 0, _, i, hi => by omega
  | n + 1, h, i, hi => by
    have h : (bif f n then allN n f else false) = true := h
    cases hf : f n with
    | false => rw [hf] at h; cases h
    | true =>
      rw [hf] at h
      by_cases e : i = n
      · rw [e]; exact hf
      · exact allN_at h (by omega)
theorem jc2_0 : isT (jt2_0 (.ofNat 0) (.ofNat 0) (.ofNat 2)) = true := by kernel_rfl
theorem jc2_1 : allN 1023 (fun i => isT (jt2_1 (.ofNat (2 * i + 2)) (.ofNat (2 * i + 2)) (.ofNat 2))) = true := by kernel_rfl
theorem jc2_2 : allN 1024 (fun i => isT (jt2_2 (.negSucc (2 * i + 1)) (.negSucc (2 * i + 1)) (.ofNat 2))) = true := by kernel_rfl
theorem jc3_0 : isT (jt3_0 (.ofNat 0) (.ofNat 0) (.ofNat 3)) = true := by kernel_rfl
theorem jc3_1 : allN 127 (fun i => isT (jt3_1 (.ofNat (2 * i + 2)) (.ofNat (2 * i + 2)) (.ofNat 3))) = true := by kernel_rfl
theorem jc3_2 : allN 128 (fun i => isT (jt3_2 (.negSucc (2 * i + 1)) (.negSucc (2 * i + 1)) (.ofNat 3))) = true := by kernel_rfl
end
end Go.Proofs.YtpmlihmaodpmfaaGreatDoor
