/- Numbers in trees: small ones are themselves. -/
import Derived.Test.YteinliapjcgpfaaGreatDoorVaiP
import Derived.Test.YteinliapjcgpfaaGreatDoorVaiFold
namespace Go.Vai
theorem inR_nat {k : IntKind} {n : Nat} (h : n < topK k) : inR k (.ofNat n) = true := by
  show Nat.blt n _ = true
  rw [Nat.blt_eq]; exact h
theorem wrapR_nat {k : IntKind} {n : Nat} (h : n < topK k) : wrapR k (.ofNat n) = .ofNat n := by
  unfold wrapR
  rw [inR_nat h]; rfl
theorem wrap_i64 {n : Nat} (h : n < 9223372036854775808) : wrapR .i64 (.ofNat n) = .ofNat n := wrapR_nat (Nat.lt_of_lt_of_le h (by decide))
theorem wrap_u64 {n : Nat} (h : n < 18446744073709551616) : wrapR .u64 (.ofNat n) = .ofNat n := wrapR_nat (Nat.lt_of_lt_of_le h (by decide))
theorem wrap_u8 {n : Nat} (h : n < 256) : wrapR .u8 (.ofNat n) = .ofNat n := wrapR_nat (Nat.lt_of_lt_of_le h (by decide))
theorem add_nat (a b : Nat) : Int.add (.ofNat a) (.ofNat b) = .ofNat (a + b) := rfl
theorem mul_nat (a b : Nat) : Int.mul (.ofNat a) (.ofNat b) = .ofNat (a * b) := rfl
theorem tmod_nat (a b : Nat) : Int.tmod (.ofNat a) (.ofNat b) = .ofNat (a % b) := rfl
theorem tdiv_nat (a b : Nat) : Int.tdiv (.ofNat a) (.ofNat b) = .ofNat (a / b) := rfl
theorem toNat_nat' (a : Nat) : Int.toNat (.ofNat a) = a := rfl
theorem ilt_nat (a b : Nat) : ilt (.ofNat a) (.ofNat b) = Nat.blt a b := rfl
theorem ieq_nat (a b : Nat) : ieq (.ofNat a) (.ofNat b) = Nat.beq a b := rfl
theorem blt_no {a b : Nat} (h : b ≤ a) : Nat.blt a b = false := blt_f (by omega)
theorem blt_yes {a b : Nat} (h : a < b) : Nat.blt a b = true := blt_t h
theorem beq_yes (a : Nat) : Nat.beq a a = true := by rw [Nat.beq_eq]
theorem beq_no {a b : Nat} (h : a ≠ b) : Nat.beq a b = false := beq_f h
theorem roomy_yes {n es : Nat} (h : n ≤ 100000) (he : es ≤ 1000) : roomy n es = true := by
  unfold roomy
  rw [Nat.ble_eq]
  exact Nat.le_trans (Nat.mul_le_mul (Nat.succ_le_succ h) (Nat.succ_le_succ he)) (by decide)
end Go.Vai
