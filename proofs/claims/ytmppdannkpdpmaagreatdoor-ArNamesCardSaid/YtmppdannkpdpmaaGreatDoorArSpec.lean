/- Archives in plain Lean: numerals, fields, headers, records. -/
import Derived.Lib.AtoiAll
import Derived.Lib.ItoaNum
import Derived.Lib.ItoaMem
import Derived.Lib.TrimByte
import Derived.Lib.Repeat
import Derived.Test.YtmppdannkpdpmaaGreatDoorVaiRowB
import Derived.Test.YtmppdannkpdpmaaGreatDoorVaiH
import Derived.KernelRfl
namespace Go.Proofs.YtmppdannkpdpmaaGreatDoor
open Go Go.Vai
def Zk (n : Nat) : List UInt8 := bif Nat.blt n 10 then [UInt8.ofNat (48 + n)] else bif Nat.blt n 100 then [UInt8.ofNat (48 + n / 10), UInt8.ofNat (48 + n % 10)] else [UInt8.ofNat (48 + n / 100), UInt8.ofNat (48 + n / 10 % 10), UInt8.ofNat (48 + n % 10)]
theorem Z05 {n : Nat} (h : n < 1000) : Lib.itoa (.ofNat n) = Zk n := by
  show Lib.itoa ((n : Nat) : Int) = _
  rw [Lib.itoa_nonneg]
  unfold Zk
  by_cases h1 : n < 10
  · rw [Lib.decDigits_one h1, Z4 h1]; rfl
  · rw [Zw h1]
    by_cases h2 : n < 100
    · rw [Lib.decDigits_two h1 h2, Z4 h2]; rfl
    · rw [Zw h2, Lib.decDigits, dif_neg h1, Lib.decDigits_two (by omega) (by omega)]
      show [_, _] ++ [_] = _
      simp only [cond_false, List.cons_append, List.nil_append, List.cons.injEq, and_true]
      rw [Nat.div_div_eq_div_mul]
def Zsz (n : Nat) : Lib.NumEnd Int → Bool
  | .ok (.ofNat m) => Nat.beq m n
  | _ => false
def Z4a (l : List UInt8) : Bool := l.all fun c => Nat.ble 48 c.toNat && Nat.ble c.toNat 57
def Z4f (n : Nat) : Bool := Zsz n (Lib.atoiAll (Zk n)) && Z4a (Zk n)
def Zl3 : Nat → (Nat → Bool) → Bool
  | 0, _ => true
  | n + 1, p => p n && Zl3 n p
theorem Zge {p : Nat → Bool} : ∀ {n : Nat}, Zl3 n p = true → ∀ k, k < n → p k = true
  | n + 1, h, k, hk => by
    simp only [Zl3, Bool.and_eq_true] at h
    by_cases e : k = n
    · rw [e]; exact h.1
    · exact Zge h.2 k (by omega)
theorem Zv1 : Zl3 1000 Z4f = true := by kernel_rfl
theorem Zy0 {n : Nat} (h : n < 1000) : Zsz n (Lib.atoiAll (Zk n)) = true ∧ Z4a (Zk n) = true := by
  have := Zge Zv1 n h
  unfold Z4f at this
  simpa using this
theorem Zt (n : Nat) : 1 ≤ (Zk n).length ∧ (Zk n).length ≤ 3 := by
  unfold Zk
  cases Nat.blt n 10 <;> cases Nat.blt n 100 <;> simp
theorem Zg3 {n : Nat} (h : n < 1000) : Lib.atoiAll (Zk n) = .ok (.ofNat n) := by
  have := (Zy0 h).1
  unfold Zsz at this
  split at this
  · rename_i m e
    rw [e, Nat.eq_of_beq_eq_true this]
  · cases this
theorem Zpq {n : Nat} (h : n < 1000) {c : UInt8} (hc : c ∈ Zk n) : c ≠ 32 ∧ c ≠ 47 := by
  have := List.all_eq_true.1 (Zy0 h).2 c hc
  simp only [Bool.and_eq_true, Nat.ble_eq] at this
  constructor
  · rintro rfl; revert this; decide
  · rintro rfl; revert this; decide
def Xl (s : List UInt8) (n : Nat) : List UInt8 := s ++ List.replicate (n - s.length) 32
def Z1i : List UInt8 := Xl [48] 12 ++ (Xl [48] 6 ++ (Xl [48] 6 ++ Xl [54, 52, 52] 8))
def Zx (nm : List UInt8) (sz : Nat) : List UInt8 := Xl nm 16 ++ (Z1i ++ (Xl (Zk sz) 10 ++ [96, 10]))
def Z9 : List UInt8 := [33, 60, 97, 114, 99, 104, 62, 10]
def Ka (B : List UInt8) : List UInt8 := bif Nat.beq (Nat.mod B.length 2) 1 then B ++ [10] else B
def Zg (B nm D : List UInt8) : List UInt8 := Ka B ++ (Zx nm D.length ++ D)
theorem Vm {s : List UInt8} {n : Nat} (h : s.length ≤ n) : (Xl s n).length = n := by
  unfold Xl
  rw [List.length_append, List.length_replicate]; omega
theorem Zfl : Z1i.length = 32 := by decide
theorem Qc {nm : List UInt8} (h : nm.length ≤ 16) (sz : Nat) : (Zx nm sz).length = 60 := by
  unfold Zx
  have := (Zt sz).2
  rw [List.length_append, List.length_append, List.length_append, Vm h, Vm (by omega), Zfl]; rfl
theorem Zgv (B : List UInt8) : (Ka B).length = B.length + B.length % 2 := by
  unfold Ka
  cases hb : Nat.beq (Nat.mod B.length 2) 1 with
  | true =>
    have : B.length % 2 = 1 := Nat.eq_of_beq_eq_true hb
    rw [cond_true, List.length_append]; simp [this]
  | false =>
    have : B.length % 2 ≠ 1 := Nat.ne_of_beq_eq_false hb
    rw [cond_false]; omega
theorem Vk {B nm D : List UInt8} (h : nm.length ≤ 16) : (Zg B nm D).length = B.length + B.length % 2 + (60 + D.length) := by
  unfold Zg
  rw [List.length_append, List.length_append, Zgv, Qc h]
theorem Zi7 : ∀ n : Nat, Lib.repeatL [32] n = List.replicate n 32
  | 0 => rfl
  | n + 1 => by rw [Lib.repeatL, Zi7 n]; rfl
end Go.Proofs.YtmppdannkpdpmaaGreatDoor
