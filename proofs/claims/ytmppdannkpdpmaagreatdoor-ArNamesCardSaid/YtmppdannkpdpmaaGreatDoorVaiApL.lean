/- Steps for runs along a path on a row of bytes. -/
import Derived.Test.YtmppdannkpdpmaaGreatDoorVaiAp
import Derived.Test.YtmppdannkpdpmaaGreatDoorVaiDec2
import Derived.Test.YtmppdannkpdpmaaGreatDoorVaiEnc
import Derived.Test.YtmppdannkpdpmaaGreatDoorVaiH
section
namespace Go.Vai
noncomputable section
section
variable {α : Type} {b : Bool} {x y r : Option α}
theorem Zf (h : b = true) (hx : x = r) : bc b x y = r := by rw [h]; exact hx
theorem Zj (h : b = false) (hy : y = r) : bc b x y = r := by rw [h]; exact hy
end
theorem Yf {b : Bool} (h : b = true) : (!b) = false := by rw [h]; rfl
theorem Y9 {b : Bool} (h : b = false) : (!b) = true := by rw [h]; rfl
theorem ltT {x y : Nat} (h : x < y) : Nat.blt x y = true := by rw [Nat.blt_eq]; exact h
theorem ltF {x y : Nat} (h : y ≤ x) : Nat.blt x y = false := by
  cases e : Nat.blt x y with
  | false => rfl
  | true => rw [Nat.blt_eq] at e; omega
theorem Zl0 (x : Int) : Vx x x = true := by simp [Q4]
theorem Zo (x : List UInt8) : leq x x = true := by simp [W3]
theorem Kj {l a : Nat} (h : a ≤ l) (hl : l < 4611686018427387904) : Zb .i64 (Int.sub (.ofNat l) (.ofNat a)) = .ofNat (l - a) := by
  have : Int.sub (.ofNat l) (.ofNat a) = .ofNat (l - a) := by
    show (Int.ofNat l) - (Int.ofNat a) = Int.ofNat (l - a)
    simp only [Int.ofNat_eq_natCast]
    omega
  rw [this]
  exact Zi2 (by show l - a < 9223372036854775808; omega)
section
variable {L : List UInt8} (hn : L.length < 1000000)
include hn
theorem p47 : L.length < 2 ^ 47 := by have : (2 : Nat) ^ 47 = 140737488355328 := by decide
                                      omega
theorem Zm3 : Xt (bT L) L := W1 (p47 hn)
end
def byI (L : List UInt8) (i : Nat) : Int := Int.ofNat (L[i]?.getD 0).toNat
def w4 (L : List UInt8) (a : Nat) : Int := Z3j (byI L a) (byI L (a + 1)) (byI L (a + 2)) (byI L (a + 3))
def w2 (L : List UInt8) (a : Nat) : Int := Z3d (byI L a) (byI L (a + 1))
section
variable {T : Tr AV} {L : List UInt8} (hR : Xt T L) (hn : L.length < 1000000) {a : Nat} (W : Int)
include hR hn
end
end
end Go.Vai
end
