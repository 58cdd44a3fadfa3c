/- Steps for runs along a path on a row of bytes. -/
import Derived.Test.YtdpkmhnpbbapcaaDoorVaiAp
import Derived.Test.YtdpkmhnpbbapcaaDoorVaiDec2
import Derived.Test.YtdpkmhnpbbapcaaDoorVaiEnc
import Derived.Test.YtdpkmhnpbbapcaaDoorVaiH
section
namespace Go.Vai
noncomputable section
section
variable {α : Type} {b : Bool} {x y r : Option α}
end
theorem eqF {m n : Nat} (h : m ≠ n) : Nat.beq m n = false := by
  cases e : Nat.beq m n with
  | false => rfl
  | true => rw [Nat.beq_eq] at e; omega
theorem Zj4 (x : Int) : Xz x x = true := by simp [Vt]
theorem Zz7 (x : List UInt8) : leq x x = true := by simp [Zff]
section
variable {L : List UInt8} (hn : L.length < 1000000)
include hn
end
def byI (L : List UInt8) (i : Nat) : Int := Int.ofNat (L[i]?.getD 0).toNat
def w4 (L : List UInt8) (a : Nat) : Int := Yhr (byI L a) (byI L (a + 1)) (byI L (a + 2)) (byI L (a + 3))
def w2 (L : List UInt8) (a : Nat) : Int := Ygq (byI L a) (byI L (a + 1))
section
variable {T : Tr AV} {L : List UInt8} (hR : Zdk T L) (hn : L.length < 1000000) {a : Nat} (W : Int)
include hR hn
end
theorem Za0 {a b : Sm} {f : Nat} {args : List AV} {H : AHeap} (h : a f args H = none) : Wv a b f args H = b f args H := by unfold Wv; rw [h]
theorem Q0 {a b : Sm} {f : Nat} {args : List AV} {H : AHeap} {r : AV × AHeap} (h : a f args H = some r) : Wv a b f args H = some r := by unfold Wv; rw [h]
theorem Yd9 {kinds : List (Nat × Nat × Nat)} {f : Nat} (h : Zh4 kinds f = none) (args : List AV) (H : AHeap) : Za1 kinds f args H = none := by unfold Za1; rw [h]
theorem Znf {f g : Nat} (h : f ≠ g) : Nat.beq f g = false := eqF h
end
end Go.Vai
end
