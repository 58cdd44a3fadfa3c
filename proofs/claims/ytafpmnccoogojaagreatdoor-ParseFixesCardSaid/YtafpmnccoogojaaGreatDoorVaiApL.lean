/- Steps for runs along a path on a row of bytes. -/
import Derived.Test.YtafpmnccoogojaaGreatDoorVaiAp
import Derived.Test.YtafpmnccoogojaaGreatDoorVaiDec2
import Derived.Test.YtafpmnccoogojaaGreatDoorVaiEnc
import Derived.Test.YtafpmnccoogojaaGreatDoorVaiH
section
namespace Go.Vai
noncomputable section
section
variable {α : Type} {b : Bool} {x y r : Option α}
end
theorem eqF {m n : Nat} (h : m ≠ n) : Nat.beq m n = false := by
  cases e : Nat.beq m n with
  | false => rfl
  | true => rw [Nat.beq_eq] at e; omega
theorem ieq_self (x : Int) : ieq x x = true := by simp [ieq_iff]
theorem leq_self (x : List UInt8) : leq x x = true := by simp [leq_iff]
section
variable {L : List UInt8} (hn : L.length < 1000000)
include hn
end
def byI (L : List UInt8) (i : Nat) : Int := Int.ofNat (L[i]?.getD 0).toNat
def w4 (L : List UInt8) (a : Nat) : Int := word4 (byI L a) (byI L (a + 1)) (byI L (a + 2)) (byI L (a + 3))
def w2 (L : List UInt8) (a : Nat) : Int := word2 (byI L a) (byI L (a + 1))
section
variable {T : Tr AV} {L : List UInt8} (hR : RowB T L) (hn : L.length < 1000000) {a : Nat} (W : Int)
include hR hn
end
theorem or_ne {a b : Sm} {f : Nat} {args : List AV} {H : AHeap} (h : a f args H = none) : orSm a b f args H = b f args H := by unfold orSm; rw [h]
theorem or_yes {a b : Sm} {f : Nat} {args : List AV} {H : AHeap} {r : AV × AHeap} (h : a f args H = some r) : orSm a b f args H = some r := by unfold orSm; rw [h]
theorem ext_ne {kinds : List (Nat × Nat × Nat)} {f : Nat} (h : extAt kinds f = none) (args : List AV) (H : AHeap) : extSm kinds f args H = none := by unfold extSm; rw [h]
theorem beqF {f g : Nat} (h : f ≠ g) : Nat.beq f g = false := eqF h
theorem cont_ne {f g : Nat} (h : g ≠ f) (args : List AV) (H : AHeap) : contSm f g args H = none := by
  unfold contSm
  split
  · rw [beqF h]; rfl
  · rfl
end
end Go.Vai
end
