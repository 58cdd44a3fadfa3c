/- Pieces of rows of bytes as texts. -/
import Derived.Test.YtafpmnccoogojaaGreatDoorVaiApL
section
namespace Go.Vai
noncomputable section
theorem leq_of {x y : List UInt8} (h : x = y) : leq x y = true := by rw [h]; exact leq_self _
section
variable {T : Tr AV} {L : List UInt8} (h : RowB T L)
include h
theorem hasYr {o n : Nat} (hn : o + n ≤ L.length) : hasY (getA T o n) = true := by rw [h.cells hn]; exact hasY_map _
theorem getYr {o n : Nat} (hn : o + n ≤ L.length) : getY (getA T o n) = (L.drop o).take n := by rw [h.cells hn]; exact getY_map _
theorem prf_has {a : Nat} (ha : a ≤ L.length) : hasA T 0 (Nat.mul a 1) = true := h.has (show 0 + a * 1 ≤ L.length by omega)
theorem prf_hasY {a : Nat} (ha : a ≤ L.length) : hasY (getA T 0 (Nat.mul a 1)) = true := hasYr h (show 0 + a * 1 ≤ L.length by omega)
theorem prf_get {a : Nat} (ha : a ≤ L.length) : getY (getA T 0 (Nat.mul a 1)) = L.take a := by
  rw [getYr h (show 0 + Nat.mul a 1 ≤ L.length from show 0 + a * 1 ≤ L.length by omega), List.drop_zero]
  show L.take (a * 1) = _
  rw [Nat.mul_one]
omit h in
end
end
end Go.Vai
end
