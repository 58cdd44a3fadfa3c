/- Pieces of rows of bytes as texts. -/
import Derived.Test.YtdpkmhnpbbapcaaDoorVaiApL
section
namespace Go.Vai
noncomputable section
section
variable {T : Tr AV} {L : List UInt8} (h : Zdk T L)
include h
theorem Yf5 {o n : Nat} (hn : o + n ≤ L.length) : Zoh (Wo T o n) = true := by rw [h.cells hn]; exact Z4l _
theorem Yg1 {o n : Nat} (hn : o + n ≤ L.length) : Zn0 (Wo T o n) = (L.drop o).take n := by rw [h.cells hn]; exact Z3o _
theorem Zuf {a : Nat} (ha : a ≤ L.length) : Vl T 0 (Nat.mul a 1) = true := h.has (show 0 + a * 1 ≤ L.length by omega)
theorem Zp1 {a : Nat} (ha : a ≤ L.length) : Zoh (Wo T 0 (Nat.mul a 1)) = true := Yf5 h (show 0 + a * 1 ≤ L.length by omega)
theorem Zt5 {a : Nat} (ha : a ≤ L.length) : Zn0 (Wo T 0 (Nat.mul a 1)) = L.take a := by
  rw [Yg1 h (show 0 + Nat.mul a 1 ≤ L.length from show 0 + a * 1 ≤ L.length by omega), List.drop_zero]
  show L.take (a * 1) = _
  rw [Nat.mul_one]
omit h in
end
theorem z0 (a : Nat) : Nat.add 0 a = a := Nat.zero_add a
end
end Go.Vai
end
