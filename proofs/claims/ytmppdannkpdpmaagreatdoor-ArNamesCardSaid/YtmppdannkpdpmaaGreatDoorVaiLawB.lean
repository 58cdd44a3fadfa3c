/- Pieces of rows of bytes as texts. -/
import Derived.Test.YtmppdannkpdpmaaGreatDoorVaiApL
section
namespace Go.Vai
noncomputable section
theorem Wi (b : Bool) (x : Nat) : cn b x x = x := by cases b <;> rfl
section
variable {T : Tr AV} {L : List UInt8} (h : Xt T L)
include h
omit h in
end
theorem z0 (a : Nat) : Nat.add 0 a = a := Nat.zero_add a
end
end Go.Vai
end
