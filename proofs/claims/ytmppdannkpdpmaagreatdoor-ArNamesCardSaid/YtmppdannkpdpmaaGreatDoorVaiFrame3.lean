/- Rows of pieces with loads named ahead; and a leaf that hands out the memory as it is. -/
import Derived.Test.YtmppdannkpdpmaaGreatDoorVaiFrame2
section
namespace Go.Vai
noncomputable section
def Vp (l : List (Nat × Nat)) : Pin := fun op => match op.dst with
  | some d => (l.find? fun x => Nat.beq x.1 d).map fun x => Int.ofNat x.2
  | none => none
structure LeafW where
  e : AExit
  n : Nat
  rd : Bool
  df : Bool
  vs : List (Option AV)
  H : AHeap
section
variable {E : Env} {P : Program} {I : List MEnt → AHeap → World → Prop} {ih : Task → Option TRes} {ro : Option Nat}
end
end
end Go.Vai
end
