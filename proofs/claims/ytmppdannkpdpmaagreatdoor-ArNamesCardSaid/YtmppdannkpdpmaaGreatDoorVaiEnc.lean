/- Calls that turn an instruction's parts into a row of bytes, or a fault, as summaries. -/
import Derived.Test.YtmppdannkpdpmaaGreatDoorVaiNew
import Derived.Test.YtmppdannkpdpmaaGreatDoorVaiH
section
namespace Go.Vai
noncomputable section
section
variable {P : Program} {gl : List (Nat × List AV)} {E : Env}
end
def b4 (w : Int) : List Int := [Zb .u8 w, Zb .u8 (Zq7 w 8), Zb .u8 (Zq7 w 16), Zb .u8 (Zq7 w 24)]
def b2 (w : Int) : List Int := [Zb .u8 w, Zb .u8 (Zq7 w 8)]
section
variable {α : Type} {f e : Nat} {bs : Int → List Int} {G : List UInt8 → Bool} {EE EW : List UInt8 → Int → Int → Int → Int → Int → Int} {args : List AV} {H : AHeap} {k : AV → AHeap → Option α} {r : α}
end
end
end Go.Vai
end
