/- Calls that turn an instruction's parts into a row of bytes, or a fault, as summaries. -/
import Derived.Test.YtdpkmhnpbbapcaaDoorVaiNew
import Derived.Test.YtdpkmhnpbbapcaaDoorVaiH
section
namespace Go.Vai
noncomputable section
section
variable {P : Program} {gl : List (Nat × List AV)} {E : Env}
end
def b4 (w : Int) : List Int := [Zf .u8 w, Zf .u8 (Zw4 w 8), Zf .u8 (Zw4 w 16), Zf .u8 (Zw4 w 24)]
def b2 (w : Int) : List Int := [Zf .u8 w, Zf .u8 (Zw4 w 8)]
section
variable {α : Type} {f e : Nat} {bs : Int → List Int} {G : List UInt8 → Bool} {EE EW : List UInt8 → Int → Int → Int → Int → Int → Int} {args : List AV} {H : AHeap} {k : AV → AHeap → Option α} {r : α}
end
end
end Go.Vai
end
