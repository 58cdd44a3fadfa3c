/- A call that reads two bytes of a row that it is handed and answers a plain value, as a summary. -/
import Derived.Test.YtmppdannkpdpmaaGreatDoorVaiNew
section
namespace Go.Vai
noncomputable section
def Z3d (b0 b1 : Int) : Int := Zb .u16 (orI .u16 (Zb .u16 b0) (Zb .u16 (Zqn (Zb .u16 b1) 8)))
end
end Go.Vai
end
