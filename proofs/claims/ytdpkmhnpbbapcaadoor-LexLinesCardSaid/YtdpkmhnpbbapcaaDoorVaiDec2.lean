/- A call that reads two bytes of a row that it is handed and answers a plain value, as a summary. -/
import Derived.Test.YtdpkmhnpbbapcaaDoorVaiNew
section
namespace Go.Vai
noncomputable section
def Ygq (b0 b1 : Int) : Int := Zf .u16 (orI .u16 (Zf .u16 b0) (Zf .u16 (Zww (Zf .u16 b1) 8)))
end
end Go.Vai
end
