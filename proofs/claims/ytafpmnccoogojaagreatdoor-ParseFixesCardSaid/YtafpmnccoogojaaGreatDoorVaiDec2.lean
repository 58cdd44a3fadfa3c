/- A call that reads two bytes of a row that it is handed and answers a plain value, as a summary. -/
import Derived.Test.YtafpmnccoogojaaGreatDoorVaiNew
section
namespace Go.Vai
noncomputable section
def word2 (b0 b1 : Int) : Int := wrapR .u16 (orI .u16 (wrapR .u16 b0) (wrapR .u16 (shlI (wrapR .u16 b1) 8)))
end
end Go.Vai
end
