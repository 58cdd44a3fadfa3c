/- A call on a row of bytes, at given other arguments, that answers a fault or a new row: as a summary. -/
import Derived.Test.YtmppdannkpdpmaaGreatDoorVaiRowB
import Derived.Test.YtmppdannkpdpmaaGreatDoorVaiH
section
namespace Go.Vai
noncomputable section
section
variable {α : Type}
end
section
variable {P : Program} {gl : List (Nat × List AV)}
end
end
end Go.Vai
end
