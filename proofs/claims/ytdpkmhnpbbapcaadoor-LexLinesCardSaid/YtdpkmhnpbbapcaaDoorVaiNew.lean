/- A call that reads rows which it is handed and answers with a new row, by a run from known memory; a row's copy. -/
import Derived.Test.YtdpkmhnpbbapcaaDoorVaiView2
import Derived.Test.YtdpkmhnpbbapcaaDoorVaiH
section
namespace Go.Vai
noncomputable section
variable {P : Program} {gl : List (Nat × List AV)} {E : Env}
end
end Go.Vai
end
