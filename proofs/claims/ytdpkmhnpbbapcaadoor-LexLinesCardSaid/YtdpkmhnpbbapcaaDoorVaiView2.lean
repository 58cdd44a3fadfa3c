/- A call that reads one row that it is handed and answers a plain value: by a run from known memory, in whatever memory. -/
import Derived.Test.YtdpkmhnpbbapcaaDoorVaiH
section
namespace Go.Vai
noncomputable section
variable {P : Program} {gl : List (Nat × List AV)} {E : Env}
end
end Go.Vai
end
