/- Package mask: the mask of some fields. -/
import Derived.Test.YtlclahpapabkdaaGreatDoorMask1
import Derived.KernelRfl
namespace Go.Proofs.YtlclahpapabkdaaGreatDoor
open Go Go.Vai
noncomputable section
set_option maxRecDepth 100000
end
end Go.Proofs.YtlclahpapabkdaaGreatDoor
