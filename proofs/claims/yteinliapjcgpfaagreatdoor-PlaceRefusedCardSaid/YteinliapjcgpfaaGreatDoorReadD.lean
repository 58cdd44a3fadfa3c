/- script.Read of the default script: what it leaves. -/
import Derived.Test.YteinliapjcgpfaaGreatDoorReadDefs
import Derived.Test.YteinliapjcgpfaaGreatDoorVaiClose
import Derived.KernelRfl
namespace Go.Proofs.YteinliapjcgpfaaGreatDoor
open Go Go.Vai
set_option maxRecDepth 100000
theorem readD_run : pack readD.keep (runR E1 100000 (.call 8 readD.args (gHeap 6 gl))) = some (readD.v, readD.os.map some) := by kernel_rfl
end Go.Proofs.YteinliapjcgpfaaGreatDoor
