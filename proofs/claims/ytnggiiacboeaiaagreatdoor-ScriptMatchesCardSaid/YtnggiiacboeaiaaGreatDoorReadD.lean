/- script.Read of the default script: what it leaves. -/
import Derived.Test.YtnggiiacboeaiaaGreatDoorReadDefs
import Derived.Test.YtnggiiacboeaiaaGreatDoorVaiClose
import Derived.KernelRfl
namespace Go.Proofs.YtnggiiacboeaiaaGreatDoor
open Go Go.Vai
set_option maxRecDepth 100000
theorem readD_run : pack readD.keep (runR E1 100000 (.call 13 readD.args (gHeap 8 gl))) = some (readD.v, readD.os.map some) := by kernel_rfl
end Go.Proofs.YtnggiiacboeaiaaGreatDoor
