/- script.Read of a script that ends too soon: what it leaves. -/
import Derived.Test.YtnggiiacboeaiaaGreatDoorReadDefs
import Derived.Test.YtnggiiacboeaiaaGreatDoorVaiClose
import Derived.KernelRfl
namespace Go.Proofs.YtnggiiacboeaiaaGreatDoor
open Go Go.Vai
set_option maxRecDepth 100000
theorem readS_run : pack readS.keep (runR E1 100000 (.call 13 readS.args (gHeap 8 gl))) = some (readS.v, readS.os.map some) := by kernel_rfl
end Go.Proofs.YtnggiiacboeaiaaGreatDoor
