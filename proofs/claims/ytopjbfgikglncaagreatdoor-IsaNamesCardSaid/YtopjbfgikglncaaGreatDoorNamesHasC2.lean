/- compact's row.has: some rows, by the kernel. -/
import Derived.Test.YtopjbfgikglncaaGreatDoorNamesHas0
import Derived.KernelRfl
namespace Go.Proofs.YtopjbfgikglncaaGreatDoor
open Go Go.Vai
set_option maxRecDepth 100000
theorem rh4_all : RH4.all chkH = true := by kernel_rfl
end Go.Proofs.YtopjbfgikglncaaGreatDoor
