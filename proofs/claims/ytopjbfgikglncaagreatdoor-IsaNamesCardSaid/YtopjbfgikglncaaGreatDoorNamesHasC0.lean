/- compact's row.has: some rows, by the kernel. -/
import Derived.Test.YtopjbfgikglncaaGreatDoorNamesHas0
import Derived.KernelRfl
namespace Go.Proofs.YtopjbfgikglncaaGreatDoor
open Go Go.Vai
set_option maxRecDepth 100000
theorem rh0_all : RH0.all chkH = true := by kernel_rfl
theorem rh1_all : RH1.all chkH = true := by kernel_rfl
end Go.Proofs.YtopjbfgikglncaaGreatDoor
