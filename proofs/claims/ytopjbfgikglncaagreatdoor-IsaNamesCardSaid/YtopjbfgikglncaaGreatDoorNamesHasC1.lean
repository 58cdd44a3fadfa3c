/- compact's row.has: some rows, by the kernel. -/
import Derived.Test.YtopjbfgikglncaaGreatDoorNamesHas0
import Derived.KernelRfl
namespace Go.Proofs.YtopjbfgikglncaaGreatDoor
open Go Go.Vai
set_option maxRecDepth 100000
theorem rh2_all : RH2.all chkH = true := by kernel_rfl
theorem rh3_all : RH3.all chkH = true := by kernel_rfl
end Go.Proofs.YtopjbfgikglncaaGreatDoor
