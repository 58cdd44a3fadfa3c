/- asm.Source on one of begun's sources: run by the kernel. -/
import Derived.Test.YthlcgkebfodnmaaGreatDoorAsDig
namespace Go.Proofs.YthlcgkebfodnmaaGreatDoor
open Go Go.Vai
noncomputable section
set_option maxRecDepth 100000
theorem srcD0_run : pack srcD0.keep (runR EBs 100000 (.call 6 srcD0.args (gHeap 12 gl))) = some (srcD0.v, srcD0.os.map some) := by kernel_rfl
theorem srcD0_ok : SmOk Tryz.prog gl (closedSm srcD0) := closed_ok (E := EBs) (n := 100000) ebs_ok gl_ok src_fn (plain_list rfl) (by have := srcD0_run; rw [runR_eq] at this; exact this) (by decide) (by kernel_rfl)
end
end Go.Proofs.YthlcgkebfodnmaaGreatDoor
