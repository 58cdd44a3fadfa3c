/- asm.Source on one of begun's sources: run by the kernel. -/
import Derived.Test.YthlcgkebfodnmaaGreatDoorAsDig
namespace Go.Proofs.YthlcgkebfodnmaaGreatDoor
open Go Go.Vai
noncomputable section
set_option maxRecDepth 100000
theorem srcD2_run : pack srcD2.keep (runR EBs 100000 (.call 6 srcD2.args (gHeap 12 gl))) = some (srcD2.v, srcD2.os.map some) := by kernel_rfl
theorem srcD2_ok : SmOk Tryz.prog gl (closedSm srcD2) := closed_ok (E := EBs) (n := 100000) ebs_ok gl_ok src_fn (plain_list rfl) (by have := srcD2_run; rw [runR_eq] at this; exact this) (by decide) (by kernel_rfl)
end
end Go.Proofs.YthlcgkebfodnmaaGreatDoor
