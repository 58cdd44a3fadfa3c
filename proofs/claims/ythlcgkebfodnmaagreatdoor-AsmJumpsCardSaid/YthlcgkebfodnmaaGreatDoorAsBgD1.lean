/- asm.Source on one of begun's sources: run by the kernel. -/
import Derived.Test.YthlcgkebfodnmaaGreatDoorAsDig
namespace Go.Proofs.YthlcgkebfodnmaaGreatDoor
open Go Go.Vai
noncomputable section
set_option maxRecDepth 100000
theorem srcD1_run : pack srcD1.keep (runR EBs 100000 (.call 6 srcD1.args (gHeap 12 gl))) = some (srcD1.v, srcD1.os.map some) := by kernel_rfl
theorem srcD1_ok : SmOk Tryz.prog gl (closedSm srcD1) := closed_ok (E := EBs) (n := 100000) ebs_ok gl_ok src_fn (plain_list rfl) (by have := srcD1_run; rw [runR_eq] at this; exact this) (by decide) (by kernel_rfl)
end
end Go.Proofs.YthlcgkebfodnmaaGreatDoor
