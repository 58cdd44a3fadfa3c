/- The tie's closed facts: that what it leaves lies apart. -/
import Derived.Test.YthlcgkebfodnmaaGreatDoorAsTie0
namespace Go.Proofs.YthlcgkebfodnmaaGreatDoor
open Go
theorem tie_h2 : ∀ os tape, (DataW.laidRun Tryz.prog (varsWorld Tryz.prog 400 (varsId Tryz.prog) os tape).memory 8 (tieL.map (·.1))).map (fun x => decide x.2.Nodup && laidRowsB Tryz.prog (varsWorld Tryz.prog 400 (varsId Tryz.prog) os tape).memory x.2) = some true := fun _ _ => by kernel_rfl
end Go.Proofs.YthlcgkebfodnmaaGreatDoor
