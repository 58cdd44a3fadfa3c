/- The tie's closed facts: what the run of the variables leaves. -/
import Derived.Test.YthlcgkebfodnmaaGreatDoorAsTie0
namespace Go.Proofs.YthlcgkebfodnmaaGreatDoor
open Go
theorem tie_h1 : ∀ os tape, (DataW.laidRun Tryz.prog (varsWorld Tryz.prog 400 (varsId Tryz.prog) os tape).memory 8 (tieL.map (·.1))).map (·.1) = some tieL := fun _ _ => by kernel_rfl
end Go.Proofs.YthlcgkebfodnmaaGreatDoor
