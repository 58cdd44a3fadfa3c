/- What is said of a name's text. -/
import Derived.Test.YtlclahpapabkdaaGreatDoorTxW
import Derived.KernelRfl
namespace Go.Proofs.YtlclahpapabkdaaGreatDoor
open Go Go.Vai
noncomputable section
set_option maxRecDepth 100000
def RowT (t : Int) (nm : List UInt8) (c : Nat) : Prop := ∀ (ev : EvT) (nv : Int → Int → List UInt8), NvOk nv → ∀ A B C D I : Int, rng A B C D I = true → okC c A B C D I → ∃ o, callPS (E4 ev nv) (SK4 ev nv) noPin 100000 (.call 5 [.int .i64 t, insV nm A B C D I] (gHeap 12 gl)) o jK = txE (ev t nm A B C D I) (some (.tup [.str (txOf nm (ptC nv c A B C D I)), .int .i64 (.ofNat 0)]))
end
end Go.Proofs.YtlclahpapabkdaaGreatDoor
