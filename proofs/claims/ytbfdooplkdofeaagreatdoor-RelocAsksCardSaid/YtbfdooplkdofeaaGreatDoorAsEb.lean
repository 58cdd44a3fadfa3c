/- Trees whose leaves are a fault alone. -/
import Derived.Test.YtbfdooplkdofeaaGreatDoorVaiOpq
import Derived.Test.YtbfdooplkdofeaaGreatDoorVaiH
namespace Go.Proofs.YtbfdooplkdofeaaGreatDoor
open Go Go.Vai
theorem Zar {α : Type} (b : Bool) (x : α) : bc b x x = x := by cases b <;> rfl
theorem Za0 (b : Bool) (x y : Int) : bc b (some (AV.tup [.opq none, .int .i64 x])) (some (.tup [.opq none, .int .i64 y])) = some (.tup [.opq none, .int .i64 (bc b x y)]) := by cases b <;> rfl
theorem bc_z {b : Bool} {x y : Int} : (bc b x y = 0) ↔ (b = true ∧ x = 0) ∨ (b = false ∧ y = 0) := by cases b <;> simp [Zai, Zas]
def sq (k : IntKind) (x : Int) : Bool := AV.eqb (.int k x) (.int k x)
theorem sq_t (k : IntKind) (x : Int) : sq k x = true := eqb_refl _
def insV (s : List UInt8) (a b c d i : Int) : AV := .agg [.str s, .int .i64 a, .int .i64 b, .int .i64 c, .int .i64 d, .int .i64 i]
end Go.Proofs.YtbfdooplkdofeaaGreatDoor
