/- What is listed, the library's stand-ins, strings.Contains whatever MaxLen holds. -/
import Derived.Shelf.LaysM
import Derived.Test.YtafpmnccoogojaaGreatDoorProg
import Derived.Test.YtafpmnccoogojaaGreatDoorVaiE
import Derived.Test.YtafpmnccoogojaaGreatDoorVaiH
import Derived.KernelRfl
namespace Go.Proofs.YtafpmnccoogojaaGreatDoor
open Go Go.Vai Go.Shelf
set_option maxRecDepth 100000
def lays144_ren : Go.Shelf.Ren := ⟨fun | 144 => 85 | 143 => 33 | 219 => 58 | 217 => 63 | 225 => 78 | 224 => 79 | 267 => 80 | 266 => 84 | 314 => 104 | n => n, fun | 9 => 9 | 4 => 4 | 3 => 3 | 5 => 5 | 46 => 120 | 146 => 130 | 51 => 22 | n => n, fun | 1 => 0 | n => n⟩
theorem lays144 : Go.Proofs.LaysM.n144 Tryz.prog lays144_ren :=
  {
  mixed := by kernel_rfl,
  f143 := Tryz.func33.trans (congrArg some (by kernel_rfl)),
  f144 := Tryz.func85.trans (congrArg some (by kernel_rfl)),
  f217 := Tryz.func63.trans (congrArg some (by kernel_rfl)),
  f219 := Tryz.func58.trans (congrArg some (by kernel_rfl)),
  f224 := Tryz.func79.trans (congrArg some (by kernel_rfl)),
  f225 := Tryz.func78.trans (congrArg some (by kernel_rfl)),
  f266 := Tryz.func84.trans (congrArg some (by kernel_rfl)),
  f267 := Tryz.func80.trans (congrArg some (by kernel_rfl)),
  f314 := Tryz.func104.trans (congrArg some (by kernel_rfl)),
  t3 := Tryz.underlying3,
  a3 := Tryz.isAgg3,
  z3 := Tryz.sizeOf3,
  v3 := Tryz.zeroValue3,
  t4 := Tryz.underlying4,
  a4 := Tryz.isAgg4,
  z4 := Tryz.sizeOf4,
  v4 := Tryz.zeroValue4,
  t5 := Tryz.underlying5,
  a5 := Tryz.isAgg5,
  z5 := Tryz.sizeOf5,
  v5 := Tryz.zeroValue5,
  t9 := Tryz.underlying9,
  a9 := Tryz.isAgg9,
  z9 := Tryz.sizeOf9,
  v9 := Tryz.zeroValue9,
  t46 := Tryz.underlying120,
  a46 := Tryz.isAgg120,
  z46 := Tryz.sizeOf120,
  v46 := Tryz.zeroValue120,
  t51 := Tryz.underlying22,
  a51 := Tryz.isAgg22,
  z51 := Tryz.sizeOf22,
  v51 := Tryz.zeroValue22,
  t146 := Tryz.underlying130,
  a146 := Tryz.isAgg130,
  z146 := Tryz.sizeOf130,
  v146 := Tryz.zeroValue130,
  g1 := by kernel_rfl,
  i3 := by kernel_rfl,
  i4 := by kernel_rfl,
  i5 := by kernel_rfl,
  i9 := by kernel_rfl,
  i46 := by kernel_rfl,
  i51 := by kernel_rfl,
  i146 := by kernel_rfl,
  m1 := by kernel_rfl,
  s1_3 := fun w h => Go.Proofs.cell_of_shapedOpen_int (zero := #[.int .i64 0]) (t := 3) h (of_decide_eq_true (by kernel_rfl)) (by kernel_rfl) rfl (by kernel_rfl) (by kernel_rfl) Tryz.underlying3 }
def kinds : List (Nat × Nat × Nat) := [(84, 1, 0), (32, 2, 0), (243, 3, 0), (244, 4, 5)]
def gl : List (Nat × List AV) := [(0, [.opq (some .i64)]), (4, [.opq none])]
theorem ext_ok : extOk Tryz.prog kinds = true := by kernel_rfl
theorem mixed_ok : Tryz.prog.follows .mixedOrders = true := by kernel_rfl
theorem gl_ok : (gl.all fun x => Nat.blt x.1 12) = true := by kernel_rfl
theorem cont_ok1 : SmOk Tryz.prog gl (contSm 85) := cont_ok lays144.ton144 (by rw [show lays144_ren.g 1 = 0 by kernel_rfl]; exact .head _)
theorem names_ok0 : namesOk [] Tryz.prog.funcs.toList 0 = true := by kernel_rfl
noncomputable def E1 : Env := envOf Tryz.prog 12 [] (extSm kinds)
theorem e1_ok (w : World) (hw : GlobOk gl w) : EnvOk E1 Tryz.prog (Kept gl w) := envOk_sm names_ok0 (smOk_ext ext_ok) mixed_ok (fun _ _ _ h => h.1) (kept_carried hw).ext
end Go.Proofs.YtafpmnccoogojaaGreatDoor
