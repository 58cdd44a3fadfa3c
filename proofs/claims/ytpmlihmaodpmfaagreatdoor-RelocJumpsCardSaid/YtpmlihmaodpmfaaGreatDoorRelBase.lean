/- The environment of the laws about relocations: what is listed, the library's stand-ins, strings.Contains whatever MaxLen holds. -/
import Derived.Test.YtpmlihmaodpmfaaGreatDoorRows
import Derived.Test.YtpmlihmaodpmfaaGreatDoorVaiE
import Derived.Test.YtpmlihmaodpmfaaGreatDoorVaiH
import Derived.Shelf.LaysM
import Derived.KernelRfl
namespace Go.Proofs.YtpmlihmaodpmfaaGreatDoor
open Go Go.Vai Go.Shelf
def lays144_ren : Go.Shelf.Ren := ⟨fun | 144 => 21 | 143 => 43 | 219 => 72 | 217 => 118 | 225 => 119 | 224 => 120 | 267 => 121 | 266 => 160 | 314 => 161 | n => n, fun | 9 => 9 | 4 => 4 | 3 => 3 | 5 => 5 | 46 => 33 | 146 => 230 | 51 => 103 | n => n, fun | 1 => 0 | n => n⟩
theorem lays144 : Go.Proofs.LaysM.n144 Tryz.prog lays144_ren :=
  {
  mixed := by kernel_rfl,
  f143 := Tryz.func43.trans (congrArg some (by kernel_rfl)),
  f144 := Tryz.func21.trans (congrArg some (by kernel_rfl)),
  f217 := Tryz.func118.trans (congrArg some (by kernel_rfl)),
  f219 := Tryz.func72.trans (congrArg some (by kernel_rfl)),
  f224 := Tryz.func120.trans (congrArg some (by kernel_rfl)),
  f225 := Tryz.func119.trans (congrArg some (by kernel_rfl)),
  f266 := Tryz.func160.trans (congrArg some (by kernel_rfl)),
  f267 := Tryz.func121.trans (congrArg some (by kernel_rfl)),
  f314 := Tryz.func161.trans (congrArg some (by kernel_rfl)),
  t3 := Tryz.underlying3,
  a3 := Tryz.isAgg3,
  z3 := Tryz.sizeOf3,
  v3 := Tryz.zeroValue3,
  t4 := Tryz.underlying4,
  a4 := Tryz.isAgg4,
  z4 := Tryz.sizeOf4,
  v4 := Tryz.zeroValue4,
  t5 := Tryz.underlying5,
  a5 := Tryz.isAgg5,
  z5 := Tryz.sizeOf5,
  v5 := Tryz.zeroValue5,
  t9 := Tryz.underlying9,
  a9 := Tryz.isAgg9,
  z9 := Tryz.sizeOf9,
  v9 := Tryz.zeroValue9,
  t46 := Tryz.underlying33,
  a46 := Tryz.isAgg33,
  z46 := Tryz.sizeOf33,
  v46 := Tryz.zeroValue33,
  t51 := Tryz.underlying103,
  a51 := Tryz.isAgg103,
  z51 := Tryz.sizeOf103,
  v51 := Tryz.zeroValue103,
  t146 := Tryz.underlying230,
  a146 := Tryz.isAgg230,
  z146 := Tryz.sizeOf230,
  v146 := Tryz.zeroValue230,
  g1 := by kernel_rfl,
  i3 := by kernel_rfl,
  i4 := by kernel_rfl,
  i5 := by kernel_rfl,
  i9 := by kernel_rfl,
  i46 := by kernel_rfl,
  i51 := by kernel_rfl,
  i146 := by kernel_rfl,
  m1 := by kernel_rfl,
  s1_3 := fun w h => Go.Proofs.cell_of_shapedOpen_int (zero := #[.int .i64 0]) (t := 3) h (of_decide_eq_true (by kernel_rfl)) (by kernel_rfl) rfl (by kernel_rfl) (by kernel_rfl) Tryz.underlying3 }
def kinds : List (Nat × Nat × Nat) := [(160, 1, 0), (190, 3, 0), (191, 4, 5)]
def gl : List (Nat × List AV) := [(0, [.opq (some .i64)])]
theorem ext_ok : extOk Tryz.prog kinds = true := by kernel_rfl
theorem mixed_ok : Tryz.prog.follows .mixedOrders = true := by kernel_rfl
theorem gl_ok : (gl.all fun x => Nat.blt x.1 12) = true := by kernel_rfl
theorem cont_ok1 : SmOk Tryz.prog gl (contSm 21) := cont_ok lays144.ton144 (List.mem_singleton.2 (by kernel_rfl))
noncomputable def E1 : Env := envOf Tryz.prog 12 [21] (orSm (extSm kinds) (contSm 21))
theorem e1_ok (w : World) (hw : GlobOk gl w) : EnvOk E1 Tryz.prog (Kept gl w) := envOk_sm (by kernel_rfl) ((smOk_ext ext_ok).or cont_ok1) mixed_ok (fun _ _ _ h => h.1) (kept_carried hw).ext
end Go.Proofs.YtpmlihmaodpmfaaGreatDoor
