/- The environment of RelocAsks: what is listed, the library's stand-ins, strings.Contains whatever MaxLen holds. -/
import Derived.Shelf.LaysM
import Derived.Test.YtbfdooplkdofeaaGreatDoorProg
import Derived.Test.YtbfdooplkdofeaaGreatDoorVaiE
import Derived.Test.YtbfdooplkdofeaaGreatDoorVaiH
import Derived.KernelRfl
namespace Go.Proofs.YtbfdooplkdofeaaGreatDoor
open Go Go.Vai Go.Shelf
set_option maxRecDepth 100000
def lays144_ren : Go.Shelf.Ren := ⟨fun | 144 => 15 | 143 => 30 | 219 => 62 | 217 => 111 | 225 => 112 | 224 => 113 | 267 => 114 | 266 => 170 | 314 => 171 | n => n, fun | 9 => 9 | 4 => 4 | 3 => 3 | 5 => 5 | 46 => 99 | 146 => 223 | 51 => 98 | n => n, fun | 1 => 0 | n => n⟩
theorem lays144 : Go.Proofs.LaysM.n144 Tryz.prog lays144_ren :=
  {
  mixed := by kernel_rfl,
  f143 := Tryz.func30.trans (congrArg some (by kernel_rfl)),
  f144 := Tryz.func15.trans (congrArg some (by kernel_rfl)),
  f217 := Tryz.func111.trans (congrArg some (by kernel_rfl)),
  f219 := Tryz.func62.trans (congrArg some (by kernel_rfl)),
  f224 := Tryz.func113.trans (congrArg some (by kernel_rfl)),
  f225 := Tryz.func112.trans (congrArg some (by kernel_rfl)),
  f266 := Tryz.func170.trans (congrArg some (by kernel_rfl)),
  f267 := Tryz.func114.trans (congrArg some (by kernel_rfl)),
  f314 := Tryz.func171.trans (congrArg some (by kernel_rfl)),
  t3 := Tryz.underlying3,
  a3 := Tryz.isAgg3,
  z3 := Tryz.sizeOf3,
  v3 := Tryz.zeroValue3,
  t4 := Tryz.underlying4,
  a4 := Tryz.isAgg4,
  z4 := Tryz.sizeOf4,
  v4 := Tryz.zeroValue4,
  t5 := Tryz.underlying5,
  a5 := Tryz.isAgg5,
  z5 := Tryz.sizeOf5,
  v5 := Tryz.zeroValue5,
  t9 := Tryz.underlying9,
  a9 := Tryz.isAgg9,
  z9 := Tryz.sizeOf9,
  v9 := Tryz.zeroValue9,
  t46 := Tryz.underlying99,
  a46 := Tryz.isAgg99,
  z46 := Tryz.sizeOf99,
  v46 := Tryz.zeroValue99,
  t51 := Tryz.underlying98,
  a51 := Tryz.isAgg98,
  z51 := Tryz.sizeOf98,
  v51 := Tryz.zeroValue98,
  t146 := Tryz.underlying223,
  a146 := Tryz.isAgg223,
  z146 := Tryz.sizeOf223,
  v146 := Tryz.zeroValue223,
  g1 := by kernel_rfl,
  i3 := by kernel_rfl,
  i4 := by kernel_rfl,
  i5 := by kernel_rfl,
  i9 := by kernel_rfl,
  i46 := by kernel_rfl,
  i51 := by kernel_rfl,
  i146 := by kernel_rfl,
  m1 := by kernel_rfl,
  s1_3 := fun w h => Go.Proofs.cell_of_shapedOpen_int (zero := #[.int .i64 0]) (t := 3) h (of_decide_eq_true (by kernel_rfl)) (by kernel_rfl) rfl (by kernel_rfl) (by kernel_rfl) Tryz.underlying3 }
def qi (n : Nat) : Option AV := some (.int .i64 (.ofNat n))
def qu (n : Nat) : Option AV := some (.int .u64 (.ofNat n))
def qw (n : Nat) : Option AV := some (.int .u32 (.ofNat n))
def qh (n : Nat) : Option AV := some (.int .u16 (.ofNat n))
def qb (n : Nat) : Option AV := some (.int .u8 (.ofNat n))
def qn (n : Nat) : Option AV := some (.int .i64 (.negSucc n))
def qs (s : List UInt8) : Option AV := some (.str s)
def qt : Option AV := some (.bool true)
def qf : Option AV := some (.bool false)
def kinds : List (Nat × Nat × Nat) := [(170, 1, 0), (242, 3, 0), (243, 4, 5)]
def ascL : List AV := (List.range 256).map fun i => .int .u8 (if i = 32 ∨ (9 ≤ i ∧ i ≤ 13) then 1 else 0)
def gl : List (Nat × List AV) := [(0, [.opq (some .i64)]), (1, ascL), (4, [.opq none]), (5, [.opq none])]
theorem ext_ok : extOk Tryz.prog kinds = true := by kernel_rfl
theorem Zcb : Tryz.prog.follows .mixedOrders = true := by kernel_rfl
theorem Za3 : (gl.all fun x => Nat.blt x.1 12) = true := by kernel_rfl
theorem Zca : SmOk Tryz.prog gl (Zb7 15) := cont_ok lays144.ton144 (by rw [show lays144_ren.g 1 = 0 by kernel_rfl]; exact .head _)
noncomputable def E1 : Env := Zdn Tryz.prog 12 [15] (orSm (Zd2 kinds) (Zb7 15))
theorem Zbf (w : World) (hw : Zay gl w) : EnvOk E1 Tryz.prog (Kept gl w) := Zb9 (by kernel_rfl) ((Zcc ext_ok).or Zca) Zcb (fun _ _ _ h => h.1) (Zau hw).ext
end Go.Proofs.YtbfdooplkdofeaaGreatDoor
