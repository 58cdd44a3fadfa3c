/- What is listed, the library's stand-ins, strings.Split and strings.Count whatever MaxLen holds; 'begun' answers true. -/
import Derived.Shelf.LaysM
import Derived.Test.YtdpkmhnpbbapcaaDoorRows
import Derived.Test.YtdpkmhnpbbapcaaDoorVaiE
import Derived.Test.YtdpkmhnpbbapcaaDoorVaiH
import Derived.Test.YtdpkmhnpbbapcaaDoorVaiSplit
import Derived.KernelRfl
namespace Go.Proofs.YtdpkmhnpbbapcaaDoor
open Go Go.Vai Go.Shelf
set_option maxRecDepth 100000
def Zhv : Go.Shelf.Ren := ⟨fun | 146 => 11 | 221 => 18 | 268 => 27 | 138 => 10 | 143 => 17 | 195 => 15 | 197 => 40 | 218 => 16 | 219 => 26 | 260 => 47 | 217 => 36 | 225 => 37 | 224 => 38 | 267 => 39 | 266 => 45 | 314 => 46 | n => n, fun | 9 => 9 | 31 => 38 | 3 => 3 | 4 => 4 | 0 => 0 | 105 => 65 | 21 => 21 | 5 => 5 | 46 => 64 | 119 => 77 | 139 => 80 | 138 => 79 | 146 => 74 | 51 => 73 | n => n, fun | 1 => 0 | 3 => 1 | 4 => 2 | n => n⟩
theorem Ztk : Go.Proofs.LaysM.n146 Tryd.prog Zhv :=
  {
  mixed := by kernel_rfl,
  f138 := Tryd.func10.trans (congrArg some (by kernel_rfl)),
  f143 := Tryd.func17.trans (congrArg some (by kernel_rfl)),
  f146 := Tryd.func11.trans (congrArg some (by kernel_rfl)),
  f195 := Tryd.func15.trans (congrArg some (by kernel_rfl)),
  f197 := Tryd.func40.trans (congrArg some (by kernel_rfl)),
  f217 := Tryd.func36.trans (congrArg some (by kernel_rfl)),
  f218 := Tryd.func16.trans (congrArg some (by kernel_rfl)),
  f219 := Tryd.func26.trans (congrArg some (by kernel_rfl)),
  f221 := Tryd.func18.trans (congrArg some (by kernel_rfl)),
  f224 := Tryd.func38.trans (congrArg some (by kernel_rfl)),
  f225 := Tryd.func37.trans (congrArg some (by kernel_rfl)),
  f260 := Tryd.func47.trans (congrArg some (by kernel_rfl)),
  f266 := Tryd.func45.trans (congrArg some (by kernel_rfl)),
  f267 := Tryd.func39.trans (congrArg some (by kernel_rfl)),
  f268 := Tryd.func27.trans (congrArg some (by kernel_rfl)),
  f314 := Tryd.func46.trans (congrArg some (by kernel_rfl)),
  t0 := Tryd.underlying0,
  a0 := Tryd.isAgg0,
  z0 := Tryd.sizeOf0,
  v0 := Tryd.zeroValue0,
  t3 := Tryd.underlying3,
  a3 := Tryd.isAgg3,
  z3 := Tryd.sizeOf3,
  v3 := Tryd.zeroValue3,
  t4 := Tryd.underlying4,
  a4 := Tryd.isAgg4,
  z4 := Tryd.sizeOf4,
  v4 := Tryd.zeroValue4,
  t5 := Tryd.underlying5,
  a5 := Tryd.isAgg5,
  z5 := Tryd.sizeOf5,
  v5 := Tryd.zeroValue5,
  t9 := Tryd.underlying9,
  a9 := Tryd.isAgg9,
  z9 := Tryd.sizeOf9,
  v9 := Tryd.zeroValue9,
  t21 := Tryd.underlying21,
  a21 := Tryd.isAgg21,
  z21 := Tryd.sizeOf21,
  v21 := Tryd.zeroValue21,
  t31 := Tryd.underlying38,
  a31 := Tryd.isAgg38,
  z31 := Tryd.sizeOf38,
  v31 := Tryd.zeroValue38,
  t46 := Tryd.underlying64,
  a46 := Tryd.isAgg64,
  z46 := Tryd.sizeOf64,
  v46 := Tryd.zeroValue64,
  t51 := Tryd.underlying73,
  a51 := Tryd.isAgg73,
  z51 := Tryd.sizeOf73,
  v51 := Tryd.zeroValue73,
  t105 := Tryd.underlying65,
  a105 := Tryd.isAgg65,
  z105 := Tryd.sizeOf65,
  v105 := Tryd.zeroValue65,
  t119 := Tryd.underlying77,
  a119 := Tryd.isAgg77,
  z119 := Tryd.sizeOf77,
  t138 := Tryd.underlying79,
  a138 := Tryd.isAgg79,
  z138 := Tryd.sizeOf79,
  v138 := Tryd.zeroValue79,
  t139 := Tryd.underlying80,
  a139 := Tryd.isAgg80,
  z139 := Tryd.sizeOf80,
  v139 := Tryd.zeroValue80,
  t146 := Tryd.underlying74,
  a146 := Tryd.isAgg74,
  z146 := Tryd.sizeOf74,
  v146 := Tryd.zeroValue74,
  g1 := by kernel_rfl,
  g3 := by kernel_rfl,
  g4 := by kernel_rfl,
  i0 := by kernel_rfl,
  i3 := by kernel_rfl,
  i4 := by kernel_rfl,
  i5 := by kernel_rfl,
  i9 := by kernel_rfl,
  i21 := by kernel_rfl,
  i31 := by kernel_rfl,
  i46 := by kernel_rfl,
  i51 := by kernel_rfl,
  i105 := by kernel_rfl,
  i138 := by kernel_rfl,
  i139 := by kernel_rfl,
  i146 := by kernel_rfl,
  m1 := by kernel_rfl,
  s1_3 := fun w h => Go.Proofs.cell_of_shapedOpen_int (zero := #[.int .i64 0]) (t := 3) h (of_decide_eq_true (by kernel_rfl)) (by kernel_rfl) rfl (by kernel_rfl) (by kernel_rfl) Tryd.underlying3,
  m3 := by kernel_rfl,
  m4 := by kernel_rfl }
def Zqb : Go.Shelf.Ren := ⟨fun | 138 => 10 | 195 => 15 | 218 => 16 | 143 => 17 | 219 => 26 | 217 => 36 | 225 => 37 | 224 => 38 | 267 => 39 | 266 => 45 | 314 => 46 | n => n, fun | 9 => 9 | 3 => 3 | 4 => 4 | 5 => 5 | 0 => 0 | 46 => 64 | 146 => 74 | 51 => 73 | n => n, fun | 1 => 0 | n => n⟩
theorem Z6k : Go.Proofs.LaysM.n138 Tryd.prog Zqb :=
  {
  mixed := by kernel_rfl,
  f138 := Tryd.func10.trans (congrArg some (by kernel_rfl)),
  f143 := Tryd.func17.trans (congrArg some (by kernel_rfl)),
  f195 := Tryd.func15.trans (congrArg some (by kernel_rfl)),
  f217 := Tryd.func36.trans (congrArg some (by kernel_rfl)),
  f218 := Tryd.func16.trans (congrArg some (by kernel_rfl)),
  f219 := Tryd.func26.trans (congrArg some (by kernel_rfl)),
  f224 := Tryd.func38.trans (congrArg some (by kernel_rfl)),
  f225 := Tryd.func37.trans (congrArg some (by kernel_rfl)),
  f266 := Tryd.func45.trans (congrArg some (by kernel_rfl)),
  f267 := Tryd.func39.trans (congrArg some (by kernel_rfl)),
  f314 := Tryd.func46.trans (congrArg some (by kernel_rfl)),
  t0 := Tryd.underlying0,
  a0 := Tryd.isAgg0,
  z0 := Tryd.sizeOf0,
  v0 := Tryd.zeroValue0,
  t3 := Tryd.underlying3,
  a3 := Tryd.isAgg3,
  z3 := Tryd.sizeOf3,
  v3 := Tryd.zeroValue3,
  t4 := Tryd.underlying4,
  a4 := Tryd.isAgg4,
  z4 := Tryd.sizeOf4,
  v4 := Tryd.zeroValue4,
  t5 := Tryd.underlying5,
  a5 := Tryd.isAgg5,
  z5 := Tryd.sizeOf5,
  v5 := Tryd.zeroValue5,
  t9 := Tryd.underlying9,
  a9 := Tryd.isAgg9,
  z9 := Tryd.sizeOf9,
  v9 := Tryd.zeroValue9,
  t46 := Tryd.underlying64,
  a46 := Tryd.isAgg64,
  z46 := Tryd.sizeOf64,
  v46 := Tryd.zeroValue64,
  t51 := Tryd.underlying73,
  a51 := Tryd.isAgg73,
  z51 := Tryd.sizeOf73,
  v51 := Tryd.zeroValue73,
  t146 := Tryd.underlying74,
  a146 := Tryd.isAgg74,
  z146 := Tryd.sizeOf74,
  v146 := Tryd.zeroValue74,
  g1 := by kernel_rfl,
  i0 := by kernel_rfl,
  i3 := by kernel_rfl,
  i4 := by kernel_rfl,
  i5 := by kernel_rfl,
  i9 := by kernel_rfl,
  i46 := by kernel_rfl,
  i51 := by kernel_rfl,
  i146 := by kernel_rfl,
  m1 := by kernel_rfl,
  s1_3 := fun w h => Go.Proofs.cell_of_shapedOpen_int (zero := #[.int .i64 0]) (t := 3) h (of_decide_eq_true (by kernel_rfl)) (by kernel_rfl) rfl (by kernel_rfl) (by kernel_rfl) Tryd.underlying3 }
def kinds : List (Nat × Nat × Nat) := [(45, 1, 0), (16, 2, 0)]
def gl : List (Nat × List AV) := [(0, [.opq (some .i64)]), (4, [.opq none])]
noncomputable def E1 : Env := V3 Tryd.prog 8 [] (Za1 kinds)
theorem Zch : Zmi Tryd.prog kinds = true := by kernel_rfl
theorem Zlp : Ke [] Tryd.prog.funcs.toList 0 = true := by kernel_rfl
theorem W1 : Tryd.prog.follows .mixedOrders = true := by kernel_rfl
theorem Wl : (gl.all fun x => Nat.blt x.1 8) = true := by kernel_rfl
theorem Zwa : Qm Tryd.prog gl (Zaq 11 9) := Zzd Ztk.ton146 (by kernel_rfl) (by rw [show Zhv.g 1 = 0 by kernel_rfl]; exact .head _)
theorem Zwl : Qm Tryd.prog gl (Zay 10) := Z27 Z6k.ton138
theorem Zcp (w : World) (hw : Yf gl w) : EnvOk E1 Tryd.prog (Kept gl w) := Vp Zlp (Jt Zch) W1 (fun _ _ _ h => h.1) (Zt hw).ext
noncomputable def E0 : Env := V3 Tryd.prog 8 [] (Zr7 kinds [])
theorem Z4q : (E0.fn 5).isSome = true := by kernel_rfl
theorem Zxx : TRes.isB true (Yez E0 100000 (.call 5 [] (Xf 8 gl))) = true := by kernel_rfl
theorem Zvy : ∀ w, Yf gl w → (callFunc 5 #[]).run Tryd.prog w = .ok (.enter 5 #[]) w ∧ Calls Tryd.prog 5 #[] w fun e w' => e = .returned (.bool true) ∧ Keeps w w' := by
  have h := Zxx
  rw [Ztj] at h
  exact Yb1 Zlp Zch Z3f W1 Wl Z4q h
end Go.Proofs.YtdpkmhnpbbapcaaDoor
