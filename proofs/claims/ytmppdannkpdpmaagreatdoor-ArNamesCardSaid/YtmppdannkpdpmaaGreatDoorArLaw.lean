/- 'foundrylaw7.ArNames', from any input: it answers true. -/
import Derived.Test.YtmppdannkpdpmaaGreatDoorArLw1
import Derived.Test.YtmppdannkpdpmaaGreatDoorVaiArgB
import Derived.Test.YtmppdannkpdpmaaGreatDoorVaiI
import Derived.Test.YtmppdannkpdpmaaGreatDoorVaiE
import Derived.Test.YtmppdannkpdpmaaGreatDoorVaiH
import Derived.Test.YtmppdannkpdpmaaGreatDoorTie
import Derived.Test.YtmppdannkpdpmaaGreatDoorCards
import Derived.WalkKit
import Derived.ProofKit
import Derived.Lay
import Derived.LaidOnce
import Derived.SevenTiedAt
namespace Go.Proofs.YtmppdannkpdpmaaGreatDoor
open Go Go.Vai Go.RowKit Go.ChangeShapes Go.WideShapes Go.ChangeAt
set_option maxRecDepth 100000
noncomputable section
theorem own : ownKnob Tryz.prog.godebug = none := by kernel_rfl
theorem laidOut : laidOutB Tryz.prog = true := by kernel_rfl
theorem Zmw : ((begin Tryz.prog (fun _ _ => 0) default).world.heap[0]?).bind Obj.row? = some (#[.int .i64 0], 3) := by kernel_rfl
theorem Zb3 : (Rows.arNamesRow.laid.all fun x => x.2.handleName?.isNone) = true := by kernel_rfl
theorem Zq8 : Zac Tryz.prog 3 144 Rows.laid_internal_strconv_uint64pow10 = some Zsb := by kernel_rfl
theorem Zt1 : Tryz.prog.globalNamed "internal/strconv.uint64pow10" = some 1 := by kernel_rfl
theorem Zry : (Tryz.prog.globals[1]?).map (·.type) = some 144 := by kernel_rfl
theorem Zx6 : ("internal/strconv.uint64pow10", (Rows.laid_internal_strconv_uint64pow10 : DataW Unit)) ∈ Rows.arNamesRow.laid := .tail _ (.tail _ (.head _))
theorem Zw6 {W : World} (h : W.ShapedOpen Tryz.prog) (hl : laidMetH Tryz.prog Rows.arNamesRow.laid W) : Ya gl W := by
  intro g av hm
  rcases List.mem_cons.1 hm with hm | hm
  · have e2 : g = 1 := congrArg Prod.fst hm
    have e3 : av = Zsb := congrArg Prod.snd hm
    rw [e2, e3]
    obtain ⟨cs, e, lo, hi, a1, a2⟩ := Zoa hl Zb3 Zx6 Zt1 Zry Zq8
    exact ⟨cs, e, lo, hi, a1, a2⟩
  have e1 : (g, av) = (0, [.opq (some .i64)]) := List.mem_singleton.1 hm
  have e2 : g = 0 := congrArg Prod.fst e1
  have e3 : av = [.opq (some .i64)] := congrArg Prod.snd e1
  rw [e2, e3]
  exact Zp6 h (by decide) Zmw rfl (Zol.s1_3 W h)
theorem Z0x : Zc3 Tryz.prog 3 5 = some [.int .u8] := by kernel_rfl
theorem Zw9 : Tryz.prog.cellsOf 5 = 1 := by kernel_rfl
theorem Zho : (Tryz.f6.params.toList.all fun t => Tryz.prog.readableRec t && decide (t < Tryz.prog.types.size)) = true := by kernel_rfl
theorem trodAll_three {H : Type} {enc : TypeId × Value → H} {P : Program} {w : World} {base : Nat} {spare : Nat → Bool} {held : Bool} {a b c : TypeId} {args : Array Value} {ds : List (DataW H)} {ps : List MemPlace} (h : DataW.TrodAll enc P w base spare held [a, b, c] args.toList ds ps) : ∃ v0 v1 v2 d0 d1 d2 p0 p1 p2, args = #[v0, v1, v2] ∧ ds = [d0, d1, d2] ∧ ps = p0 ++ p1 ++ p2 ∧ DataW.Trod enc P w base spare held a v0 d0 p0 ∧ DataW.Trod enc P w base spare held b v1 d1 p1 ∧ DataW.Trod enc P w base spare held c v2 d2 p2 := by
  obtain ⟨v0, l0, d0, k0, p0, q0, hargs, rfl, rfl, h0, r0⟩ := trodAll_cons h
  obtain ⟨v1, l1, d1, k1, p1, q1, rfl, rfl, rfl, h1, r1⟩ := trodAll_cons r0
  obtain ⟨v2, l2, d2, k2, p2, q2, rfl, rfl, rfl, h2, r2⟩ := trodAll_cons r1
  obtain ⟨rfl, rfl, rfl⟩ := trodAll_nil r2
  exact ⟨v0, v1, v2, d0, d1, d2, p0, p1, p2, by cases args; simp_all, rfl, by simp, h0, h1, h2⟩
theorem Zuu (os : Os) (started : os.Started) (H : Type) (enc : TypeId × Value → H) :
    ReturnsInHanded {} Tryz.checked os 6 .any (fun w args => (Rows.arNamesSpec.pre enc Tryz.prog Tryz.f6 [] false w args ∧ laidMetH Tryz.prog Rows.arNamesRow.laid w) ∧ sizedMet enc Tryz.prog Tryz.f6 (OpenSpec.ofChange Rows.arNamesSpec) false w args)
      (Rows.arNamesSpec.post enc Tryz.prog Tryz.f6 false true false false) := by
  refine Zdn (C := Tryz.checked) (X := fun w _ => laidMetH Tryz.prog Rows.arNamesRow.laid w) (fun _ _ _ hh h => h.of_heap hh) own started (by kernel_rfl) Tryz.func6
    (ChangeSpec.witness_shaped (enc := enc) (C := Tryz.checked) (os := os) (X := fun w _ => laidMetH Tryz.prog Rows.arNamesRow.laid w) false (World.laidAll Tryz.prog os Rows.arNamesRow.laid) #[.int .i64 0, .int .i64 0, .slice none 0 0] 5 (World.laidAll_os _ _ _)
      (World.shaped_of_ZipB (by kernel_rfl) (by kernel_rfl)) (by kernel_rfl) (by kernel_rfl) (by kernel_rfl)
      (by rw [MakeChecks.laidMetH_plain _ _ _ Zb3]; exact laidMet_laidAll _ (by kernel_rfl) (by kernel_rfl))) ?_
  intro W base args ds gs before hval0 hW _ _ hL hsh _
  have hval : ∀ (j : Nat) t v, Tryz.f6.params[j]? = some t → args[j]? = some v → Value.okWide Tryz.prog W .any base t v := hval0
  have hW' := hW
  obtain ⟨p, q, hA0, hV, rfl, _, _⟩ := hW
  have hA : DataW.TrodAll enc Tryz.prog W 0 (fun _ => true) true Tryz.f6.params.toList args.toList ds p := hA0
  rw [Tryz.params6] at hA hval
  obtain ⟨v0, v1, v2, d0, d1, d2, p0, p1, p2, rfl, rfl, rfl, h0, h1, h2⟩ := trodAll_three hA
  obtain ⟨rfl, rfl⟩ := trodVars_none hV
  obtain ⟨n, rfl, _, _, _⟩ := open_int Tryz.underlying3 (hval 0 3 v0 rfl rfl) h0
  obtain ⟨m, rfl, _, _, _⟩ := open_int Tryz.underlying3 (hval 1 3 v1 rfl rfl) h1
  have hw := Zw6 hsh hL
  have fin : Calls Tryz.prog 6 #[.int .i64 n, .int .i64 m, v2] W fun e w' => e = .returned (.bool true) ∧ Keeps W w' := by
    rcases Zp5 Tryz.underlying25 Tryz.underlying5 Z0x Zw9 (hval 2 25 v2 rfl rfl) h2 with rfl | ⟨x, cap, rfl⟩ | ⟨len, cap, vs, mm, hl0, hlc, hvl, hrel, hv, hLs⟩
    · exact lawN hw n m rfl
    · exact lawZ hw n m ⟨x, cap, rfl⟩
    · have hx : (X2 8 0 ++ [mm])[8]? = some mm := by
        rw [List.getElem?_append_right (by rw [Wm]; omega), Wm]; rfl
      by_cases hn : len ≤ 300
      · obtain ⟨L, rfl⟩ := hLs (by omega)
        rw [List.length_map] at hvl
        subst hvl
        cases L with
        | nil => simp at hl0
        | cons a b => exact lawA hw n m hrel (hv _ _ hx) hn
      · exact Zwl hw n m hrel (hv _ _ hx) (by omega)
  refine fin.mono fun e W' ⟨he, hk⟩ => ?_
  subst he
  exact ⟨_, rfl, Ztm laidOut Zho rfl Tryz.underlying4 rfl ⟨rfl, by simp [Rows.arNamesSpec], rfl⟩ hW' hk.below⟩
end
end Go.Proofs.YtmppdannkpdpmaaGreatDoor
