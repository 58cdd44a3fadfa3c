/- 'foundrylaw14.LexLines', from any input: it answers true. -/
import Derived.Test.YtdpkmhnpbbapcaaDoorLnLaw
import Derived.Test.YtdpkmhnpbbapcaaDoorVaiE
import Derived.Test.YtdpkmhnpbbapcaaDoorVaiH
import Derived.Test.YtdpkmhnpbbapcaaDoorTie
import Derived.Test.YtdpkmhnpbbapcaaDoorCards
import Derived.Test.YtdpkmhnpbbapcaaDoorVaiI
import Derived.WalkKit
import Derived.ProofKit
import Derived.Lay
import Derived.LaidOnce
import Derived.SevenTiedAt
namespace Go.Proofs.YtdpkmhnpbbapcaaDoor
open Go Go.Vai Go.RowKit Go.ChangeShapes Go.WideShapes Go.ChangeAt
set_option maxRecDepth 100000
theorem own : ownKnob Tryd.prog.godebug = none := by kernel_rfl
theorem Zsu : ((begin Tryd.prog (fun _ _ => 0) default).world.heap[0]?).bind Obj.row? = some (#[.int .i64 0], 3) := by kernel_rfl
theorem Z2a : Tryd.prog.globalNamed "strconv.ErrRange" = some 4 := by kernel_rfl
theorem Zzm : (Tryd.prog.globals[4]?).map (·.type) = some 68 := by kernel_rfl
theorem Zwt : (match Tryd.prog.underlying 68 with | some (.interface _) => true | _ => false) = true := by kernel_rfl
theorem Zdb : (Rows.lexLinesRow.laid.all fun x => x.2.handleName?.isNone) = true := by kernel_rfl
theorem laidOut : laidOutB Tryd.prog = true := by kernel_rfl
theorem Zx4 : (Tryd.f3.params.toList.all fun t => Tryd.prog.readableRec t && decide (t < Tryd.prog.types.size)) = true := by kernel_rfl
theorem Z8z : ("strconv.ErrRange", (Rows.laid_strconv_ErrRange : DataW Unit)) ∈ Rows.lexLinesRow.laid := .tail _ (.tail _ (.tail _ (.tail _ (.head _))))
theorem Z5y {W : World} (h : W.ShapedOpen Tryd.prog) (hl : laidMetH Tryd.prog Rows.lexLinesRow.laid W) : Yf gl W := by
  intro g av hm
  rcases List.mem_cons.1 hm with hm | hm
  · have e2 : g = 0 := congrArg Prod.fst hm
    have e3 : av = [.opq (some .i64)] := congrArg Prod.snd hm
    rw [e2, e3]
    exact Zvx h (by decide) Zsu rfl (Ztk.s1_3 W h)
  have e1 : (g, av) = (4, [.opq none]) := List.mem_singleton.1 hm
  have e2 : g = 4 := congrArg Prod.fst e1
  have e3 : av = [.opq none] := congrArg Prod.snd e1
  rw [e2, e3]
  have hu := Zwt
  split at hu
  case h_2 => cases hu
  rename_i ms hms
  obtain ⟨cs, e, lo, hi, a1, a2⟩ := Z2y hl Zdb Z8z Z2a Zzm hms
  exact ⟨cs, e, lo, hi, a1, a2⟩
theorem Zyi (os : Os) (started : os.Started) (H : Type) (enc : TypeId × Value → H) :
    ReturnsInHanded {} Tryd.checked os 3 .any (fun w args => (Rows.lexLinesSpec.pre enc Tryd.prog Tryd.f3 [] false w args ∧ laidMetH Tryd.prog Rows.lexLinesRow.laid w) ∧ sizedMet enc Tryd.prog Tryd.f3 (OpenSpec.ofChange Rows.lexLinesSpec) false w args)
      (Rows.lexLinesSpec.post enc Tryd.prog Tryd.f3 false true false false) := by
  refine Zfb (C := Tryd.checked) (X := fun w _ => laidMetH Tryd.prog Rows.lexLinesRow.laid w) (fun _ _ _ hh h => h.of_heap hh) own started (by kernel_rfl) Tryd.func3
    (ChangeSpec.witness_shaped (enc := enc) (C := Tryd.checked) (os := os) (X := fun w _ => laidMetH Tryd.prog Rows.lexLinesRow.laid w) false (World.laidAll Tryd.prog os Rows.lexLinesRow.laid) #[.string ⟨#[]⟩] 8 (World.laidAll_os _ _ _)
      (World.shaped_of_ZipB (by kernel_rfl) (by kernel_rfl)) (by kernel_rfl) (by kernel_rfl) (by kernel_rfl)
      (by rw [MakeChecks.laidMetH_plain _ _ _ Zdb]; exact laidMet_laidAll _ (by kernel_rfl) (by kernel_rfl))) ?_
  intro W base args ds gs before hval0 hW _ _ hL hsh _
  have hval : ∀ (j : Nat) t v, Tryd.f3.params[j]? = some t → args[j]? = some v → Value.okWide Tryd.prog W .any base t v := hval0
  have hW' := hW
  obtain ⟨p, q, hA0, hV, rfl, _, _⟩ := hW
  have hA : DataW.TrodAll enc Tryd.prog W 0 (fun _ => true) true Tryd.f3.params.toList args.toList ds p := hA0
  rw [Tryd.params3] at hA hval
  obtain ⟨v0, d0, rfl, rfl, h0⟩ := trodAll_one hA
  obtain ⟨rfl, rfl⟩ := trodVars_none hV
  obtain ⟨a, rfl, _, _, _⟩ := ChangeMaps.open_string Tryd.underlying9 (hval 0 9 v0 rfl rfl) h0
  refine (Zp7 (Z5y hsh hL) a).mono fun e W' ⟨he, hk⟩ => ?_
  subst he
  exact ⟨_, rfl, Z3s laidOut Zx4 rfl Tryd.underlying4 rfl ⟨rfl, by simp [Rows.lexLinesSpec], rfl⟩ hW' hk.below⟩
end Go.Proofs.YtdpkmhnpbbapcaaDoor
