/- 'foundrylaw14.LexBlanks', from any input: it answers true. -/
import Derived.Test.YtdpkmhnpbbapcaaDoorLxBlank
import Derived.Test.YtdpkmhnpbbapcaaDoorVaiE
import Derived.Test.YtdpkmhnpbbapcaaDoorVaiH
import Derived.Test.YtdpkmhnpbbapcaaDoorTie
import Derived.Test.YtdpkmhnpbbapcaaDoorCards
import Derived.WalkKit
import Derived.ProofKit
import Derived.Lay
import Derived.LaidOnce
import Derived.SevenTiedAt
namespace Go.Proofs.YtdpkmhnpbbapcaaDoor
open Go Go.Vai Go.RowKit Go.ChangeShapes Go.WideShapes Go.ChangeAt
set_option maxRecDepth 100000
theorem own : ownKnob Tryd.prog.godebug = none := by kernel_rfl
theorem err_name : Tryd.prog.globalNamed "strconv.ErrRange" = some 4 := by kernel_rfl
theorem err_type : (Tryd.prog.globals[4]?).map (·.type) = some 68 := by kernel_rfl
theorem err_iface : (match Tryd.prog.underlying 68 with | some (.interface _) => true | _ => false) = true := by kernel_rfl
theorem lexBlanks_plain : (Rows.lexBlanksRow.laid.all fun x => x.2.handleName?.isNone) = true := by kernel_rfl
theorem laidOut : laidOutB Tryd.prog = true := by kernel_rfl
theorem params_ok : (Tryd.f4.params.toList.all fun t => Tryd.prog.readableRec t && decide (t < Tryd.prog.types.size)) = true := by kernel_rfl
theorem err_mem : ("strconv.ErrRange", (Rows.laid_strconv_ErrRange : DataW Unit)) ∈ Rows.lexBlanksRow.laid := (.tail _ (.tail _ (.tail _ (.tail _ (.head _)))))
theorem glob_of {W : World} (h : laidMetH Tryd.prog Rows.lexBlanksRow.laid W) : GlobOk gl W := by
  intro g av hm
  have hm := List.mem_singleton.1 hm
  have e2 : g = 4 := congrArg Prod.fst hm
  have e3 : av = [.opq none] := congrArg Prod.snd hm
  rw [e2, e3]
  have hu := err_iface
  split at hu
  case h_2 => cases hu
  rename_i ms hms
  obtain ⟨cs, e, lo, hi, a1, a2⟩ := laid_opq h lexBlanks_plain err_mem err_name err_type hms
  exact ⟨cs, e, lo, hi, a1, a2⟩
theorem lexBlanks_lifted (os : Os) (started : os.Started) (H : Type) (enc : TypeId × Value → H) :
    ReturnsInHanded {} Tryd.checked os 4 .any (fun w args => (Rows.lexBlanksSpec.pre enc Tryd.prog Tryd.f4 [] false w args ∧ laidMetH Tryd.prog Rows.lexBlanksRow.laid w) ∧ sizedMet enc Tryd.prog Tryd.f4 (OpenSpec.ofChange Rows.lexBlanksSpec) false w args)
      (Rows.lexBlanksSpec.post enc Tryd.prog Tryd.f4 false true false false) := by
  refine returnsInHanded_of_change_and (C := Tryd.checked) (X := fun w _ => laidMetH Tryd.prog Rows.lexBlanksRow.laid w) (fun _ _ _ hh h => h.of_heap hh) own started (by kernel_rfl) Tryd.func4
    (ChangeSpec.witness_shaped (enc := enc) (C := Tryd.checked) (os := os) (X := fun w _ => laidMetH Tryd.prog Rows.lexBlanksRow.laid w) false (World.laidAll Tryd.prog os Rows.lexBlanksRow.laid) #[.string ⟨#[]⟩, .string ⟨#[]⟩] 8 (World.laidAll_os _ _ _)
      (World.shaped_of_ZipB (by kernel_rfl) (by kernel_rfl)) (by kernel_rfl) (by kernel_rfl) (by kernel_rfl)
      (by rw [MakeChecks.laidMetH_plain _ _ _ lexBlanks_plain]; exact laidMet_laidAll _ (by kernel_rfl) (by kernel_rfl))) ?_
  intro W base args ds gs before hval0 hW _ _ hL _
  have hval : ∀ (j : Nat) t v, Tryd.f4.params[j]? = some t → args[j]? = some v → Value.okWide Tryd.prog W .any base t v := hval0
  have hW' := hW
  obtain ⟨p, q, hA0, hV, rfl, _, _⟩ := hW
  have hA : DataW.TrodAll enc Tryd.prog W 0 (fun _ => true) true Tryd.f4.params.toList args.toList ds p := hA0
  rw [Tryd.params4] at hA hval
  obtain ⟨v0, v1, d0, d1, p0, p1, rfl, rfl, rfl, h0, h1⟩ := trodAll_two hA
  obtain ⟨rfl, rfl⟩ := trodVars_none hV
  obtain ⟨a, rfl, _, _, _⟩ := ChangeMaps.open_string Tryd.underlying9 (hval 0 9 v0 rfl rfl) h0
  obtain ⟨b, rfl, _, _, _⟩ := ChangeMaps.open_string Tryd.underlying9 (hval 1 9 v1 rfl rfl) h1
  refine (blank_calls (glob_of hL) a b).mono fun e W' ⟨he, hk⟩ => ?_
  subst he
  exact ⟨_, rfl, law_post laidOut params_ok rfl Tryd.underlying4 rfl ⟨rfl, by simp [Rows.lexBlanksSpec], rfl⟩ hW' hk.below⟩
end Go.Proofs.YtdpkmhnpbbapcaaDoor
