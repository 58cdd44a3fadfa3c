/- 'foundrylaw20.AsmJumps', from any input: it answers true. -/
import Derived.Test.YthlcgkebfodnmaaGreatDoorAsJT6
import Derived.Test.YthlcgkebfodnmaaGreatDoorAsTie
import Derived.Test.YthlcgkebfodnmaaGreatDoorCards
import Derived.ProofKit
import Derived.Lay
import Derived.LaidOnce
namespace Go.Proofs.YthlcgkebfodnmaaGreatDoor
open Go Go.Vai Go.RowKit Go.ChangeShapes Go.WideShapes Go.ChangeAt
noncomputable section
set_option maxRecDepth 100000
theorem own : ownKnob Tryz.prog.godebug = none := by kernel_rfl
theorem maxlen_row : ((begin Tryz.prog (fun _ _ => 0) default).world.heap[0]?).bind Obj.row? = some (#[.int .i64 0], 3) := by kernel_rfl
theorem rng_name : Tryz.prog.globalNamed "strconv.ErrRange" = some 7 := by kernel_rfl
theorem rng_type : (Tryz.prog.globals[7]?).map (·.type) = some 384 := by kernel_rfl
theorem err_iface : (match Tryz.prog.underlying 384 with | some (.interface _) => true | _ => false) = true := by kernel_rfl
theorem asc_cells : cellsD Tryz.prog 3 432 Rows.laid_strings_asciiSpace = some ascL := by kernel_rfl
theorem asc_name : Tryz.prog.globalNamed "strings.asciiSpace" = some 1 := by kernel_rfl
theorem asc_type : (Tryz.prog.globals[1]?).map (·.type) = some 432 := by kernel_rfl
theorem asmJumps_plain : (Rows.asmJumpsRow.laid.all fun x => x.2.handleName?.isNone) = true := by kernel_rfl
theorem laidOut : laidOutB Tryz.prog = true := by kernel_rfl
theorem params_ok : (Tryz.f4.params.toList.all fun t => Tryz.prog.readableRec t && decide (t < Tryz.prog.types.size)) = true := by kernel_rfl
theorem rng_mem : ("strconv.ErrRange", (Rows.laid_strconv_ErrRange : DataW Unit)) ∈ Rows.asmJumpsRow.laid := .tail _ (.tail _ (.tail _ (.head _)))
theorem asc_mem : ("strings.asciiSpace", (Rows.laid_strings_asciiSpace : DataW Unit)) ∈ Rows.asmJumpsRow.laid := .tail _ (.tail _ (.tail _ (.tail _ (.tail _ (.tail _ (.tail _ (.head _)))))))
theorem glob_of {W : World} (h : W.ShapedOpen Tryz.prog) (hl : laidMetH Tryz.prog Rows.asmJumpsRow.laid W) : GlobOk gl W := by
  intro g av hm
  rcases List.mem_cons.1 hm with hm | hm
  · have e2 : g = 0 := congrArg Prod.fst hm
    have e3 : av = [.opq (some .i64)] := congrArg Prod.snd hm
    rw [e2, e3]
    exact glob_some h (by decide) maxlen_row rfl (lays144.s1_3 W h)
  rcases List.mem_cons.1 hm with hm | hm
  · have e2 : g = 7 := congrArg Prod.fst hm
    have e3 : av = [.opq none] := congrArg Prod.snd hm
    rw [e2, e3]
    have hu := err_iface
    split at hu
    case h_2 => cases hu
    rename_i ms hms
    obtain ⟨cs, e, lo, hi, a1, a2⟩ := laid_opq hl asmJumps_plain rng_mem rng_name rng_type hms
    exact ⟨cs, e, lo, hi, a1, a2⟩
  have e1 : (g, av) = (1, ascL) := List.mem_singleton.1 hm
  have e2 : g = 1 := congrArg Prod.fst e1
  have e3 : av = ascL := congrArg Prod.snd e1
  rw [e2, e3]
  obtain ⟨cs, e, lo, hi, a1, a2⟩ := laid_cells hl asmJumps_plain asc_mem asc_name asc_type asc_cells
  exact ⟨cs, e, lo, hi, a1, a2⟩
theorem asmJumps_lifted (os : Os) (started : os.Started) (H : Type) (enc : TypeId × Value → H) :
    ReturnsInHanded {} Tryz.checked os 4 .any (fun w args => (Rows.asmJumpsSpec.pre enc Tryz.prog Tryz.f4 [] false w args ∧ laidMetH Tryz.prog Rows.asmJumpsRow.laid w) ∧ sizedMet enc Tryz.prog Tryz.f4 (OpenSpec.ofChange Rows.asmJumpsSpec) false w args)
      (Rows.asmJumpsSpec.post enc Tryz.prog Tryz.f4 false true false false) := by
  refine handed_shaped_and (C := Tryz.checked) (X := fun w _ => laidMetH Tryz.prog Rows.asmJumpsRow.laid w) (fun _ _ _ hh h => h.of_heap hh) own started (by kernel_rfl) Tryz.func4
    (ChangeSpec.witness_shaped (enc := enc) (C := Tryz.checked) (os := os) (X := fun w _ => laidMetH Tryz.prog Rows.asmJumpsRow.laid w) false (World.laidAll Tryz.prog os Rows.asmJumpsRow.laid) #[.int .i64 0, .int .i64 0] 8 (World.laidAll_os _ _ _)
      (World.shaped_of_ZipB (by kernel_rfl) (by kernel_rfl)) (by kernel_rfl) (by kernel_rfl) (by kernel_rfl)
      (by rw [MakeChecks.laidMetH_plain _ _ _ asmJumps_plain]; exact laidMet_laidAll _ (by kernel_rfl) (by kernel_rfl))) ?_
  intro W base args ds gs before hval0 hW _ _ hL hsh _
  have hval : ∀ (j : Nat) t v, Tryz.f4.params[j]? = some t → args[j]? = some v → Value.okWide Tryz.prog W .any base t v := hval0
  have hW' := hW
  obtain ⟨p, q, hA0, hV, rfl, _, _⟩ := hW
  have hA : DataW.TrodAll enc Tryz.prog W 0 (fun _ => true) true Tryz.f4.params.toList args.toList ds p := hA0
  rw [Tryz.params4] at hA hval
  obtain ⟨v0, v1, d0, d1, p0, p1, rfl, rfl, rfl, h0, h1⟩ := trodAll_two hA
  obtain ⟨rfl, rfl⟩ := trodVars_none hV
  obtain ⟨a, rfl, _, _, _⟩ := open_int Tryz.underlying3 (hval 0 3 v0 rfl rfl) h0
  obtain ⟨b, rfl, _, _, _⟩ := open_int Tryz.underlying3 (hval 1 3 v1 rfl rfl) h1
  refine (law_calls (glob_of hsh hL) a b).mono fun e W' ⟨he, hk⟩ => ?_
  subst he
  exact ⟨_, rfl, law_post laidOut params_ok rfl Tryz.underlying4 rfl ⟨rfl, by simp [Rows.asmJumpsSpec], rfl⟩ hW' hk.below⟩
end
end Go.Proofs.YthlcgkebfodnmaaGreatDoor
