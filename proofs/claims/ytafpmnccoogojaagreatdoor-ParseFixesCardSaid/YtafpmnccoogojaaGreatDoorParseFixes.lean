/- 'foundrylaw15.ParseFixes', from any input: it answers true. -/
import Derived.Test.YtafpmnccoogojaaGreatDoorPfEnd
import Derived.Test.YtafpmnccoogojaaGreatDoorVaiE
import Derived.Test.YtafpmnccoogojaaGreatDoorVaiH
import Derived.Test.YtafpmnccoogojaaGreatDoorTie
import Derived.Test.YtafpmnccoogojaaGreatDoorCards
import Derived.Test.YtafpmnccoogojaaGreatDoorVaiI
import Derived.WalkKit
import Derived.ProofKit
import Derived.Lay
import Derived.LaidOnce
import Derived.SevenTiedAt
namespace Go.Proofs.YtafpmnccoogojaaGreatDoor
open Go Go.Vai Go.RowKit Go.ChangeShapes Go.WideShapes Go.ChangeAt
set_option maxRecDepth 100000
theorem own : ownKnob Tryz.prog.godebug = none := by kernel_rfl
theorem maxlen_row : ((begin Tryz.prog (fun _ _ => 0) default).world.heap[0]?).bind Obj.row? = some (#[.int .i64 0], 3) := by kernel_rfl
theorem rng_name : Tryz.prog.globalNamed "strconv.ErrRange" = some 4 := by kernel_rfl
theorem rng_type : (Tryz.prog.globals[4]?).map (·.type) = some 96 := by kernel_rfl
theorem err_iface : (match Tryz.prog.underlying 96 with | some (.interface _) => true | _ => false) = true := by kernel_rfl
theorem parseFixes_plain : (Rows.parseFixesRow.laid.all fun x => x.2.handleName?.isNone) = true := by kernel_rfl
theorem laidOut : laidOutB Tryz.prog = true := by kernel_rfl
theorem params_ok : (Tryz.f3.params.toList.all fun t => Tryz.prog.readableRec t && decide (t < Tryz.prog.types.size)) = true := by kernel_rfl
theorem rng_mem : ("strconv.ErrRange", (Rows.laid_strconv_ErrRange : DataW Unit)) ∈ Rows.parseFixesRow.laid := .tail _ (.tail _ (.tail _ (.tail _ (.head _))))
theorem glob_of {W : World} (h : W.ShapedOpen Tryz.prog) (hl : laidMetH Tryz.prog Rows.parseFixesRow.laid W) : GlobOk gl W := by
  intro g av hm
  rcases List.mem_cons.1 hm with hm | hm
  · have e2 : g = 0 := congrArg Prod.fst hm
    have e3 : av = [.opq (some .i64)] := congrArg Prod.snd hm
    rw [e2, e3]
    exact glob_some h (by decide) maxlen_row rfl (lays144.s1_3 W h)
  have e1 : (g, av) = (4, [.opq none]) := List.mem_singleton.1 hm
  have e2 : g = 4 := congrArg Prod.fst e1
  have e3 : av = [.opq none] := congrArg Prod.snd e1
  rw [e2, e3]
  have hu := err_iface
  split at hu
  case h_2 => cases hu
  rename_i ms hms
  obtain ⟨cs, e, lo, hi, a1, a2⟩ := laid_opq hl parseFixes_plain rng_mem rng_name rng_type hms
  exact ⟨cs, e, lo, hi, a1, a2⟩
theorem u8_natP {x : Int} (h : (Lit.int .u8 x).wf = true) : ∃ k : Nat, k < 256 ∧ x = .ofNat k := by
  have h : (decide (IntKind.u8.min ≤ x) && decide (x ≤ IntKind.u8.max)) = true := h
  rw [Bool.and_eq_true, decide_eq_true_iff, decide_eq_true_iff] at h
  have h1 : (0 : Int) ≤ x := h.1
  have h2 : x ≤ 255 := h.2
  exact ⟨x.toNat, by omega, by show x = (x.toNat : Int); omega⟩
theorem u32_natP {x : Int} (h : (Lit.int .u32 x).wf = true) : ∃ k : Nat, k < 4294967296 ∧ x = .ofNat k := by
  have h : (decide (IntKind.u32.min ≤ x) && decide (x ≤ IntKind.u32.max)) = true := h
  rw [Bool.and_eq_true, decide_eq_true_iff, decide_eq_true_iff] at h
  have h1 : (0 : Int) ≤ x := h.1
  have h2 : x ≤ 4294967295 := h.2
  exact ⟨x.toNat, by omega, by show x = (x.toNat : Int); omega⟩
theorem parseFixes_lifted (os : Os) (started : os.Started) (H : Type) (enc : TypeId × Value → H) :
    ReturnsInHanded {} Tryz.checked os 3 .any (fun w args => (Rows.parseFixesSpec.pre enc Tryz.prog Tryz.f3 [] false w args ∧ laidMetH Tryz.prog Rows.parseFixesRow.laid w) ∧ sizedMet enc Tryz.prog Tryz.f3 (OpenSpec.ofChange Rows.parseFixesSpec) false w args)
      (Rows.parseFixesSpec.post enc Tryz.prog Tryz.f3 false true false false) := by
  refine handed_shaped_and (C := Tryz.checked) (X := fun w _ => laidMetH Tryz.prog Rows.parseFixesRow.laid w) (fun _ _ _ hh h => h.of_heap hh) own started (by kernel_rfl) Tryz.func3
    (ChangeSpec.witness_shaped (enc := enc) (C := Tryz.checked) (os := os) (X := fun w _ => laidMetH Tryz.prog Rows.parseFixesRow.laid w) false (World.laidAll Tryz.prog os Rows.parseFixesRow.laid) #[.int .i64 0, .int .u32 0, .bool false, .int .u8 0] 8 (World.laidAll_os _ _ _)
      (World.shaped_of_ZipB (by kernel_rfl) (by kernel_rfl)) (by kernel_rfl) (by kernel_rfl) (by kernel_rfl)
      (by rw [MakeChecks.laidMetH_plain _ _ _ parseFixes_plain]; exact laidMet_laidAll _ (by kernel_rfl) (by kernel_rfl))) ?_
  intro W base args ds gs before hval0 hW _ _ hL hsh _
  have hval : ∀ (j : Nat) t v, Tryz.f3.params[j]? = some t → args[j]? = some v → Value.okWide Tryz.prog W .any base t v := hval0
  have hW' := hW
  obtain ⟨p, q, hA0, hV, rfl, _, _⟩ := hW
  have hA : DataW.TrodAll enc Tryz.prog W 0 (fun _ => true) true Tryz.f3.params.toList args.toList ds p := hA0
  rw [Tryz.params3] at hA hval
  obtain ⟨v0, v1, v2, v3, d0, d1, d2, d3, p0, p1, p2, p3, rfl, rfl, rfl, h0, h1, h2, h3⟩ := trodAll_four hA
  obtain ⟨rfl, rfl⟩ := trodVars_none hV
  obtain ⟨t, rfl, _, _, _⟩ := open_int Tryz.underlying3 (hval 0 3 v0 rfl rfl) h0
  obtain ⟨b, rfl, _, _, wb⟩ := open_int Tryz.underlying22 (hval 1 22 v1 rfl rfl) h1
  obtain ⟨g, rfl, _, _⟩ := open_bool Tryz.underlying4 (hval 2 4 v2 rfl rfl) h2
  obtain ⟨c, rfl, _, _, wc⟩ := open_int Tryz.underlying5 (hval 3 5 v3 rfl rfl) h3
  obtain ⟨n, hn, rfl⟩ := u32_natP wb
  obtain ⟨k, hk, rfl⟩ := u8_natP wc
  refine (law_calls (glob_of hsh hL) t hn hk g).mono fun e W' ⟨he, hk⟩ => ?_
  subst he
  exact ⟨_, rfl, law_post laidOut params_ok rfl Tryz.underlying4 rfl ⟨rfl, by simp [Rows.parseFixesSpec], rfl⟩ hW' hk.below⟩
end Go.Proofs.YtafpmnccoogojaaGreatDoor
