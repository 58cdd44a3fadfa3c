/- 'foundrylaw16.RelocHalves', from any input: it answers true. -/
import Derived.Test.YtpmlihmaodpmfaaGreatDoorHalvesTrue
import Derived.Test.YtpmlihmaodpmfaaGreatDoorRelBegun
import Derived.Test.YtpmlihmaodpmfaaGreatDoorVaiI
import Derived.Test.YtpmlihmaodpmfaaGreatDoorVaiE
import Derived.Test.YtpmlihmaodpmfaaGreatDoorVaiH
import Derived.Test.YtpmlihmaodpmfaaGreatDoorTie
import Derived.Test.YtpmlihmaodpmfaaGreatDoorCards
import Derived.WalkKit
import Derived.ProofKit
import Derived.Lay
import Derived.LaidOnce
import Derived.SevenTiedAt
namespace Go.Proofs.YtpmlihmaodpmfaaGreatDoor
open Go Go.Vai Go.RowKit Go.ChangeShapes Go.WideShapes Go.ChangeAt
set_option maxRecDepth 100000
theorem rnV_bool {b : Nat} {keep : List Nat} {x : AV} {c : Bool} (h : rnV b keep x = some (.bool c)) : x = .bool c := by
  cases x <;> simp only [rnV] at h <;> (try split at h) <;> simp_all
theorem ret_of_tree {E : Env} {s : Smq AV} (hs : SmqOk E s) {pn : Pin} {n f : Nat} {args : List AV} {H : AHeap} {o : Orc} (h : callPQ E s pn n (.call f args H) o jK = some (.bool true)) : ∃ H1, run E n (.call f args H) = some (.call (.ret (.bool true) H1)) := by
  obtain ⟨x, o', e, hk⟩ := callPQ_ok E hs pn n _ _ _ _ h
  cases x with
  | code a b c => cases hk
  | dcall a => cases hk
  | call c =>
    cases c with
    | pan v H => cases hk
    | ret v H1 =>
      have hk : rnV 0 [] v = some (.bool true) := hk
      rw [rnV_bool hk] at e
      exact ⟨H1, e⟩
/-- A law that the interpreter answers true. -/
theorem law_of {E : Env} {f n : Nat} {args : List AV} {cargs : List Value} {w : World} (hE : ∀ w, GlobOk gl w → EnvOk E Tryz.prog (Kept gl w)) (hg : (gl.all fun x => Nat.blt x.1 E.ng) = true) (hf : (E.fn f).isSome = true) (hw : GlobOk gl w) (ha : VRels (mGlob E.ng 0) args cargs) (h : ∃ H1, run E n (.call f args (gHeap E.ng gl)) = some (.call (.ret (.bool true) H1))) : Calls Tryz.prog f cargs.toArray w fun e w' => e = .returned (.bool true) ∧ Keeps w w' := by
  obtain ⟨H1, h⟩ := h
  obtain ⟨_, b⟩ := body_closed hE hg hf ha h w hw
  refine Calls.mono (callsIn_wide.1 b) ?_
  rintro e w' ⟨cv, v, H, M, rfl, _, kp, hv, rfl, rfl⟩
  simp only [VRel] at hv
  exact ⟨by rw [hv], kp.2.1⟩
noncomputable def EHc : Env := EH (uOf rvDN rvDA rvDB rvDC rvDD rvDI rvDS rvDE) (uOf arDN arDA arDB arDC arDD arDI arDS arDE) (absT rvFault rvWordE arFault arBitsV rlNearV rlLow12V rlLowV rlHighV rlHighNearV rlPagesV)
theorem eh_ok (w : World) (hw : GlobOk gl w) : EnvOk EHc Tryz.prog (Kept gl w) := envOk_sm (by kernel_rfl) ((smOk_ext ext_ok).or (cont_ok1.or (rv_dec_ok.or (ar_dec_ok.or ((smOk_ret begun_ret).or (findH_ok.or abs_ok)))))) mixed_ok (fun _ _ _ h => h.1) (kept_carried hw).ext
theorem eh_fn : (EHc.fn 3).isSome = true := by kernel_rfl
theorem halves_calls {w : World} (hw : GlobOk gl w) (s p : Nat) (a : Int) : Calls Tryz.prog 3 #[.int .u64 (.ofNat s), .int .u64 (.ofNat p), .int .i64 a] w fun e w' => e = .returned (.bool true) ∧ Keeps w w' := by
  refine law_of (E := EHc) (n := 100000) (cargs := [.int .u64 (.ofNat s), .int .u64 (.ofNat p), .int .i64 a]) (args := [.int .u64 (.ofNat s), .int .u64 (.ofNat p), .int .i64 a]) eh_ok gl_ok eh_fn hw ⟨rfl, rfl, rfl, trivial⟩ ?_
  by_cases h1 : a < 1
  · refine ret_of_tree (smqP_ok EHc EHp) ((halvesLo_eq rvFault rvWordE arFault arBitsV rlNearV rlLow12V rlLowV rlHighV rlHighNearV rlPagesV rvDN rvDA rvDB rvDC rvDD rvDI rvDS rvDE arDN arDA arDB arDC arDD arDI arDS arDE s p a).trans ?_)
    have e : ilt a (.ofNat 1) = true := by rw [iltB, decide_eq_true_iff]; exact h1
    unfold halvesLo
    rw [e]; rfl
  · have e1 : ilt a (.ofNat 1) = false := by rw [iltB, decide_eq_false_iff_not]; exact h1
    by_cases h2 : 30 < a
    · refine ret_of_tree (smqP_ok EHc EHp) ((halvesHi_eq rvFault rvWordE arFault arBitsV rlNearV rlLow12V rlLowV rlHighV rlHighNearV rlPagesV rvDN rvDA rvDB rvDC rvDD rvDI rvDS rvDE arDN arDA arDB arDC arDD arDI arDS arDE s p a).trans ?_)
      have e : ilt (.ofNat 30) a = true := by rw [iltB, decide_eq_true_iff]; exact h2
      unfold halvesHi
      rw [e1, e]; rfl
    · obtain ⟨k, rfl⟩ : ∃ k : Nat, a = .ofNat k := ⟨a.toNat, by rw [natB]; omega⟩
      rw [natB] at h1 h2
      exact ret_of_tree (smqP_ok EHc EHp) ((halvesT_eq rvFault rvWordE arFault arBitsV rlNearV rlLow12V rlLowV rlHighV rlHighNearV rlPagesV rvDN rvDA rvDB rvDC rvDD rvDI rvDS rvDE arDN arDA arDB arDC arDD arDI arDS arDE s p k).trans (halves_true (by omega) (by omega)))

theorem own : ownKnob Tryz.prog.godebug = none := by kernel_rfl
theorem laidOut : laidOutB Tryz.prog = true := by kernel_rfl
theorem maxlen_row : ((begin Tryz.prog (fun _ _ => 0) default).world.heap[0]?).bind Obj.row? = some (#[.int .i64 0], 3) := by kernel_rfl
theorem glob_of {W : World} (h : W.ShapedOpen Tryz.prog) : GlobOk gl W := by
  intro g av hg
  have e1 : (g, av) = (0, [.opq (some .i64)]) := List.mem_singleton.1 hg
  have e2 : g = 0 := congrArg Prod.fst e1
  have e3 : av = [.opq (some .i64)] := congrArg Prod.snd e1
  rw [e2, e3]
  exact glob_some h (by decide) maxlen_row rfl (lays144.s1_3 W h)
theorem u64_nat {x : Int} (h : (Lit.int .u64 x).wf = true) : ∃ n : Nat, x = .ofNat n := by
  have h : (decide (IntKind.u64.min ≤ x) && decide (x ≤ IntKind.u64.max)) = true := h
  rw [Bool.and_eq_true, decide_eq_true_iff, decide_eq_true_iff] at h
  have h1 : (0 : Int) ≤ x := h.1
  exact ⟨x.toNat, by show x = (x.toNat : Int); omega⟩
theorem relocHalves_plain : (Rows.relocHalvesRow.laid.all fun x => x.2.handleName?.isNone) = true := by kernel_rfl
theorem relocHalves_params : (Tryz.f3.params.toList.all fun t => Tryz.prog.readableRec t && decide (t < Tryz.prog.types.size)) = true := by kernel_rfl
theorem relocHalves_lifted (os : Os) (started : os.Started) (H : Type) (enc : TypeId × Value → H) :
    ReturnsInHanded {} Tryz.checked os 3 .any (fun w args => (Rows.relocHalvesSpec.pre enc Tryz.prog Tryz.f3 [] false w args ∧ laidMetH Tryz.prog Rows.relocHalvesRow.laid w) ∧ sizedMet enc Tryz.prog Tryz.f3 (OpenSpec.ofChange Rows.relocHalvesSpec) false w args)
      (Rows.relocHalvesSpec.post enc Tryz.prog Tryz.f3 false true false false) := by
  refine handed_shaped_and (C := Tryz.checked) (X := fun w _ => laidMetH Tryz.prog Rows.relocHalvesRow.laid w) (fun _ _ _ hh h => h.of_heap hh) own started (by kernel_rfl) Tryz.func3
    (ChangeSpec.witness_shaped (enc := enc) (C := Tryz.checked) (os := os) (X := fun w _ => laidMetH Tryz.prog Rows.relocHalvesRow.laid w) false (World.laidAll Tryz.prog os Rows.relocHalvesRow.laid) #[.int .u64 0, .int .u64 0, .int .i64 0] 8 (World.laidAll_os _ _ _)
      (World.shaped_of_ZipB (by kernel_rfl) (by kernel_rfl)) (by kernel_rfl) (by kernel_rfl) (by kernel_rfl)
      (by rw [MakeChecks.laidMetH_plain _ _ _ relocHalves_plain]; exact laidMet_laidAll _ (by kernel_rfl) (by kernel_rfl))) ?_
  intro W base args ds gs before hval0 hW _ _ hL hsh _
  have hval : ∀ (j : Nat) t v, Tryz.f3.params[j]? = some t → args[j]? = some v → Value.okWide Tryz.prog W .any base t v := hval0
  have hW' := hW
  obtain ⟨p, q, hA0, hV, rfl, _, _⟩ := hW
  have hA : DataW.TrodAll enc Tryz.prog W 0 (fun _ => true) true Tryz.f3.params.toList args.toList ds p := hA0
  rw [Tryz.params3] at hA hval
  obtain ⟨v0, v1, v2, d0, d1, d2, p0, p1, p2, rfl, rfl, rfl, h0, h1, h2⟩ := trodAll_three hA
  obtain ⟨rfl, rfl⟩ := trodVars_none hV
  obtain ⟨a, rfl, _, _, wa⟩ := open_int Tryz.underlying22 (hval 0 22 v0 rfl rfl) h0
  obtain ⟨b, rfl, _, _, wb⟩ := open_int Tryz.underlying22 (hval 1 22 v1 rfl rfl) h1
  obtain ⟨c, rfl, _, _, _⟩ := open_int Tryz.underlying3 (hval 2 3 v2 rfl rfl) h2
  obtain ⟨s, rfl⟩ := u64_nat wa
  obtain ⟨p, rfl⟩ := u64_nat wb
  refine (halves_calls (glob_of hsh) s p c).mono fun e W' ⟨he, hk⟩ => ?_
  subst he
  exact ⟨_, rfl, law_post laidOut relocHalves_params rfl Tryz.underlying4 rfl ⟨rfl, by simp [Rows.relocHalvesSpec], rfl⟩ hW' hk.below⟩
end Go.Proofs.YtpmlihmaodpmfaaGreatDoor
