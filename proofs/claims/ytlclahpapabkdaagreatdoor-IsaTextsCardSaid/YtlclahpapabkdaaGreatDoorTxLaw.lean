/- 'foundrylaw13.IsaTexts', from any input: it answers true. -/
import Derived.Test.YtlclahpapabkdaaGreatDoorTxInj
import Derived.Test.YtlclahpapabkdaaGreatDoorTxBegun
import Derived.Test.YtlclahpapabkdaaGreatDoorVaiI
import Derived.Test.YtlclahpapabkdaaGreatDoorVaiE
import Derived.Test.YtlclahpapabkdaaGreatDoorVaiH
import Derived.Test.YtlclahpapabkdaaGreatDoorTie
import Derived.Test.YtlclahpapabkdaaGreatDoorCards
import Derived.WalkKit
import Derived.ProofKit
import Derived.Lay
import Derived.LaidOnce
import Derived.SevenTiedAt
namespace Go.Proofs.YtlclahpapabkdaaGreatDoor
open Go Go.Vai Go.RowKit Go.ChangeShapes Go.WideShapes Go.ChangeAt
set_option maxRecDepth 100000
noncomputable section
theorem rnV_bool {b : Nat} {keep : List Nat} {x : AV} {c : Bool} (h : rnV b keep x = some (.bool c)) : x = .bool c := by
  cases x <;> simp only [rnV] at h <;> (try split at h) <;> simp_all
theorem ret_of_tree {E : Env} {s : Smk AV} (hs : SmkOk E s) {pn : Pin} {n f : Nat} {args : List AV} {H : AHeap} {o : Orc} (h : callPS E s pn n (.call f args H) o jK = some (.bool true)) : ∃ H1, run E n (.call f args H) = some (.call (.ret (.bool true) H1)) := by
  obtain ⟨x, o', e, hk⟩ := callPS_ok E hs pn n _ _ _ _ h
  cases x with
  | code a b c => cases hk
  | dcall a => cases hk
  | call c =>
    cases c with
    | pan v H => cases hk
    | ret v H1 =>
      have hk : rnV 0 [] v = some (.bool true) := hk
      rw [rnV_bool hk] at e
      exact ⟨H1, e⟩
theorem law_of {E : Env} {f n : Nat} {args : List AV} {cargs : List Value} {w : World} (hE : ∀ w, GlobOk gl w → EnvOk E Tryz.prog (Kept gl w)) (hg : (gl.all fun x => Nat.blt x.1 E.ng) = true) (hf : (E.fn f).isSome = true) (hw : GlobOk gl w) (ha : VRels (mGlob E.ng 0) args cargs) (h : ∃ H1, run E n (.call f args (gHeap E.ng gl)) = some (.call (.ret (.bool true) H1))) : Calls Tryz.prog f cargs.toArray w fun e w' => e = .returned (.bool true) ∧ Keeps w w' := by
  obtain ⟨H1, h⟩ := h
  obtain ⟨_, b⟩ := body_closed hE hg hf ha h w hw
  refine Calls.mono (callsIn_wide.1 b) ?_
  rintro e w' ⟨cv, v, H, M, rfl, _, kp, hv, rfl, rfl⟩
  simp only [VRel] at hv
  exact ⟨by rw [hv], kp.2.1⟩
def E5 (ev : EvT) (tv : TvT) : Env := envOf Tryz.prog 12 [156, 4, 5] (orSm (extSm kinds) (orSm (contSm 156) (orSm (retSm 4 true) (plainSm (textFv ev tv)))))
def textK {α : Type} (ev : EvT) (tv : TvT) (args : List AV) (H : AHeap) (k : AV → AHeap → Option α) : Option α := match args with
  | [.int .i64 t, .agg [.str nm, .int .i64 A, .int .i64 B, .int .i64 C, .int .i64 D, .int .i64 I]] => bc (rng A B C D I) (k (.tup [.str (tv t nm A B C D I), .int .i64 (ev t nm A B C D I)]) H) none
  | _ => none
def SK5 {α : Type} (ev : EvT) (tv : TvT) : Smk α := fun f args H k => bif Nat.beq f 5 then textK ev tv args H k else smC (E5 ev tv) f args H k
theorem e5_pre (ev : EvT) (tv : TvT) (args : List AV) (H : AHeap) : (E5 ev tv).sm 5 args H = plainSm (textFv ev tv) 5 args H := by
  show orSm (extSm kinds) (orSm (contSm 156) (orSm (retSm 4 true) (plainSm (textFv ev tv)))) 5 args H = _
  rw [or_none (by rfl), or_none (by unfold contSm; split <;> rfl), or_none (by unfold retSm; (try split) <;> first | rfl | simp)]
theorem sk5_ok {α : Type} (ev : EvT) (tv : TvT) : SmkOk (α := α) (E5 ev tv) (SK5 ev tv) := by
  intro f args H k r h
  unfold SK5 at h
  simp only [Bool.cond_eq_ite, Nat.beq_eq] at h
  split at h
  · rename_i e
    subst e
    unfold textK at h
    split at h
    case h_2 => cases h
    rename_i t nm A B C D I
    obtain ⟨h1, h2⟩ := bc_none h
    refine ⟨_, _, ?_, h2⟩
    rw [e5_pre]
    unfold plainSm textFv
    simp only [Nat.beq_refl, cond_true, h1]
  exact smC_ok _ _ _ _ _ _ h
def lawT (ev : EvT) (tv : TvT) (t : Int) (nm nm' : List UInt8) (A B C D I A' B' C' D' I' : Int) : Option AV := bc (rng A B C D I) (bc (rng A' B' C' D' I') (bc (!(ieq (ev t nm A B C D I) (.ofNat 0))) (some (.bool true)) (bc (!(ieq (ev t nm' A' B' C' D' I') (.ofNat 0))) (some (.bool true)) (some (.bool (((leq (tv t nm A B C D I) (tv t nm' A' B' C' D' I')) == ((leq nm nm') && ((ieq A A') && ((ieq B B') && ((ieq C C') && ((ieq D D') && ((ieq I I') && true)))))))))))) none) none
theorem lawT_run (ev : EvT) (tv : TvT) (t : Int) (nm nm' : List UInt8) (A B C D I A' B' C' D' I' : Int) : callPS (E5 ev tv) (SK5 ev tv) noPin 100000 (.call 3 [.int .i64 t, insV nm A B C D I, insV nm' A' B' C' D' I'] (gHeap 12 gl)) [] jK = lawT ev tv t nm nm' A B C D I A' B' C' D' I' := by kernel_rfl
theorem e5_ok (w : World) (hw : GlobOk gl w) : EnvOk (E5 encE tvE) Tryz.prog (Kept gl w) := envOk_sm (by kernel_rfl) ((smOk_ext ext_ok).or (cont_ok1.or ((smOk_ret begun_ret).or textF_ok))) mixed_ok (fun _ _ _ h => h.1) (kept_carried hw).ext
theorem e5_fn : ((E5 encE tvE).fn 3).isSome = true := by kernel_rfl
theorem law_run (t : Int) (nm nm' : List UInt8) {A B C D I A' B' C' D' I' : Int} (h : rng A B C D I = true) (h' : rng A' B' C' D' I' = true) : ∃ H1, run (E5 encE tvE) 100000 (.call 3 [.int .i64 t, insV nm A B C D I, insV nm' A' B' C' D' I'] (gHeap 12 gl)) = some (.call (.ret (.bool true) H1)) := by
  refine ret_of_tree (sk5_ok encE tvE) (pn := noPin) (o := []) ((lawT_run ..).trans ?_)
  unfold lawT
  rw [h, h', bc_true, bc_true]
  cases e1 : ieq (encE t nm A B C D I) (.ofNat 0) with
  | false => rfl
  | true =>
    cases e2 : ieq (encE t nm' A' B' C' D' I') (.ofNat 0) with
    | false => rfl
    | true =>
      rw [texts_true (ieq_t e1) (ieq_t e2)]; rfl
theorem law_calls {w : World} (hw : GlobOk gl w) (t : Int) (nm nm' : List UInt8) {A B C D I A' B' C' D' I' : Int} (h : rng A B C D I = true) (h' : rng A' B' C' D' I' = true) {v1 v2 : Value} (h1 : VRel (mGlob 12 0) (insV nm A B C D I) v1) (h2 : VRel (mGlob 12 0) (insV nm' A' B' C' D' I') v2) : Calls Tryz.prog 3 #[.int .i64 t, v1, v2] w fun e w' => e = .returned (.bool true) ∧ Keeps w w' :=
  law_of (E := E5 encE tvE) (n := 100000) (cargs := [.int .i64 t, v1, v2]) (args := [.int .i64 t, insV nm A B C D I, insV nm' A' B' C' D' I']) e5_ok gl_ok e5_fn hw ⟨rfl, h1, h2, trivial⟩ (law_run t nm nm' h h')
theorem own : ownKnob Tryz.prog.godebug = none := by kernel_rfl
theorem laidOut : laidOutB Tryz.prog = true := by kernel_rfl
theorem maxlen_row : ((begin Tryz.prog (fun _ _ => 0) default).world.heap[1]?).bind Obj.row? = some (#[.int .i64 0], 3) := by kernel_rfl
theorem isaTexts_plain : (Rows.isaTextsRow.laid.all fun x => x.2.handleName?.isNone) = true := by kernel_rfl
theorem asc_cells : cellsD Tryz.prog 3 227 Rows.laid_strings_asciiSpace = some ascL := by kernel_rfl
theorem asc_name : Tryz.prog.globalNamed "strings.asciiSpace" = some 4 := by kernel_rfl
theorem asc_type : (Tryz.prog.globals[4]?).map (·.type) = some 227 := by kernel_rfl
theorem pow_cells : cellsD Tryz.prog 3 112 Rows.laid_internal_strconv_uint64pow10 = some pow10 := by kernel_rfl
theorem pow_name : Tryz.prog.globalNamed "internal/strconv.uint64pow10" = some 0 := by kernel_rfl
theorem pow_type : (Tryz.prog.globals[0]?).map (·.type) = some 112 := by kernel_rfl
theorem err_name : Tryz.prog.globalNamed "strconv.ErrSyntax" = some 7 := by kernel_rfl
theorem err_type : (Tryz.prog.globals[7]?).map (·.type) = some 65 := by kernel_rfl
theorem rng_name : Tryz.prog.globalNamed "strconv.ErrRange" = some 8 := by kernel_rfl
theorem rng_type : (Tryz.prog.globals[8]?).map (·.type) = some 65 := by kernel_rfl
theorem err_iface : Tryz.prog.underlying 65 = some (.interface #[("Error", 68)]) := by kernel_rfl
theorem pow_mem : ("internal/strconv.uint64pow10", (Rows.laid_internal_strconv_uint64pow10 : DataW Unit)) ∈ Rows.isaTextsRow.laid := (.tail _ (.tail _ (.head _)))
theorem rng_mem : ("strconv.ErrRange", (Rows.laid_strconv_ErrRange : DataW Unit)) ∈ Rows.isaTextsRow.laid := (.tail _ (.tail _ (.tail _ (.tail _ (.head _)))))
theorem err_mem : ("strconv.ErrSyntax", (Rows.laid_strconv_ErrSyntax : DataW Unit)) ∈ Rows.isaTextsRow.laid := (.tail _ (.tail _ (.tail _ (.tail _ (.tail _ (.head _))))))
theorem asc_mem : ("strings.asciiSpace", (Rows.laid_strings_asciiSpace : DataW Unit)) ∈ Rows.isaTextsRow.laid := (.tail _ (.tail _ (.tail _ (.tail _ (.tail _ (.tail _ (.tail _ (.head _))))))))
theorem glob_of {W : World} (h : W.ShapedOpen Tryz.prog) (hl : laidMetH Tryz.prog Rows.isaTextsRow.laid W) : GlobOk gl W := by
  intro g av hm
  rcases List.mem_cons.1 hm with hm | hm
  · have e2 : g = 0 := congrArg Prod.fst hm
    have e3 : av = pow10 := congrArg Prod.snd hm
    rw [e2, e3]
    obtain ⟨cs, e, lo, hi, a1, a2⟩ := laid_cells hl isaTexts_plain pow_mem pow_name pow_type pow_cells
    exact ⟨cs, e, lo, hi, a1, a2⟩
  rcases List.mem_cons.1 hm with hm | hm
  · have e2 : g = 1 := congrArg Prod.fst hm
    have e3 : av = [.opq (some .i64)] := congrArg Prod.snd hm
    rw [e2, e3]
    exact glob_some h (by decide) maxlen_row rfl (lays144.s1_3 W h)
  rcases List.mem_cons.1 hm with hm | hm
  · have e2 : g = 4 := congrArg Prod.fst hm
    have e3 : av = ascL := congrArg Prod.snd hm
    rw [e2, e3]
    obtain ⟨cs, e, lo, hi, a1, a2⟩ := laid_cells hl isaTexts_plain asc_mem asc_name asc_type asc_cells
    exact ⟨cs, e, lo, hi, a1, a2⟩
  rcases List.mem_cons.1 hm with hm | hm
  · have e2 : g = 7 := congrArg Prod.fst hm
    have e3 : av = [.opq none] := congrArg Prod.snd hm
    rw [e2, e3]
    obtain ⟨cs, e, lo, hi, a1, a2⟩ := laid_opq hl isaTexts_plain err_mem err_name err_type err_iface
    exact ⟨cs, e, lo, hi, a1, a2⟩
  have e1 : (g, av) = (8, [.opq none]) := List.mem_singleton.1 hm
  have e2 : g = 8 := congrArg Prod.fst e1
  have e3 : av = [.opq none] := congrArg Prod.snd e1
  rw [e2, e3]
  obtain ⟨cs, e, lo, hi, a1, a2⟩ := laid_opq hl isaTexts_plain rng_mem rng_name rng_type err_iface
  exact ⟨cs, e, lo, hi, a1, a2⟩
theorem i64_of {x : Int} (h : (Lit.int .i64 x).wf = true) : i64In x = true := by
  have h : (decide (IntKind.i64.min ≤ x) && decide (x ≤ IntKind.i64.max)) = true := h
  rw [Bool.and_eq_true, decide_eq_true_iff, decide_eq_true_iff] at h
  have h1 : (-9223372036854775808 : Int) ≤ x := h.1
  have h2 : x ≤ (9223372036854775807 : Int) := h.2
  unfold i64In
  simp only [ilt_iff, Bool.and_eq_true, Bool.not_eq_true', decide_eq_false_iff_not, Int.negSucc_eq, Int.ofNat_eq_natCast]
  omega
theorem ins_flat : flatT Tryz.prog 3 23 = some [.str, .int .i64, .int .i64, .int .i64, .int .i64, .int .i64] := by kernel_rfl
theorem ins_of {avs : List AV} (hs : Shapes [.str, .int .i64, .int .i64, .int .i64, .int .i64, .int .i64] avs) {v : Value} (h1 : VRels [] avs v.cells.toList) (hagg : ∃ cs, v = .agg cs) : ∃ nm A B C D I, rng A B C D I = true ∧ VRel (mGlob 12 0) (insV nm A B C D I) v := by
  obtain ⟨cs, rfl⟩ := hagg
  obtain ⟨b0, r0, f0, g0, hs⟩ := hs.cons_inv
  obtain ⟨b1, r1, f1, g1, hs⟩ := hs.cons_inv
  obtain ⟨b2, r2, f2, g2, hs⟩ := hs.cons_inv
  obtain ⟨b3, r3, f3, g3, hs⟩ := hs.cons_inv
  obtain ⟨b4, r4, f4, g4, hs⟩ := hs.cons_inv
  obtain ⟨b5, r5, f5, g5, hs⟩ := hs.cons_inv
  have f6 := hs.nil_inv
  obtain ⟨s, e0⟩ := CK.str_inv g0
  obtain ⟨x1, e1, w1⟩ := g1
  obtain ⟨x2, e2, w2⟩ := g2
  obtain ⟨x3, e3, w3⟩ := g3
  obtain ⟨x4, e4, w4⟩ := g4
  obtain ⟨x5, e5, w5⟩ := g5
  subst e0; subst e1; subst e2; subst e3; subst e4; subst e5; subst f6; subst f5; subst f4; subst f3; subst f2; subst f1; subst f0
  refine ⟨s, x1, x2, x3, x4, x5, ?_, cs.toList, by simp, VRels.mono List.nil_prefix h1⟩
  unfold rng
  rw [i64_of w1, i64_of w2, i64_of w3, i64_of w4, i64_of w5]; rfl
theorem isaTexts_params : (Tryz.f3.params.toList.all fun t => Tryz.prog.readableRec t && decide (t < Tryz.prog.types.size)) = true := by kernel_rfl
theorem agg_of {w : World} {base : Nat} {v : Value} (h : Value.okWide Tryz.prog w .any base 23 v) : ∃ cs, v = .agg cs := by
  simp only [Value.okWide, Tryz.underlying23] at h
  obtain ⟨cs, rfl, _⟩ := h
  exact ⟨cs, rfl⟩
theorem isaTexts_lifted (os : Os) (started : os.Started) (H : Type) (enc : TypeId × Value → H) :
    ReturnsInHanded {} Tryz.checked os 3 .any (fun w args => (Rows.isaTextsSpec.pre enc Tryz.prog Tryz.f3 [] false w args ∧ laidMetH Tryz.prog Rows.isaTextsRow.laid w) ∧ sizedMet enc Tryz.prog Tryz.f3 (OpenSpec.ofChange Rows.isaTextsSpec) false w args)
      (Rows.isaTextsSpec.post enc Tryz.prog Tryz.f3 false true false false) := by
  refine handed_shaped_and (C := Tryz.checked) (X := fun w _ => laidMetH Tryz.prog Rows.isaTextsRow.laid w) (fun _ _ _ hh h => h.of_heap hh) own started (by kernel_rfl) Tryz.func3
    (ChangeSpec.witness_shaped (enc := enc) (C := Tryz.checked) (os := os) (X := fun w _ => laidMetH Tryz.prog Rows.isaTextsRow.laid w) false (World.laidAll Tryz.prog os Rows.isaTextsRow.laid) #[.int .i64 0, .agg #[.string ⟨#[]⟩, .int .i64 0, .int .i64 0, .int .i64 0, .int .i64 0, .int .i64 0], .agg #[.string ⟨#[]⟩, .int .i64 0, .int .i64 0, .int .i64 0, .int .i64 0, .int .i64 0]] 8 (World.laidAll_os _ _ _)
      (World.shaped_of_ZipB (by kernel_rfl) (by kernel_rfl)) (by kernel_rfl) (by kernel_rfl) (by kernel_rfl)
      (by rw [MakeChecks.laidMetH_plain _ _ _ isaTexts_plain]; exact laidMet_laidAll _ (by kernel_rfl) (by kernel_rfl))) ?_
  intro W base args ds gs before hval0 hW _ _ hL hsh _
  have hval : ∀ (j : Nat) t v, Tryz.f3.params[j]? = some t → args[j]? = some v → Value.okWide Tryz.prog W .any base t v := hval0
  have hW' := hW
  obtain ⟨p, q, hA0, hV, rfl, _, _⟩ := hW
  have hA : DataW.TrodAll enc Tryz.prog W 0 (fun _ => true) true Tryz.f3.params.toList args.toList ds p := hA0
  rw [Tryz.params3] at hA hval
  obtain ⟨v0, v1, v2, d0, d1, d2, p0, p1, p2, rfl, rfl, rfl, h0, h1, h2⟩ := trodAll_three hA
  obtain ⟨rfl, rfl⟩ := trodVars_none hV
  obtain ⟨t, rfl, _, _, _⟩ := open_int Tryz.underlying3 (hval 0 3 v0 rfl rfl) h0
  obtain ⟨avs, s1, s2⟩ := open_flat ins_flat h1
  obtain ⟨avs', s1', s2'⟩ := open_flat ins_flat h2
  obtain ⟨nm, A, B, C, D, I, r1, q1⟩ := ins_of s1 s2 (agg_of (hval 1 23 v1 rfl rfl))
  obtain ⟨nm', A', B', C', D', I', r2, q2⟩ := ins_of s1' s2' (agg_of (hval 2 23 v2 rfl rfl))
  refine (law_calls (glob_of hsh hL) t nm nm' r1 r2 q1 q2).mono fun e W' ⟨he, hk⟩ => ?_
  subst he
  exact ⟨_, rfl, law_post laidOut isaTexts_params rfl Tryz.underlying4 rfl ⟨rfl, by simp [Rows.isaTextsSpec], rfl⟩ hW' hk.below⟩
end
end Go.Proofs.YtlclahpapabkdaaGreatDoor
