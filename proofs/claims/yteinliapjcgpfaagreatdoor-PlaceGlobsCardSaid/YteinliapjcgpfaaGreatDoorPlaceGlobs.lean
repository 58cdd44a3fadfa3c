/- 'foundrylaw23.PlaceGlobs', from any input: it answers true. -/
import Derived.Test.YteinliapjcgpfaaGreatDoorPlaceTrees
import Derived.Test.YteinliapjcgpfaaGreatDoorPlaceBegun
import Derived.Test.YteinliapjcgpfaaGreatDoorVaiLaid
import Derived.Test.YteinliapjcgpfaaGreatDoorVaiStart
import Derived.Test.YteinliapjcgpfaaGreatDoorVaiArgs
import Derived.Test.YteinliapjcgpfaaGreatDoorTie
import Derived.Test.YteinliapjcgpfaaGreatDoorCards
import Derived.WalkKit
import Derived.ProofKit
import Derived.Lay
import Derived.LaidOnce
import Derived.SevenTiedAt
namespace Go.Proofs.YteinliapjcgpfaaGreatDoor
open Go Go.Vai Go.RowKit Go.ChangeShapes Go.WideShapes Go.ChangeAt
set_option maxRecDepth 100000
theorem tree1_true {n m q : Nat} (hn : n < 256) (hm : m < 256) (hq : q < 256) : tree1 n m q = some (.bool true) := by
  unfold tree1
  simp (disch := omega) only [wrap_i64, wrap_u64, toNat_nat', add_nat, ilt_nat, ieq_nat, blt_no, beq_yes, roomy_yes, bc_true, bc_false, cond_false, Bool.not_true, Bool.not_false, Bool.and_true, Nat.zero_add]
theorem tree0_true {n m q : Nat} (hn : n < 256) (hm : m < 256) (hq : q < 256) : tree0 n m q = some (.bool true) := by
  unfold tree0
  simp (disch := omega) only [wrap_i64, wrap_u64, toNat_nat', add_nat, ilt_nat, ieq_nat, blt_no, beq_yes, roomy_yes, bc_true, bc_false, cond_false, Bool.not_true, Bool.not_false, Bool.and_true, Nat.zero_add]
theorem rnV_bool {b : Nat} {keep : List Nat} {x : AV} {c : Bool} (h : rnV b keep x = some (.bool c)) : x = .bool c := by
  cases x <;> simp only [rnV] at h <;> (try split at h) <;> simp_all

theorem isB_of {E : Env} {n f : Nat} {args : List AV} {H : AHeap} {o : Orc} (h : callP E n (.call f args H) o jK = some (.bool true)) : TRes.isB true (run E n (.call f args H)) = true := by
  obtain ⟨x, o', e, hk⟩ := callP_ok E n _ _ _ _ h
  rw [e]
  cases x with
  | code a b c => cases hk
  | dcall a => cases hk
  | call c =>
    cases c with
    | pan v H => cases hk
    | ret v H =>
      have hk : rnV 0 [] v = some (.bool true) := hk
      rw [rnV_bool hk]; rfl
theorem law_run {n m q : Nat} (hn : n < 256) (hm : m < 256) (hq : q < 256) (b : Bool) : TRes.isB true (run E3 100000 (.call 3 (vG n m q b) (gHeap 6 gl))) = true := by
  cases b with
  | true => exact isB_of ((tree1_eq n m q).trans (tree1_true hn hm hq))
  | false => exact isB_of ((tree0_eq n m q).trans (tree0_true hn hm hq))
theorem names_ok3 : namesOk [5] Tryz.prog.funcs.toList 0 = true := by kernel_rfl
theorem has3 : (E3.fn 3).isSome = true := by kernel_rfl
theorem globs_calls {w : World} (hw : GlobOk gl w) {n m q : Nat} (hn : n < 256) (hm : m < 256) (hq : q < 256) (b : Bool) : Calls Tryz.prog 3 #[.int .u8 (.ofNat n), .int .u8 (.ofNat m), .int .u8 (.ofNat q), .bool b] w fun e w' => e = .returned (.bool true) ∧ Keeps w w' :=
  (law_call names_ok3 ext_ok (rets_one begun_ret) mixed_ok gl_ok hw [] (args := vG n m q b) (cargs := [.int .u8 (.ofNat n), .int .u8 (.ofNat m), .int .u8 (.ofNat q), .bool b]) ⟨rfl, rfl, rfl, rfl, trivial⟩ has3 (law_run hn hm hq b)).2

theorem own : ownKnob Tryz.prog.godebug = none := by kernel_rfl
theorem pow_cells : cellsD Tryz.prog 3 271 Rows.laid_internal_strconv_uint64pow10 = some pow10 := by kernel_rfl
theorem pow_name : Tryz.prog.globalNamed "internal/strconv.uint64pow10" = some 3 := by kernel_rfl
theorem pow_type : (Tryz.prog.globals[3]?).map (·.type) = some 271 := by kernel_rfl
theorem laidOut : laidOutB Tryz.prog = true := by kernel_rfl
theorem glob_of {W : World} {laid : List (String × DataW Unit)} (hp : (laid.all fun x => x.2.handleName?.isNone) = true) (hm : ("internal/strconv.uint64pow10", (Rows.laid_internal_strconv_uint64pow10 : DataW Unit)) ∈ laid) (h : laidMetH Tryz.prog laid W) : GlobOk gl W := by
  intro g av hg
  have e1 : (g, av) = (3, pow10) := List.mem_singleton.1 hg
  have e2 : g = 3 := congrArg Prod.fst e1
  have e3 : av = pow10 := congrArg Prod.snd e1
  rw [e2, e3]
  obtain ⟨cs, e, lo, hi, a1, a2⟩ := laid_cells h hp hm pow_name pow_type pow_cells
  exact ⟨cs, e, lo, hi, a1, a2⟩
theorem placeGlobs_plain : (Rows.placeGlobsRow.laid.all fun x => x.2.handleName?.isNone) = true := by kernel_rfl
theorem placeGlobs_mem : ("internal/strconv.uint64pow10", (Rows.laid_internal_strconv_uint64pow10 : DataW Unit)) ∈ Rows.placeGlobsRow.laid := .tail _ (.tail _ (.head _))
theorem placeGlobs_params : (Tryz.f3.params.toList.all fun t => Tryz.prog.readableRec t && decide (t < Tryz.prog.types.size)) = true := by kernel_rfl
theorem u8_nat {x : Int} (h : (Lit.int .u8 x).wf = true) : ∃ n : Nat, n < 256 ∧ x = .ofNat n := by
  have h : (decide (IntKind.u8.min ≤ x) && decide (x ≤ IntKind.u8.max)) = true := h
  rw [Bool.and_eq_true, decide_eq_true_iff, decide_eq_true_iff] at h
  have h1 : (0 : Int) ≤ x := h.1
  have h2 : x ≤ 255 := h.2
  exact ⟨x.toNat, by omega, by show x = (x.toNat : Int); omega⟩
theorem placeGlobs_lifted (os : Os) (started : os.Started) (H : Type) (enc : TypeId × Value → H) :
    ReturnsInHanded {} Tryz.checked os 3 .any (fun w args => (Rows.placeGlobsSpec.pre enc Tryz.prog Tryz.f3 [] false w args ∧ laidMetH Tryz.prog Rows.placeGlobsRow.laid w) ∧ sizedMet enc Tryz.prog Tryz.f3 (OpenSpec.ofChange Rows.placeGlobsSpec) false w args)
      (Rows.placeGlobsSpec.post enc Tryz.prog Tryz.f3 false true false false) := by
  refine returnsInHanded_of_change_and (C := Tryz.checked) (X := fun w _ => laidMetH Tryz.prog Rows.placeGlobsRow.laid w) (fun _ _ _ hh h => h.of_heap hh) own started (by kernel_rfl) Tryz.func3
    (ChangeSpec.witness_shaped (enc := enc) (C := Tryz.checked) (os := os) (X := fun w _ => laidMetH Tryz.prog Rows.placeGlobsRow.laid w) false (World.laidAll Tryz.prog os Rows.placeGlobsRow.laid) #[.int .u8 0, .int .u8 0, .int .u8 0, .bool false] 8 (World.laidAll_os _ _ _)
      (World.shaped_of_ZipB (by kernel_rfl) (by kernel_rfl)) (by kernel_rfl) (by kernel_rfl) (by kernel_rfl)
      (by rw [MakeChecks.laidMetH_plain _ _ _ placeGlobs_plain]; exact laidMet_laidAll _ (by kernel_rfl) (by kernel_rfl))) ?_
  intro W base args ds gs before hval0 hW _ _ hL _
  have hval : ∀ (j : Nat) t v, Tryz.f3.params[j]? = some t → args[j]? = some v → Value.okWide Tryz.prog W .any base t v := hval0
  have hW' := hW
  obtain ⟨p, q, hA0, hV, rfl, _, _⟩ := hW
  have hA : DataW.TrodAll enc Tryz.prog W 0 (fun _ => true) true Tryz.f3.params.toList args.toList ds p := hA0
  rw [Tryz.params3] at hA hval
  obtain ⟨v0, v1, v2, v3, d0, d1, d2, d3, p0, p1, p2, p3, rfl, rfl, rfl, h0, h1, h2, h3⟩ := trodAll_four hA
  obtain ⟨rfl, rfl⟩ := trodVars_none hV
  obtain ⟨a, rfl, _, _, wa⟩ := open_int Tryz.underlying5 (hval 0 5 v0 rfl rfl) h0
  obtain ⟨b, rfl, _, _, wb⟩ := open_int Tryz.underlying5 (hval 1 5 v1 rfl rfl) h1
  obtain ⟨c, rfl, _, _, wc⟩ := open_int Tryz.underlying5 (hval 2 5 v2 rfl rfl) h2
  obtain ⟨t, rfl, _, _⟩ := open_bool Tryz.underlying4 (hval 3 4 v3 rfl rfl) h3
  obtain ⟨n, hn, rfl⟩ := u8_nat wa
  obtain ⟨m, hm, rfl⟩ := u8_nat wb
  obtain ⟨k, hk, rfl⟩ := u8_nat wc
  refine (globs_calls (glob_of placeGlobs_plain placeGlobs_mem hL) hn hm hk t).mono fun e W' ⟨he, hk⟩ => ?_
  subst he
  exact ⟨_, rfl, law_post laidOut placeGlobs_params rfl Tryz.underlying4 rfl ⟨rfl, by simp [Rows.placeGlobsSpec], rfl⟩ hW' hk.below⟩
end Go.Proofs.YteinliapjcgpfaaGreatDoor
