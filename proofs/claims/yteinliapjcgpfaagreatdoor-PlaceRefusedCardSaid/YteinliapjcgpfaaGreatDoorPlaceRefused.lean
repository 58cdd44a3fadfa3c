/- 'foundrylaw23.PlaceRefused', from any input: it answers true. -/
import Derived.Test.YteinliapjcgpfaaGreatDoorPlaceRTreesB
import Derived.Test.YteinliapjcgpfaaGreatDoorPlaceRTreesC
import Derived.Test.YteinliapjcgpfaaGreatDoorPlaceBegun
import Derived.Test.YteinliapjcgpfaaGreatDoorVaiLaid
import Derived.Test.YteinliapjcgpfaaGreatDoorVaiStart
import Derived.Test.YteinliapjcgpfaaGreatDoorVaiArgs
import Derived.Test.YteinliapjcgpfaaGreatDoorTie
import Derived.Test.YteinliapjcgpfaaGreatDoorCards
import Derived.WalkKit
import Derived.ProofKit
import Derived.Lay
import Derived.LaidOnce
import Derived.SevenTiedAt
namespace Go.Proofs.YteinliapjcgpfaaGreatDoor
open Go Go.Vai Go.RowKit Go.ChangeShapes Go.WideShapes Go.ChangeAt
set_option maxRecDepth 100000
theorem rtree0_true {n k : Nat} (hn : n < 65536) (hk : k % 5 = 0) (h8 : k < 256) : rtree0 n k = some (.bool true) := by
  unfold rtree0
  simp (disch := omega) only [wrap_i64, toNat_nat', add_nat, tmod_nat, ilt_nat, ieq_nat, hk, blt_no, beq_yes, roomy_yes, bc_true, bc_false, Bool.not_true]
theorem rtree1_true {n k : Nat} (hn : n < 65536) (hk : k % 5 = 1) (h8 : k < 256) : rtree1 n k = some (.bool true) := by
  unfold rtree1
  simp (disch := omega) only [wrap_i64, wrap_u64, toNat_nat', add_nat, tmod_nat, ilt_nat, ieq_nat, hk, blt_no, blt_yes, beq_yes, roomy_yes, bc_true, bc_false, cond_false, Bool.not_true, Bool.not_false, Nat.zero_add]
theorem rtree2_true {n k : Nat} (hn : n < 65536) (hk : k % 5 = 2) (h8 : k < 256) : rtree2 n k = some (.bool true) := by
  unfold rtree2
  simp (disch := omega) only [wrap_i64, wrap_u64, toNat_nat', add_nat, tmod_nat, ilt_nat, ieq_nat, hk, blt_no, blt_yes, beq_yes, roomy_yes, bc_true, bc_false, cond_false, Bool.not_true, Bool.not_false, Nat.zero_add]
theorem rtree3_true {n k : Nat} (hn : n < 65536) (hk : k % 5 = 3) (h8 : k < 256) : rtree3 n k = some (.bool true) := by
  unfold rtree3
  simp (disch := omega) only [wrap_i64, toNat_nat', add_nat, tmod_nat, ilt_nat, ieq_nat, hk, blt_no, beq_yes, roomy_yes, bc_true, bc_false, Bool.not_true]
theorem rtree4_true {n k : Nat} (hn : n < 65536) (hk : k % 5 = 4) (h8 : k < 256) : rtree4 n k = some (.bool true) := by
  unfold rtree4
  simp (disch := omega) only [wrap_i64, wrap_u64, toNat_nat', add_nat, tmod_nat, ilt_nat, ieq_nat, hk, blt_no, beq_yes, roomy_yes, bc_true, bc_false, cond_false, Bool.not_true, Bool.not_false, Nat.zero_add]
theorem rnV_bool {b : Nat} {keep : List Nat} {x : AV} {c : Bool} (h : rnV b keep x = some (.bool c)) : x = .bool c := by
  cases x <;> simp only [rnV] at h <;> (try split at h) <;> simp_all

theorem isB_of {E : Env} {n f : Nat} {args : List AV} {H : AHeap} {o : Orc} {pn : Pin} (h : callPP E pn n (.call f args H) o jK = some (.bool true)) : TRes.isB true (run E n (.call f args H)) = true := by
  obtain ⟨x, o', e, hk⟩ := callPP_ok E pn n _ _ _ _ h
  rw [e]
  cases x with
  | code a b c => cases hk
  | dcall a => cases hk
  | call c =>
    cases c with
    | pan v H => cases hk
    | ret v H =>
      have hk : rnV 0 [] v = some (.bool true) := hk
      rw [rnV_bool hk]; rfl
theorem law_run {n k : Nat} (hn : n < 65536) (hk : k < 256) : TRes.isB true (run ER 100000 (.call 4 (vR n k) (gHeap 6 gl))) = true := by
  have h5 : k % 5 = 0 ∨ k % 5 = 1 ∨ k % 5 = 2 ∨ k % 5 = 3 ∨ k % 5 = 4 := by omega
  rcases h5 with h | h | h | h | h
  · exact isB_of ((rtree0_eq n k).trans (rtree0_true hn h hk))
  · exact isB_of ((rtree1_eq n k).trans (rtree1_true hn h hk))
  · exact isB_of ((rtree2_eq n k).trans (rtree2_true hn h hk))
  · exact isB_of ((rtree3_eq n k).trans (rtree3_true hn h hk))
  · exact isB_of ((rtree4_eq n k).trans (rtree4_true hn h hk))
theorem names_ok3 : namesOk [5] Tryz.prog.funcs.toList 0 = true := by kernel_rfl
theorem has3 : (ER.fn 4).isSome = true := by kernel_rfl
theorem refused_calls {w : World} (hw : GlobOk gl w) {n k : Nat} (hn : n < 65536) (hk : k < 256) : Calls Tryz.prog 4 #[.int .u16 (.ofNat n), .int .u8 (.ofNat k)] w fun e w' => e = .returned (.bool true) ∧ Keeps w w' :=
  (law_call names_ok3 ext_ok (rets_one begun_ret) mixed_ok gl_ok hw [] (args := vR n k) (cargs := [.int .u16 (.ofNat n), .int .u8 (.ofNat k)]) ⟨rfl, rfl, trivial⟩ has3 (law_run hn hk)).2

theorem own : ownKnob Tryz.prog.godebug = none := by kernel_rfl
theorem pow_cells : cellsD Tryz.prog 3 271 Rows.laid_internal_strconv_uint64pow10 = some pow10 := by kernel_rfl
theorem pow_name : Tryz.prog.globalNamed "internal/strconv.uint64pow10" = some 3 := by kernel_rfl
theorem pow_type : (Tryz.prog.globals[3]?).map (·.type) = some 271 := by kernel_rfl
theorem laidOut : laidOutB Tryz.prog = true := by kernel_rfl
theorem glob_of {W : World} {laid : List (String × DataW Unit)} (hp : (laid.all fun x => x.2.handleName?.isNone) = true) (hm : ("internal/strconv.uint64pow10", (Rows.laid_internal_strconv_uint64pow10 : DataW Unit)) ∈ laid) (h : laidMetH Tryz.prog laid W) : GlobOk gl W := by
  intro g av hg
  have e1 : (g, av) = (3, pow10) := List.mem_singleton.1 hg
  have e2 : g = 3 := congrArg Prod.fst e1
  have e3 : av = pow10 := congrArg Prod.snd e1
  rw [e2, e3]
  obtain ⟨cs, e, lo, hi, a1, a2⟩ := laid_cells h hp hm pow_name pow_type pow_cells
  exact ⟨cs, e, lo, hi, a1, a2⟩
theorem placeRefused_plain : (Rows.placeRefusedRow.laid.all fun x => x.2.handleName?.isNone) = true := by kernel_rfl
theorem placeRefused_mem : ("internal/strconv.uint64pow10", (Rows.laid_internal_strconv_uint64pow10 : DataW Unit)) ∈ Rows.placeRefusedRow.laid := .tail _ (.tail _ (.head _))
theorem placeRefused_params : (Tryz.f4.params.toList.all fun t => Tryz.prog.readableRec t && decide (t < Tryz.prog.types.size)) = true := by kernel_rfl
theorem u8_nat {x : Int} (h : (Lit.int .u8 x).wf = true) : ∃ n : Nat, n < 256 ∧ x = .ofNat n := by
  have h : (decide (IntKind.u8.min ≤ x) && decide (x ≤ IntKind.u8.max)) = true := h
  rw [Bool.and_eq_true, decide_eq_true_iff, decide_eq_true_iff] at h
  have h1 : (0 : Int) ≤ x := h.1
  have h2 : x ≤ 255 := h.2
  exact ⟨x.toNat, by omega, by show x = (x.toNat : Int); omega⟩
theorem u16_nat {x : Int} (h : (Lit.int .u16 x).wf = true) : ∃ n : Nat, n < 65536 ∧ x = .ofNat n := by
  have h : (decide (IntKind.u16.min ≤ x) && decide (x ≤ IntKind.u16.max)) = true := h
  rw [Bool.and_eq_true, decide_eq_true_iff, decide_eq_true_iff] at h
  have h1 : (0 : Int) ≤ x := h.1
  have h2 : x ≤ 65535 := h.2
  exact ⟨x.toNat, by omega, by show x = (x.toNat : Int); omega⟩
theorem placeRefused_lifted (os : Os) (started : os.Started) (H : Type) (enc : TypeId × Value → H) :
    ReturnsInHanded {} Tryz.checked os 4 .any (fun w args => (Rows.placeRefusedSpec.pre enc Tryz.prog Tryz.f4 [] false w args ∧ laidMetH Tryz.prog Rows.placeRefusedRow.laid w) ∧ sizedMet enc Tryz.prog Tryz.f4 (OpenSpec.ofChange Rows.placeRefusedSpec) false w args)
      (Rows.placeRefusedSpec.post enc Tryz.prog Tryz.f4 false true false false) := by
  refine returnsInHanded_of_change_and (C := Tryz.checked) (X := fun w _ => laidMetH Tryz.prog Rows.placeRefusedRow.laid w) (fun _ _ _ hh h => h.of_heap hh) own started (by kernel_rfl) Tryz.func4
    (ChangeSpec.witness_shaped (enc := enc) (C := Tryz.checked) (os := os) (X := fun w _ => laidMetH Tryz.prog Rows.placeRefusedRow.laid w) false (World.laidAll Tryz.prog os Rows.placeRefusedRow.laid) #[.int .u16 0, .int .u8 0] 8 (World.laidAll_os _ _ _)
      (World.shaped_of_ZipB (by kernel_rfl) (by kernel_rfl)) (by kernel_rfl) (by kernel_rfl) (by kernel_rfl)
      (by rw [MakeChecks.laidMetH_plain _ _ _ placeRefused_plain]; exact laidMet_laidAll _ (by kernel_rfl) (by kernel_rfl))) ?_
  intro W base args ds gs before hval0 hW _ _ hL _
  have hval : ∀ (j : Nat) t v, Tryz.f4.params[j]? = some t → args[j]? = some v → Value.okWide Tryz.prog W .any base t v := hval0
  have hW' := hW
  obtain ⟨p, q, hA0, hV, rfl, _, _⟩ := hW
  have hA : DataW.TrodAll enc Tryz.prog W 0 (fun _ => true) true Tryz.f4.params.toList args.toList ds p := hA0
  rw [Tryz.params4] at hA hval
  obtain ⟨v0, v1, d0, d1, p0, p1, rfl, rfl, rfl, h0, h1⟩ := trodAll_two hA
  obtain ⟨rfl, rfl⟩ := trodVars_none hV
  obtain ⟨a, rfl, _, _, wa⟩ := open_int Tryz.underlying62 (hval 0 62 v0 rfl rfl) h0
  obtain ⟨b, rfl, _, _, wb⟩ := open_int Tryz.underlying5 (hval 1 5 v1 rfl rfl) h1
  obtain ⟨n, hn, rfl⟩ := u16_nat wa
  obtain ⟨k, hk, rfl⟩ := u8_nat wb
  refine (refused_calls (glob_of placeRefused_plain placeRefused_mem hL) hn hk).mono fun e W' ⟨he, hk⟩ => ?_
  subst he
  exact ⟨_, rfl, law_post laidOut placeRefused_params rfl Tryz.underlying4 rfl ⟨rfl, by simp [Rows.placeRefusedSpec], rfl⟩ hW' hk.below⟩
end Go.Proofs.YteinliapjcgpfaaGreatDoor
