/- The call of 'foundrylaw13.IsaNone', from any input: it answers true and leaves all that was there as it was. -/
import Derived.Test.YtadghjbbimlonaaGreatDoorIsaBegun
import Derived.Test.YtadghjbbimlonaaGreatDoorVaiCut
import Derived.Test.YtadghjbbimlonaaGreatDoorTie
import Derived.Test.YtadghjbbimlonaaGreatDoorCards
import Derived.WalkKit
import Derived.ProofKit
import Derived.Lay
import Derived.LaidOnce
import Derived.SevenTiedAt
namespace Go.Proofs.YtadghjbbimlonaaGreatDoor
open Go Go.Vai Go.RowKit Go.ChangeShapes Go.WideShapes Go.ChangeAt
noncomputable def E2 : Env := envOf Tryz.prog 12 [8] (smOf kinds [(8, true)])
noncomputable def fn7 : AFunc := ((E2.fn 7).getD default)
theorem fn7_eq : E2.fn 7 = some fn7 := by kernel_rfl
def condA : Code → Code
  | .cond _ a _ => a
  | c => c
def condB : Code → Code
  | .cond _ _ b => b
  | c => c
noncomputable def cA : Code := condA (((flat fn7.body).drop 4).headD .skip)
noncomputable def cB : Code := condB (((flat fn7.body).drop 4).headD .skip)
noncomputable def rest : List Code := (flat fn7.body).drop 5
theorem drop4 : (flat fn7.body).drop 4 = .cond (.tmp 34) cA cB :: rest := by kernel_rfl
/-- The arguments. -/
def insV (s : List UInt8) (a b c d i : Int) : AV := .agg [.str s, .int .i64 a, .int .i64 b, .int .i64 c, .int .i64 d, .int .i64 i]
noncomputable def ih2 : Task → Option TRes := runR E2 200
noncomputable def fr0 (t : Int) (ins sl : AV) (nm : List UInt8) : AFr := newFr fn7 [.int .i64 t, ins, sl, .str nm]
noncomputable def H1 : AHeap := gHeap 13 gl
noncomputable def front (t : Int) (ins sl : AV) (nm : List UInt8) : Option TRes := codeL E2 ih2 ((flat fn7.body).take 4) (fr0 t ins sl nm) H1

def Good (t : Int) (ins : AV) (n : Nat) (sl : AV) (nm : List UInt8) : Prop :=
  isNormal (front t ins sl nm) = true ∧ opd E2 (getFr (front t ins sl nm)).t (.tmp 34) = some (.bool (ilt (.ofNat 400) (.ofNat n))) ∧
  isRetB E2 fn7.results true (codeL E2 ih2 (cB :: rest) (getFr (front t ins sl nm)) (getH (front t ins sl nm))) = true ∧
  isRetB E2 fn7.results true (codeL E2 ih2 (cA :: rest) (getFr (front t ins sl nm)) (getH (front t ins sl nm))) = true

set_option maxRecDepth 100000
theorem good_neg (m : Nat) (s : List UInt8) (a b c d i : Int) (n : Nat) (cap : Option Nat) (nm : List UInt8) : Good (.negSucc m) (insV s a b c d i) n (.sl 12 0 n cap) nm := by
  cases nm with
  | nil => exact ⟨by kernel_rfl, by kernel_rfl, by kernel_rfl, by kernel_rfl⟩
  | cons x r => exact ⟨by kernel_rfl, by kernel_rfl, by kernel_rfl, by kernel_rfl⟩
theorem good_zero (s : List UInt8) (a b c d i : Int) (n : Nat) (cap : Option Nat) (nm : List UInt8) : Good (.ofNat 0) (insV s a b c d i) n (.sl 12 0 n cap) nm := by
  cases nm with
  | nil => exact ⟨by kernel_rfl, by kernel_rfl, by kernel_rfl, by kernel_rfl⟩
  | cons x r => exact ⟨by kernel_rfl, by kernel_rfl, by kernel_rfl, by kernel_rfl⟩
theorem good_pos (m : Nat) (s : List UInt8) (a b c d i : Int) (n : Nat) (cap : Option Nat) (nm : List UInt8) : Good (.ofNat (m + 4)) (insV s a b c d i) n (.sl 12 0 n cap) nm := by
  cases nm with
  | nil => exact ⟨by kernel_rfl, by kernel_rfl, by kernel_rfl, by kernel_rfl⟩
  | cons x r => exact ⟨by kernel_rfl, by kernel_rfl, by kernel_rfl, by kernel_rfl⟩

def Whole (t : Int) (ins sl : AV) (nm : List UInt8) : Prop := isRetB E2 fn7.results true (codeL E2 ih2 (flat fn7.body) (fr0 t ins sl nm) H1) = true
theorem whole_of {t : Int} {ins : AV} {n : Nat} {sl : AV} {nm : List UInt8} (g : Good t ins n sl nm) : Whole t ins sl nm := by
  obtain ⟨g1, g2, g3, g4⟩ := g
  unfold Whole
  rw [codeL_cut (k := 4) g1, drop4]
  unfold front at g2 g3 g4
  rw [codeL_cond g2]
  cases ilt (.ofNat 400) (.ofNat n) with
  | true => exact g4
  | false => exact g3
theorem nil_neg (m : Nat) (s : List UInt8) (a b c d i : Int) (nm : List UInt8) : Whole (.negSucc m) (insV s a b c d i) .nils nm := by
  cases nm with
  | nil => unfold Whole; kernel_rfl
  | cons x r => unfold Whole; kernel_rfl
theorem nil_zero (s : List UInt8) (a b c d i : Int) (nm : List UInt8) : Whole (.ofNat 0) (insV s a b c d i) .nils nm := by
  cases nm with
  | nil => unfold Whole; kernel_rfl
  | cons x r => unfold Whole; kernel_rfl
theorem nil_pos (m : Nat) (s : List UInt8) (a b c d i : Int) (nm : List UInt8) : Whole (.ofNat (m + 4)) (insV s a b c d i) .nils nm := by
  cases nm with
  | nil => unfold Whole; kernel_rfl
  | cons x r => unfold Whole; kernel_rfl
theorem mid1 (s : List UInt8) (a b c d i : Int) (sl : AV) (nm : List UInt8) : Whole (.ofNat 1) (insV s a b c d i) sl nm := by unfold Whole; kernel_rfl
theorem mid2 (s : List UInt8) (a b c d i : Int) (sl : AV) (nm : List UInt8) : Whole (.ofNat 2) (insV s a b c d i) sl nm := by unfold Whole; kernel_rfl
theorem mid3 (s : List UInt8) (a b c d i : Int) (sl : AV) (nm : List UInt8) : Whole (.ofNat 3) (insV s a b c d i) sl nm := by unfold Whole; kernel_rfl

theorem whole_all (t : Int) (s : List UInt8) (a b c d i : Int) (sl : AV) (nm : List UInt8) (hs : sl = .nils ∨ ∃ n cap, sl = .sl 12 0 n cap) : Whole t (insV s a b c d i) sl nm := by
  match t with
  | .negSucc m =>
    rcases hs with rfl | ⟨n, cap, rfl⟩
    · exact nil_neg ..
    · exact whole_of (good_neg ..)
  | .ofNat 0 =>
    rcases hs with rfl | ⟨n, cap, rfl⟩
    · exact nil_zero ..
    · exact whole_of (good_zero ..)
  | .ofNat 1 => exact mid1 ..
  | .ofNat 2 => exact mid2 ..
  | .ofNat 3 => exact mid3 ..
  | .ofNat (m + 4) =>
    rcases hs with rfl | ⟨n, cap, rfl⟩
    · exact nil_pos ..
    · exact whole_of (good_pos ..)
theorem law_run (t : Int) (s : List UInt8) (a b c d i : Int) (sl : AV) (nm : List UInt8) (hs : sl = .nils ∨ ∃ n cap, sl = .sl 12 0 n cap) :
    TRes.isB true (run E2 201 (.call 7 [.int .i64 t, insV s a b c d i, sl, .str nm] H1)) = true := by
  have h := whole_all t s a b c d i sl nm hs
  unfold Whole ih2 at h
  rw [runR_eq] at h
  exact call_of fn7_eq h
theorem own : ownKnob Tryz.prog.godebug = none := by kernel_rfl
theorem names_ok : namesOk [8] Tryz.prog.funcs.toList 0 = true := by kernel_rfl
theorem asc_cells : cellsD Tryz.prog 3 303 Rows.laid_strings_asciiSpace = some ascL := by kernel_rfl
theorem ins_flat : flatT Tryz.prog 3 29 = some [.str, .int .i64, .int .i64, .int .i64, .int .i64, .int .i64] := by kernel_rfl
theorem asc_name : Tryz.prog.globalNamed "strings.asciiSpace" = some 2 := by kernel_rfl
theorem asc_type : (Tryz.prog.globals[2]?).map (·.type) = some 303 := by kernel_rfl
theorem laid_plain : (Rows.isaNoneRow.laid.all fun x => x.2.handleName?.isNone) = true := by kernel_rfl
theorem laidOut : laidOutB Tryz.prog = true := by kernel_rfl
theorem params_ok : (Tryz.f7.params.toList.all fun t => Tryz.prog.readableRec t && decide (t < Tryz.prog.types.size)) = true := by kernel_rfl

theorem asc_mem : ("strings.asciiSpace", (Rows.laid_strings_asciiSpace : DataW Unit)) ∈ Rows.isaNoneRow.laid := .tail _ (.tail _ (.tail _ (.tail _ (.tail _ (.tail _ (.tail _ (.head _)))))))
/-- What the condition gives: the listed table, in memory. -/
theorem glob_of {W : World} (h : laidMetH Tryz.prog Rows.isaNoneRow.laid W) : GlobOk gl W := by
  intro g av hm
  have e1 : (g, av) = (2, ascL) := List.mem_singleton.1 hm
  have e2 : g = 2 := congrArg Prod.fst e1
  have e3 : av = ascL := congrArg Prod.snd e1
  rw [e2, e3]
  have a := laid_cells h laid_plain asc_mem asc_name asc_type asc_cells
  obtain ⟨cs, e, lo, hi, a1, a2⟩ := a
  exact ⟨cs, e, lo, hi, a1, a2⟩

theorem law_any (W : World) (hL : laidMetH Tryz.prog Rows.isaNoneRow.laid W) (t : Int) (v1 : Value) (avs : List AV) (hs : Shapes [.str, .int .i64, .int .i64, .int .i64, .int .i64, .int .i64] avs) (h1 : VRels [] avs v1.cells.toList) (hagg : ∃ cs, v1 = .agg cs) (v2 : Value)
    (h2 : v2 = .slice none 0 0 ∨ ∃ (b off len cap : Nat), v2 = .slice (some ⟨b, off, none⟩) len cap ∧ len ≤ cap ∧ cap ≤ maxLen) (nm : ByteArray) :
    Calls Tryz.prog 7 #[.int .i64 t, v1, v2, .string nm] W fun e w' => e = .returned (.bool true) ∧ Keeps W w' := by
  have rets := rets_one begun_ret
  have glob := glob_of hL
  obtain ⟨cs, rfl⟩ := hagg
  obtain ⟨b0, r0, f0, g0, hs⟩ := hs.cons_inv
  obtain ⟨b1, r1, f1, g1, hs⟩ := hs.cons_inv
  obtain ⟨b2, r2, f2, g2, hs⟩ := hs.cons_inv
  obtain ⟨b3, r3, f3, g3, hs⟩ := hs.cons_inv
  obtain ⟨b4, r4, f4, g4, hs⟩ := hs.cons_inv
  obtain ⟨b5, r5, f5, g5, hs⟩ := hs.cons_inv
  have f6 := hs.nil_inv
  obtain ⟨s, e0⟩ := CK.str_inv g0
  obtain ⟨x1, e1⟩ := CK.int_inv g1
  obtain ⟨x2, e2⟩ := CK.int_inv g2
  obtain ⟨x3, e3⟩ := CK.int_inv g3
  obtain ⟨x4, e4⟩ := CK.int_inv g4
  obtain ⟨x5, e5⟩ := CK.int_inv g5
  subst e0; subst e1; subst e2; subst e3; subst e4; subst e5; subst f6; subst f5; subst f4; subst f3; subst f2; subst f1; subst f0
  have hv1 : ∀ M, VRel M (insV s x1 x2 x3 x4 x5) (.agg cs) := fun M => ⟨cs.toList, by simp, VRels.mono List.nil_prefix h1⟩
  have hnm : ∀ M, VRel M (.str nm.data.toList) (.string nm) := fun M => by simp [VRel]
  rcases h2 with rfl | ⟨b, off, len, cap, rfl, _, _⟩
  · have hv : VRels (mGlob 12 0 ++ [⟨0, 0, 0, 0⟩]) [.int .i64 t, insV s x1 x2 x3 x4 x5, .nils, .str nm.data.toList] [.int .i64 t, .agg cs, .slice none 0 0, .string nm] := ⟨rfl, hv1 _, rfl, hnm _, trivial⟩
    exact (law_call names_ok ext_ok rets mixed_ok gl_ok glob [⟨0, 0, 0, 0⟩] hv (Option.isSome_iff_exists.2 ⟨_, fn7_eq⟩) (law_run t s x1 x2 x3 x4 x5 .nils nm.data.toList (.inl rfl))).2
  · have hv : VRels (mGlob 12 0 ++ [⟨b, off, 0, 0⟩]) [.int .i64 t, insV s x1 x2 x3 x4 x5, .sl 12 0 len (some cap), .str nm.data.toList] [.int .i64 t, .agg cs, .slice (some ⟨b, off, none⟩) len cap, .string nm] :=
      ⟨rfl, hv1 _, ⟨⟨b, off, 0, 0⟩, cap, rfl, rfl, (fun d e => by cases e; rfl), (fun e => by cases e)⟩, hnm _, trivial⟩
    exact (law_call names_ok ext_ok rets mixed_ok gl_ok glob [⟨b, off, 0, 0⟩] hv (Option.isSome_iff_exists.2 ⟨_, fn7_eq⟩) (law_run t s x1 x2 x3 x4 x5 (.sl 12 0 len (some cap)) nm.data.toList (.inr ⟨len, some cap, rfl⟩))).2

theorem lifted (os : Os) (started : os.Started) (H : Type) (enc : TypeId × Value → H) :
    ReturnsInHanded {} Tryz.checked os 7 .any (fun w args => (Rows.isaNoneSpec.pre enc Tryz.prog Tryz.f7 [] false w args ∧ laidMetH Tryz.prog Rows.isaNoneRow.laid w) ∧ sizedMet enc Tryz.prog Tryz.f7 (OpenSpec.ofChange Rows.isaNoneSpec) false w args)
      (Rows.isaNoneSpec.post enc Tryz.prog Tryz.f7 false true false false) := by
  refine returnsInHanded_of_change_and (C := Tryz.checked) (X := fun w _ => laidMetH Tryz.prog Rows.isaNoneRow.laid w) (fun _ _ _ hh h => h.of_heap hh) own started (by kernel_rfl) Tryz.func7
    (ChangeSpec.witness_shaped (enc := enc) (C := Tryz.checked) (os := os) (X := fun w _ => laidMetH Tryz.prog Rows.isaNoneRow.laid w) false (World.laidAll Tryz.prog os Rows.isaNoneRow.laid) #[.int .i64 0, .agg #[.string ⟨#[]⟩, .int .i64 0, .int .i64 0, .int .i64 0, .int .i64 0, .int .i64 0], .slice none 0 0, .string ⟨#[]⟩] 8 (World.laidAll_os _ _ _)
      (World.shaped_of_ZipB (by kernel_rfl) (by kernel_rfl)) (by kernel_rfl) (by kernel_rfl) (by kernel_rfl)
      (by rw [MakeChecks.laidMetH_plain _ _ _ laid_plain]; exact laidMet_laidAll _ (by kernel_rfl) (by kernel_rfl))) ?_
  intro W base args ds gs before hval0 hW _ _ hL _
  have hval : ∀ (j : Nat) t v, Tryz.f7.params[j]? = some t → args[j]? = some v → Value.okWide Tryz.prog W .any base t v := hval0
  have hW' := hW
  obtain ⟨p, q, hA0, hV, rfl, _, _⟩ := hW
  have hA : DataW.TrodAll enc Tryz.prog W 0 (fun _ => true) true Tryz.f7.params.toList args.toList ds p := hA0
  rw [Tryz.params7] at hA hval
  obtain ⟨v0, v1, v2, v3, d0, d1, d2, d3, p0, p1, p2, p3, rfl, rfl, rfl, h0, h1, h2, h3⟩ := trodAll_four hA
  obtain ⟨rfl, rfl⟩ := trodVars_none hV
  obtain ⟨x, rfl, _, _, _⟩ := open_int Tryz.underlying3 (hval 0 3 v0 rfl rfl) h0
  obtain ⟨nm, rfl, _, _, _⟩ := ChangeMaps.open_string Tryz.underlying9 (hval 3 9 v3 rfl rfl) h3
  obtain ⟨avs, s1, s2⟩ := open_flat ins_flat h1
  have hagg : ∃ cs, v1 = .agg cs := by
    have := hval 1 29 v1 rfl rfl
    simp only [Value.okWide, Tryz.underlying29] at this
    obtain ⟨cs, rfl, _⟩ := this
    exact ⟨cs, rfl⟩
  have hsl := open_slice Tryz.underlying23 (hval 2 23 v2 rfl rfl) h2
  refine (law_any W hL x v1 avs s1 s2 hagg v2 hsl nm).mono fun e W' ⟨he, hk⟩ => ?_
  subst he
  exact ⟨_, rfl, law_post laidOut params_ok rfl Tryz.underlying4 rfl ⟨rfl, by simp [Rows.isaNoneSpec], rfl⟩ hW' hk.below⟩

end Go.Proofs.YtadghjbbimlonaaGreatDoor
