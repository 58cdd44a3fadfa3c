/- 'foundrylaw20.AsmAligns', from any input: it answers true. -/
import Derived.Test.YthlcgkebfodnmaaGreatDoorAsMid
import Derived.Test.YthlcgkebfodnmaaGreatDoorAsTie
import Derived.Test.YthlcgkebfodnmaaGreatDoorCards
import Derived.ProofKit
import Derived.Lay
import Derived.LaidOnce
namespace Go.Proofs.YthlcgkebfodnmaaGreatDoor
open Go Go.Vai Go.RowKit Go.ChangeShapes Go.WideShapes Go.ChangeAt
noncomputable section
set_option maxRecDepth 100000
theorem own : ownKnob Tryz.prog.godebug = none := by kernel_rfl
theorem maxlen_row : ((begin Tryz.prog (fun _ _ => 0) default).world.heap[0]?).bind Obj.row? = some (#[.int .i64 0], 3) := by kernel_rfl
theorem rng_name : Tryz.prog.globalNamed "strconv.ErrRange" = some 7 := by kernel_rfl
theorem rng_type : (Tryz.prog.globals[7]?).map (·.type) = some 384 := by kernel_rfl
theorem err_iface : (match Tryz.prog.underlying 384 with | some (.interface _) => true | _ => false) = true := by kernel_rfl
theorem asc_cells : cellsD Tryz.prog 3 432 Rows.laid_strings_asciiSpace = some ascL := by kernel_rfl
theorem asc_name : Tryz.prog.globalNamed "strings.asciiSpace" = some 1 := by kernel_rfl
theorem asc_type : (Tryz.prog.globals[1]?).map (·.type) = some 432 := by kernel_rfl
theorem asmAligns_plain : (Rows.asmAlignsRow.laid.all fun x => x.2.handleName?.isNone) = true := by kernel_rfl
theorem laidOut : laidOutB Tryz.prog = true := by kernel_rfl
theorem params_ok : (Tryz.f3.params.toList.all fun t => Tryz.prog.readableRec t && decide (t < Tryz.prog.types.size)) = true := by kernel_rfl
theorem rng_mem : ("strconv.ErrRange", (Rows.laid_strconv_ErrRange : DataW Unit)) ∈ Rows.asmAlignsRow.laid := .tail _ (.tail _ (.tail _ (.head _)))
theorem asc_mem : ("strings.asciiSpace", (Rows.laid_strings_asciiSpace : DataW Unit)) ∈ Rows.asmAlignsRow.laid := .tail _ (.tail _ (.tail _ (.tail _ (.tail _ (.tail _ (.tail _ (.head _)))))))
theorem glob_of {W : World} (h : W.ShapedOpen Tryz.prog) (hl : laidMetH Tryz.prog Rows.asmAlignsRow.laid W) : GlobOk gl W := by
  intro g av hm
  rcases List.mem_cons.1 hm with hm | hm
  · have e2 : g = 0 := congrArg Prod.fst hm
    have e3 : av = [.opq (some .i64)] := congrArg Prod.snd hm
    rw [e2, e3]
    exact glob_some h (by decide) maxlen_row rfl (lays144.s1_3 W h)
  rcases List.mem_cons.1 hm with hm | hm
  · have e2 : g = 7 := congrArg Prod.fst hm
    have e3 : av = [.opq none] := congrArg Prod.snd hm
    rw [e2, e3]
    have hu := err_iface
    split at hu
    case h_2 => cases hu
    rename_i ms hms
    obtain ⟨cs, e, lo, hi, a1, a2⟩ := laid_opq hl asmAligns_plain rng_mem rng_name rng_type hms
    exact ⟨cs, e, lo, hi, a1, a2⟩
  have e1 : (g, av) = (1, ascL) := List.mem_singleton.1 hm
  have e2 : g = 1 := congrArg Prod.fst e1
  have e3 : av = ascL := congrArg Prod.snd e1
  rw [e2, e3]
  obtain ⟨cs, e, lo, hi, a1, a2⟩ := laid_cells hl asmAligns_plain asc_mem asc_name asc_type asc_cells
  exact ⟨cs, e, lo, hi, a1, a2⟩
theorem law_calls {w : World} (hw : GlobOk gl w) (a b c : Int) (d : Bool) : Calls Tryz.prog 3 #[.int .i64 a, .int .i64 b, .int .i64 c, .bool d] w fun e w' => e = .returned (.bool true) ∧ Keeps w w' := by
  have kc := kept_carried hw
  have kj : ∀ M H w', Kept gl w M H w' → JG gl M H w' := fun _ _ _ h => Kept.jg hw h
  by_cases ho : a < 1 ∨ 3 < a ∨ b < 0 ∨ 300 < b ∨ c < 0 ∨ 9 < c
  · exact law_tri (E := EA 1 true 0 1 0) (gl := gl) (ex := []) (os := []) (args := [.int .i64 a, .int .i64 b, .int .i64 c, .bool d]) (cargs := [.int .i64 a, .int .i64 b, .int .i64 c, .bool d]) (ea_ok (by decide) (by decide) (by decide) (by decide) kj kc) (fn3_eq 1 true 0 1 0) as_res hw rfl (fun o ho => by cases ho) (fun j m o h => by simp at h) ⟨rfl, rfl, rfl, rfl, trivial⟩ (as_out (ea_ok (by decide) (by decide) (by decide) (by decide) kj kc) kc ho)
  · obtain ⟨n, rfl⟩ : ∃ n : Nat, b = .ofNat n := ⟨b.toNat, by show b = (b.toNat : Int); omega⟩
    obtain ⟨kk, rfl⟩ : ∃ n : Nat, c = .ofNat n := ⟨c.toNat, by show c = (c.toNat : Int); omega⟩
    have hn : n ≤ 300 := by have : ¬ (300 : Int) < (n : Int) := fun h => ho (.inr (.inr (.inr (.inl h)))); omega
    have hkk : kk ≤ 9 := by have : ¬ (9 : Int) < (kk : Int) := fun h => ho (.inr (.inr (.inr (.inr (.inr h))))); omega
    obtain ⟨q1, _, q3, q4⟩ := padN_ok (n := n) hkk
    have ha : a = 1 ∨ a = 2 ∨ a = 3 := by omega
    rcases ha with rfl | rfl | rfl <;> cases d
    · exact law_tri (E := EA 1 true n (2 ^ kk) (padN n (2 ^ kk))) (gl := gl) (ex := []) (os := []) (args := [.int .i64 (.ofNat 1), .int .i64 (.ofNat n), .int .i64 (.ofNat kk), .bool false]) (cargs := [.int .i64 (.ofNat 1), .int .i64 (.ofNat n), .int .i64 (.ofNat kk), .bool false]) (ea_ok (by decide) (by omega) (by omega) (by omega) kj kc) (fn3_eq _ _ _ _ _) as_res hw rfl (fun o ho => by cases ho) (fun j m o h => by simp at h) ⟨rfl, rfl, rfl, rfl, trivial⟩ (as_cls1 hn hkk rfl rfl (ea_ok (by decide) (by omega) (by omega) (by omega) kj kc) kc)
    · exact law_tri (E := EA 1 false n (2 ^ kk) (padN n (2 ^ kk))) (gl := gl) (ex := []) (os := []) (args := [.int .i64 (.ofNat 1), .int .i64 (.ofNat n), .int .i64 (.ofNat kk), .bool true]) (cargs := [.int .i64 (.ofNat 1), .int .i64 (.ofNat n), .int .i64 (.ofNat kk), .bool true]) (ea_ok (by decide) (by omega) (by omega) (by omega) kj kc) (fn3_eq _ _ _ _ _) as_res hw rfl (fun o ho => by cases ho) (fun j m o h => by simp at h) ⟨rfl, rfl, rfl, rfl, trivial⟩ (as_cls0 hn hkk rfl rfl (ea_ok (by decide) (by omega) (by omega) (by omega) kj kc) kc)
    · exact law_tri (E := EA 2 true n (2 ^ kk) (padN n (2 ^ kk))) (gl := gl) (ex := []) (os := []) (args := [.int .i64 (.ofNat 2), .int .i64 (.ofNat n), .int .i64 (.ofNat kk), .bool false]) (cargs := [.int .i64 (.ofNat 2), .int .i64 (.ofNat n), .int .i64 (.ofNat kk), .bool false]) (ea_ok (by decide) (by omega) (by omega) (by omega) kj kc) (fn3_eq _ _ _ _ _) as_res hw rfl (fun o ho => by cases ho) (fun j m o h => by simp at h) ⟨rfl, rfl, rfl, rfl, trivial⟩ (as_cls3 hn hkk rfl rfl (ea_ok (by decide) (by omega) (by omega) (by omega) kj kc) kc)
    · exact law_tri (E := EA 2 false n (2 ^ kk) (padN n (2 ^ kk))) (gl := gl) (ex := []) (os := []) (args := [.int .i64 (.ofNat 2), .int .i64 (.ofNat n), .int .i64 (.ofNat kk), .bool true]) (cargs := [.int .i64 (.ofNat 2), .int .i64 (.ofNat n), .int .i64 (.ofNat kk), .bool true]) (ea_ok (by decide) (by omega) (by omega) (by omega) kj kc) (fn3_eq _ _ _ _ _) as_res hw rfl (fun o ho => by cases ho) (fun j m o h => by simp at h) ⟨rfl, rfl, rfl, rfl, trivial⟩ (as_cls2 hn hkk rfl rfl (ea_ok (by decide) (by omega) (by omega) (by omega) kj kc) kc)
    · exact law_tri (E := EA 3 true n (2 ^ kk) (padN n (2 ^ kk))) (gl := gl) (ex := []) (os := []) (args := [.int .i64 (.ofNat 3), .int .i64 (.ofNat n), .int .i64 (.ofNat kk), .bool false]) (cargs := [.int .i64 (.ofNat 3), .int .i64 (.ofNat n), .int .i64 (.ofNat kk), .bool false]) (ea_ok (by decide) (by omega) (by omega) (by omega) kj kc) (fn3_eq _ _ _ _ _) as_res hw rfl (fun o ho => by cases ho) (fun j m o h => by simp at h) ⟨rfl, rfl, rfl, rfl, trivial⟩ (as_cls5 hn hkk rfl rfl (ea_ok (by decide) (by omega) (by omega) (by omega) kj kc) kc)
    · exact law_tri (E := EA 3 false n (2 ^ kk) (padN n (2 ^ kk))) (gl := gl) (ex := []) (os := []) (args := [.int .i64 (.ofNat 3), .int .i64 (.ofNat n), .int .i64 (.ofNat kk), .bool true]) (cargs := [.int .i64 (.ofNat 3), .int .i64 (.ofNat n), .int .i64 (.ofNat kk), .bool true]) (ea_ok (by decide) (by omega) (by omega) (by omega) kj kc) (fn3_eq _ _ _ _ _) as_res hw rfl (fun o ho => by cases ho) (fun j m o h => by simp at h) ⟨rfl, rfl, rfl, rfl, trivial⟩ (as_cls4 hn hkk rfl rfl (ea_ok (by decide) (by omega) (by omega) (by omega) kj kc) kc)
theorem asmAligns_lifted (os : Os) (started : os.Started) (H : Type) (enc : TypeId × Value → H) :
    ReturnsInHanded {} Tryz.checked os 3 .any (fun w args => (Rows.asmAlignsSpec.pre enc Tryz.prog Tryz.f3 [] false w args ∧ laidMetH Tryz.prog Rows.asmAlignsRow.laid w) ∧ sizedMet enc Tryz.prog Tryz.f3 (OpenSpec.ofChange Rows.asmAlignsSpec) false w args)
      (Rows.asmAlignsSpec.post enc Tryz.prog Tryz.f3 false true false false) := by
  refine handed_shaped_and (C := Tryz.checked) (X := fun w _ => laidMetH Tryz.prog Rows.asmAlignsRow.laid w) (fun _ _ _ hh h => h.of_heap hh) own started (by kernel_rfl) Tryz.func3
    (ChangeSpec.witness_shaped (enc := enc) (C := Tryz.checked) (os := os) (X := fun w _ => laidMetH Tryz.prog Rows.asmAlignsRow.laid w) false (World.laidAll Tryz.prog os Rows.asmAlignsRow.laid) #[.int .i64 0, .int .i64 0, .int .i64 0, .bool false] 8 (World.laidAll_os _ _ _)
      (World.shaped_of_ZipB (by kernel_rfl) (by kernel_rfl)) (by kernel_rfl) (by kernel_rfl) (by kernel_rfl)
      (by rw [MakeChecks.laidMetH_plain _ _ _ asmAligns_plain]; exact laidMet_laidAll _ (by kernel_rfl) (by kernel_rfl))) ?_
  intro W base args ds gs before hval0 hW _ _ hL hsh _
  have hval : ∀ (j : Nat) t v, Tryz.f3.params[j]? = some t → args[j]? = some v → Value.okWide Tryz.prog W .any base t v := hval0
  have hW' := hW
  obtain ⟨p, q, hA0, hV, rfl, _, _⟩ := hW
  have hA : DataW.TrodAll enc Tryz.prog W 0 (fun _ => true) true Tryz.f3.params.toList args.toList ds p := hA0
  rw [Tryz.params3] at hA hval
  obtain ⟨v0, v1, v2, v3, d0, d1, d2, d3, p0, p1, p2, p3, rfl, rfl, rfl, h0, h1, h2, h3⟩ := trodAll_four hA
  obtain ⟨rfl, rfl⟩ := trodVars_none hV
  obtain ⟨a, rfl, _, _, _⟩ := open_int Tryz.underlying3 (hval 0 3 v0 rfl rfl) h0
  obtain ⟨b, rfl, _, _, _⟩ := open_int Tryz.underlying3 (hval 1 3 v1 rfl rfl) h1
  obtain ⟨c, rfl, _, _, _⟩ := open_int Tryz.underlying3 (hval 2 3 v2 rfl rfl) h2
  obtain ⟨g, rfl, _, _⟩ := open_bool Tryz.underlying4 (hval 3 4 v3 rfl rfl) h3
  refine (law_calls (glob_of hsh hL) a b c g).mono fun e W' ⟨he, hk⟩ => ?_
  subst he
  exact ⟨_, rfl, law_post laidOut params_ok rfl Tryz.underlying4 rfl ⟨rfl, by simp [Rows.asmAlignsSpec], rfl⟩ hW' hk.below⟩
end
end Go.Proofs.YthlcgkebfodnmaaGreatDoor
