/- The call of 'foundrylaw21.ScriptGlobs', from any input: it answers true and leaves all that was there as it was. -/
import Derived.Test.YtnggiiacboeaiaaGreatDoorGlobsTrees
import Derived.Test.YtnggiiacboeaiaaGreatDoorMatchLaws
import Derived.Test.YtnggiiacboeaiaaGreatDoorTie
import Derived.Test.YtnggiiacboeaiaaGreatDoorCards
import Derived.Test.YtnggiiacboeaiaaGreatDoorVaiLaid
import Derived.WalkKit
import Derived.ProofKit
import Derived.Lay
import Derived.LaidOnce
import Derived.SevenTiedAt
namespace Go.Proofs.YtnggiiacboeaiaaGreatDoor
open Go Go.Vai Go.RowKit Go.ChangeShapes Go.WideShapes Go.ChangeAt
set_option maxRecDepth 100000
theorem rows0 {keep : List Nat} : ∀ (j : Nat) (o o2 : AObj), ([] : List AObj)[j]? = some o → ([] : List AObj)[j]? = some o2 → RObj 0 keep o o2 := fun j o o2 h => by simp at h
theorem bne_not {x y : UInt8} : (!Nat.beq x.toNat y.toNat) = true ↔ x ≠ y := by
  rw [Bool.not_eq_true', ← Bool.not_eq_true, Nat.beq_eq]
  exact ⟨fun h e => h (by rw [e]), fun h e => h (UInt8.toNat_inj.1 e)⟩
theorem g2_step {a b c : List UInt8} {p : Bool} {i : Nat} (hi : i < lenU a) (hs : lenU a ≤ 100) : ∃ p', g2 a b c p i = lf .normal 90 ((vG a b c p' (i + 1)).map some) ([].map some) ∧ (p' = true ↔ p = true ∧ byteAt a i ≠ 42 ∧ byteAt a i ≠ 63) := by
  rw [g2_eq]
  have e1 := blt_t hi
  have e2 := up_eq (k := i) (by omega)
  simp only [e1, e2, bc_true, ieq_nat]
  have h42 := bne_not (x := byteAt a i) (y := 42)
  have h63 := bne_not (x := byteAt a i) (y := 63)
  cases p with
  | false => exact ⟨false, rfl, by simp⟩
  | true =>
    simp only [bc_true]
    have e42 : Nat.beq (byteAt a i).toNat 42 = Nat.beq (byteAt a i).toNat (42 : UInt8).toNat := rfl
    have e63 : Nat.beq (byteAt a i).toNat 63 = Nat.beq (byteAt a i).toNat (63 : UInt8).toNat := rfl
    cases hst : (!Nat.beq (byteAt a i).toNat 42) with
    | false =>
      simp only [bc_false]
      refine ⟨false, rfl, ?_⟩
      rw [e42] at hst
      rw [hst] at h42
      simp only [true_and]
      constructor
      · intro h; cases h
      · rintro ⟨h, _⟩; exact h42.2 h
    | true =>
      simp only [bc_true]
      refine ⟨_, rfl, ?_⟩
      rw [e42] at hst
      rw [e63, h63]
      simp only [true_and]
      exact ⟨fun h => ⟨h42.1 hst, h⟩, fun h => h.2⟩
theorem g2_out {a b c : List UInt8} {p : Bool} : g2 a b c p (lenU a) = lf (.exit 0) 90 ((vG a b c p (lenU a)).map some) ([].map some) := by
  rw [g2_eq, blt_f (Nat.lt_irrefl _), bc_false]; rfl
theorem lenU_append (a b : List UInt8) : lenU (a ++ b) = lenU a + lenU b := List.length_append
theorem g3_end {a b c : List UInt8} {p : Bool} (ha : lenU a ≤ 100) (hb : lenU b ≤ 100) (hc : lenU c ≤ 100) (hp : p = true ↔ plainB a (lenU a)) : g3 a b c p (lenU a) = lf .ret 90 ([.bool true].map some) ([].map some) := by
  rw [g3_eq]
  have la := lenU_append
  have l1 : lenU [42] = 1 := rfl
  cases p with
  | false =>
    simp only [Bool.not_false, bc_true, blt_t (show lenU a < 100000 by omega), match_star]
    rfl
  | true =>
    have hp' : plainB a a.length := hp.1 rfl
    have m1 := match_front a b
    have m2 : matchB ([42] ++ a) (b ++ a) = true := match_back a b
    have m3 : matchB ([42] ++ a ++ [42]) (b ++ a ++ c) = true := match_mid a b c
    have m4 := match_plain (b := b) hp'
    simp only [Bool.not_true, bc_false, bc_true, match_star, match_self, m1, m2, m3, m4, la, l1, blt_t (show lenU a < 100000 by omega), ble_t (show lenU a ≤ 100000 by omega), ble_t (show (lenU a).succ ≤ 1099511627776 by omega), ble_t (show (lenU a).add (lenU b) ≤ 1099511627776 from by show lenU a + lenU b ≤ _; omega),
      blt_t (show lenU a + lenU b < 100000 by omega), ble_t (show lenU a + 1 ≤ 100000 by omega), ble_t (show Nat.add 1 (lenU a) ≤ 1099511627776 from by show 1 + lenU a ≤ _; omega), ble_t (show (lenU b).add (lenU a) ≤ 1099511627776 from by show lenU b + lenU a ≤ _; omega), blt_t (show lenU b + lenU a < 100000 by omega),
      ble_t (show 1 + lenU a ≤ 100000 by omega), ble_t (show (1 + lenU a).add 1 ≤ 1099511627776 from by show 1 + lenU a + 1 ≤ _; omega), ble_t (show (lenU b + lenU a).add (lenU c) ≤ 1099511627776 from by show lenU b + lenU a + lenU c ≤ _; omega), blt_t (show lenU b + lenU a + lenU c < 100000 by omega), ble_t (show 1 + lenU a + 1 ≤ 100000 by omega),
      blt_t (show lenU b < 100000 by omega), decide_true]
    rfl

section
variable {P : Program} {I : List MEnt → AHeap → World → Prop} {ro : Option Nat}
theorem g_whole (hE : EnvOk E3 P I) (hI : Carried I) (a b c : List UInt8) : Tri E3 P I ro fn5.body (newFr fn5 [.str a, .str b, .str c]) (mkH 8 []) fun e fr _ => (e = .normal ∨ e = .ret) ∧ fr.df = [] ∧ fr.t.get 6 = some (.bool true) := by
  refine tri_of_triL _ ?_
  rw [flat5]
  have out : ∀ {e : AExit} {fr' : AFr} {H' : AHeap}, e = .ret → Ren 8 kp8 fr' H' (mkFr 90 [6] [.bool true]) (mkH 8 []) → (e = .normal ∨ e = .ret) ∧ fr'.df = [] ∧ fr'.t.get 6 = some (.bool true) := fun he r => ⟨.inr he, r.df.1, by
    obtain ⟨x, h1, h2⟩ := r.t 6 (.bool true) rfl
    rw [h1, rnV_bool h2]⟩
  by_cases hs : lenU a ≤ 100 ∧ lenU b ≤ 100 ∧ lenU c ≤ 100
  · obtain ⟨ha, hb, hc⟩ := hs
    have e : g0 a b c = lf .normal 90 ((vG a b c true 0).map some) ([].map some) := by
      rw [g0_eq, blt_f (by omega), blt_f (by omega), blt_f (by omega)]; rfl
    refine TriL.leafXC hE hI cl3_ok e (by decide) rfl rfl rows0 (.inl ⟨rfl, ?_⟩)
    refine Tri.mono (Tri.block (Q := fun e fr H => e = .normal ∧ ∃ p, (p = true ↔ plainB a (lenU a)) ∧ Ren 8 kp8 fr H (mkFr 90 SG (vG a b c p (lenU a))) (mkH 8 [])) ?_) ?_
    · refine Tri.loop (X := Nat × Bool) (fr := fun x => mkFr 90 SG (vG a b c x.2 x.1)) (H := fun _ => mkH 8 []) (Inv := fun x => x.1 ≤ lenU a ∧ (x.2 = true ↔ plainB a x.1)) (fun x => lenU a - x.1) hI ?_ (0, true) ⟨Nat.zero_le _, by simp [plainB]⟩
      rintro ⟨i, p⟩ ⟨hi, hp⟩
      simp only at hi hp
      by_cases hlt : i < lenU a
      · obtain ⟨p', e, h'⟩ := g2_step (b := b) (c := c) (p := p) hlt ha
        refine Tri.leafC hE cl3_ok e (by decide) rfl rfl rows0 fun fr' H' r => .inl ⟨rfl, (i + 1, p'), kp8, ⟨hlt, ?_⟩, by simp only; omega, r⟩
        simp only
        rw [h', hp]
        refine ⟨fun ⟨h, h2⟩ j hj => ?_, fun h => ⟨fun j hj => h j (by omega), h i (by omega)⟩⟩
        by_cases e : j = i
        · subst e; exact h2
        · exact h j (by omega)
      · obtain rfl : i = lenU a := by omega
        exact Tri.leafC hE cl3_ok g2_out (by decide) rfl rfl rows0 fun fr' H' r => .inr ⟨(by intro h; cases h), rfl, p, hp, r⟩
    · rintro e fr H ⟨rfl, p, hp, r⟩
      refine .inl ⟨rfl, TriL.ren hI r ?_⟩
      exact TriL.leafC hE cl3_ok (g3_end ha hb hc hp) (by decide) rfl rfl rows0 fun fr' H' r => out rfl r
  · have e : g1 a b c = lf .ret 90 ([.bool true].map some) ([].map some) := by
      rw [g1_eq]
      by_cases h1 : lenU a ≤ 100
      · by_cases h2 : lenU b ≤ 100
        · rw [blt_f (by omega), blt_f (by omega), blt_t (show 100 < lenU c by omega)]; rfl
        · rw [blt_f (by omega), blt_t (show 100 < lenU b by omega)]; rfl
      · rw [blt_t (show 100 < lenU a by omega)]; rfl
    exact TriL.leafXC hE hI cl3_ok e (by decide) rfl rfl rows0 (.inr ⟨(by intro h; cases h), fun fr' H' r => out rfl r⟩)
end
theorem res5 : fn5.results = [.tmp 6] := by kernel_rfl
theorem globs_calls {w : World} (hw : GlobOk gl w) (a b c : ByteArray) : Calls Tryz.prog 5 #[.string a, .string b, .string c] w fun e w' => e = .returned (.bool true) ∧ Keeps w w' :=
  calls_bool (args := [.str a.data.toList, .str b.data.toList, .str c.data.toList]) (cargs := [.string a, .string b, .string c]) e3_ok gl_ok fn5_eq res5 (fun v hv => by
    simp only [List.mem_cons, List.not_mem_nil, or_false] at hv
    rcases hv with rfl | rfl | rfl <;> exact plain_str _) ⟨by simp [VRel], by simp [VRel], by simp [VRel], trivial⟩ (fun w hw => g_whole (e3_ok w hw) (kept_carried hw) _ _ _) hw

theorem own : ownKnob Tryz.prog.godebug = none := by kernel_rfl
theorem pow_cells : cellsD Tryz.prog 3 199 Rows.laid_internal_strconv_uint64pow10 = some pow10 := by kernel_rfl
theorem pow_name : Tryz.prog.globalNamed "internal/strconv.uint64pow10" = some 1 := by kernel_rfl
theorem pow_type : (Tryz.prog.globals[1]?).map (·.type) = some 199 := by kernel_rfl
theorem laidOut : laidOutB Tryz.prog = true := by kernel_rfl
theorem glob_of {W : World} {laid : List (String × DataW Unit)} (hp : (laid.all fun x => x.2.handleName?.isNone) = true) (hm : ("internal/strconv.uint64pow10", (Rows.laid_internal_strconv_uint64pow10 : DataW Unit)) ∈ laid) (h : laidMetH Tryz.prog laid W) : GlobOk gl W := by
  intro g av hg
  have e1 : (g, av) = (1, pow10) := List.mem_singleton.1 hg
  have e2 : g = 1 := congrArg Prod.fst e1
  have e3 : av = pow10 := congrArg Prod.snd e1
  rw [e2, e3]
  obtain ⟨cs, e, lo, hi, a1, a2⟩ := laid_cells h hp hm pow_name pow_type pow_cells
  exact ⟨cs, e, lo, hi, a1, a2⟩

theorem scriptGlobs_plain : (Rows.scriptGlobsRow.laid.all fun x => x.2.handleName?.isNone) = true := by kernel_rfl
theorem scriptGlobs_mem : ("internal/strconv.uint64pow10", (Rows.laid_internal_strconv_uint64pow10 : DataW Unit)) ∈ Rows.scriptGlobsRow.laid := .tail _ (.tail _ (.head _))
theorem scriptGlobs_params : (Tryz.f5.params.toList.all fun t => Tryz.prog.readableRec t && decide (t < Tryz.prog.types.size)) = true := by kernel_rfl
theorem scriptGlobs_lifted (os : Os) (started : os.Started) (H : Type) (enc : TypeId × Value → H) :
    ReturnsInHanded {} Tryz.checked os 5 .any (fun w args => (Rows.scriptGlobsSpec.pre enc Tryz.prog Tryz.f5 [] false w args ∧ laidMetH Tryz.prog Rows.scriptGlobsRow.laid w) ∧ sizedMet enc Tryz.prog Tryz.f5 (OpenSpec.ofChange Rows.scriptGlobsSpec) false w args)
      (Rows.scriptGlobsSpec.post enc Tryz.prog Tryz.f5 false true false false) := by
  refine returnsInHanded_of_change_and (C := Tryz.checked) (X := fun w _ => laidMetH Tryz.prog Rows.scriptGlobsRow.laid w) (fun _ _ _ hh h => h.of_heap hh) own started (by kernel_rfl) Tryz.func5
    (ChangeSpec.witness_shaped (enc := enc) (C := Tryz.checked) (os := os) (X := fun w _ => laidMetH Tryz.prog Rows.scriptGlobsRow.laid w) false (World.laidAll Tryz.prog os Rows.scriptGlobsRow.laid) #[.string ⟨#[]⟩, .string ⟨#[]⟩, .string ⟨#[]⟩] 8 (World.laidAll_os _ _ _)
      (World.shaped_of_ZipB (by kernel_rfl) (by kernel_rfl)) (by kernel_rfl) (by kernel_rfl) (by kernel_rfl)
      (by rw [MakeChecks.laidMetH_plain _ _ _ scriptGlobs_plain]; exact laidMet_laidAll _ (by kernel_rfl) (by kernel_rfl))) ?_
  intro W base args ds gs before hval0 hW _ _ hL _
  have hval : ∀ (j : Nat) t v, Tryz.f5.params[j]? = some t → args[j]? = some v → Value.okWide Tryz.prog W .any base t v := hval0
  have hW' := hW
  obtain ⟨p, q, hA0, hV, rfl, _, _⟩ := hW
  have hA : DataW.TrodAll enc Tryz.prog W 0 (fun _ => true) true Tryz.f5.params.toList args.toList ds p := hA0
  rw [Tryz.params5] at hA hval
  obtain ⟨v0, v1, v2, d0, d1, d2, p0, p1, p2, rfl, rfl, rfl, h0, h1, h2⟩ := trodAll_three hA
  obtain ⟨rfl, rfl⟩ := trodVars_none hV
  obtain ⟨a, rfl, _, _, _⟩ := ChangeMaps.open_string Tryz.underlying9 (hval 0 9 v0 rfl rfl) h0
  obtain ⟨b, rfl, _, _, _⟩ := ChangeMaps.open_string Tryz.underlying9 (hval 1 9 v1 rfl rfl) h1
  obtain ⟨c, rfl, _, _, _⟩ := ChangeMaps.open_string Tryz.underlying9 (hval 2 9 v2 rfl rfl) h2
  refine (globs_calls (glob_of scriptGlobs_plain scriptGlobs_mem hL) a b c).mono fun e W' ⟨he, hk⟩ => ?_
  subst he
  exact ⟨_, rfl, law_post laidOut scriptGlobs_params rfl Tryz.underlying4 rfl ⟨rfl, by simp [Rows.scriptGlobsSpec], rfl⟩ hW' hk.below⟩
end Go.Proofs.YtnggiiacboeaiaaGreatDoor
