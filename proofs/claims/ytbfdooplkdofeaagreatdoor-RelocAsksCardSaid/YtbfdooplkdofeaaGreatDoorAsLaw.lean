/- 'foundrylaw16.RelocAsks', from any input: it answers true. -/
import Derived.Test.YtbfdooplkdofeaaGreatDoorAsLaw0
import Derived.Test.YtbfdooplkdofeaaGreatDoorVaiI
import Derived.Test.YtbfdooplkdofeaaGreatDoorVaiE
import Derived.Test.YtbfdooplkdofeaaGreatDoorVaiH
import Derived.Test.YtbfdooplkdofeaaGreatDoorTie
import Derived.Test.YtbfdooplkdofeaaGreatDoorCards
import Derived.WalkKit
import Derived.ProofKit
import Derived.Lay
import Derived.LaidOnce
import Derived.SevenTiedAt
namespace Go.Proofs.YtbfdooplkdofeaaGreatDoor
open Go Go.Vai Go.RowKit Go.ChangeShapes Go.WideShapes Go.ChangeAt
set_option maxRecDepth 100000
noncomputable section
theorem ofs_all (t : Int) (nm : List UInt8) (A B C D I : Int) (mod : List UInt8) : ∃ y : Int × Int × Bool, AnsV 5 [.int .i64 t, insV nm A B C D I, .str mod] (trV y.1 y.2.1 y.2.2) ∧ AnsV 6 [.int .i64 t, insV nm A B C D I, .str mod] (trV y.1 y.2.1 y.2.2) := by
  obtain ⟨x, y, b, h1, h2⟩ := of_all t nm A B C D I mod
  exact ⟨(x, y, b), h1, h2⟩
def ofC : OfT (Int × Int × Bool) := fun t nm A B C D I mod => Classical.choose (ofs_all t nm A B C D I mod)
def oaC : OfT Int := fun t nm A B C D I mod => (ofC t nm A B C D I mod).1
def obC : OfT Int := fun t nm A B C D I mod => (ofC t nm A B C D I mod).2.1
def ocC : OfT Bool := fun t nm A B C D I mod => (ofC t nm A B C D I mod).2.2
theorem ofF_ok : SmOk Tryz.prog gl (Zaz (ofFv oaC obC ocC)) := plain_okS fun f args v h => by
  unfold ofFv at h
  cases hf : Nat.beq f 5 || Nat.beq f 6 with
  | false => rw [hf] at h; cases h
  | true =>
    rw [hf] at h
    simp only [cond_true] at h
    split at h
    case h_2 => cases h
    rename_i t nm A B C D I mod
    simp only [Option.some.injEq] at h
    subst h
    have key := Classical.choose_spec (ofs_all t nm A B C D I mod)
    rw [Bool.or_eq_true, Nat.beq_eq, Nat.beq_eq] at hf
    rcases hf with rfl | rfl
    · obtain ⟨E, n, s, a1, a2, a3, a4, a5⟩ := key.1
      exact ⟨E, n, s, a1, a2, a3, a4, Zac rfl, a5⟩
    · obtain ⟨E, n, s, a1, a2, a3, a4, a5⟩ := key.2
      exact ⟨E, n, s, a1, a2, a3, a4, Zac rfl, a5⟩
def ELc : Env := EL oaC obC ocC
theorem el_ok (w : World) (hw : Zay gl w) : EnvOk ELc Tryz.prog (Kept gl w) := Zb9 (by kernel_rfl) ((Zcc ext_ok).or (Zca.or ((smOk_ret begun_ret).or (ofF_ok.or (data_ok.or (pr9_ok.or pr10_ok)))))) Zcb (fun _ _ _ h => h.1) (Zau hw).ext
theorem el_fn : (ELc.fn 3).isSome = true := by kernel_rfl
theorem ret_ofO {E : Env} {n f : Nat} {args : List AV} {H : AHeap} {u : AV} {o : Orc} (h : Zbo E n (.call f args H) o jK = some u) : ∃ v1 H1, run E n (.call f args H) = some (.call (.ret v1 H1)) ∧ rnV 0 [] v1 = some u := by
  obtain ⟨x, o', e, hk⟩ := callP_ok E n _ _ _ _ h
  cases x with
  | code a b c => cases hk
  | dcall a => cases hk
  | call c =>
    cases c with
    | pan v H => cases hk
    | ret v1 H1 => exact ⟨v1, H1, e, hk⟩
theorem pairs_of : ∀ (n : Nat) (vs : List AV), ShapesN [.int .u64, .int .u64] n vs → ∃ ps : List (Int × Int), ps.length = n ∧ vs = flat2 ps
  | 0, vs, h => by
    obtain ⟨h1, _⟩ := h
    cases vs with
    | nil => exact ⟨[], rfl, rfl⟩
    | cons a l => simp at h1
  | n + 1, vs, h => by
    obtain ⟨h1, h2⟩ := h
    have h0 := h2 0 (by omega)
    match vs, h1, h0, h2 with
    | a :: b :: l, h1, h0, h2 =>
      obtain ⟨⟨x, rfl, _⟩, ⟨y, rfl, _⟩, _⟩ := h0
      have hl : l.length = n * 2 := by
        have : l.length + 1 + 1 = (n + 1) * 2 := h1
        omega
      obtain ⟨ps, e1, e2⟩ := pairs_of n l ⟨hl, fun i hi => by
        have := h2 (i + 1) (by omega)
        have e : (i + 1) * [CK.int .u64, CK.int .u64].length = i * [CK.int .u64, CK.int .u64].length + 2 := by simp only [List.length_cons, List.length_nil]; omega
        rw [e] at this
        simpa using this⟩
      exact ⟨(x, y) :: ps, by simp [e1], by rw [e2]; rfl⟩
    | [a], h1, _, _ => exact absurd h1 (by simp only [List.length_cons, List.length_nil]; omega)
    | [], h1, _, _ => exact absurd h1 (by simp only [List.length_cons, List.length_nil]; omega)
section
variable {w : World} (hw : Zay gl w) (t : Int) (nm : List UInt8) (A B C D I : Int) (mod : ByteArray) (s x : Int) {v1 : Value}
include hw
theorem law_by {his : AV} {cv : Value} {os : List AObj} {ex : List MEnt} {o : Orc} (h1 : VRel (Zc2 12 0 ++ ex) (insV nm A B C D I) v1) (hl : ex.length = os.length) (hro : ∀ o ∈ os, o.isRo = true) (ho : ∀ (j : Nat) m o, ex[j]? = some m → os[j]? = some o → ORel [] m w o) (hh : VRel (Zc2 12 0 ++ ex) his cv)
    (h : goL oaC obC ocC t nm A B C D I mod.data.toList s x his os o = some (.bool true)) : Calls Tryz.prog 3 #[.int .i64 t, v1, .string mod, .int .i64 s, cv, .int .u64 x] w fun e w' => e = .returned (.bool true) ∧ Keeps w w' := by
  obtain ⟨u, H1, e1, e2⟩ := ret_ofO (E := ELc) (n := 100000) (f := 3) (args := [.int .i64 t, insV nm A B C D I, .str mod.data.toList, .int .i64 s, his, .int .u64 x]) (H := mkH 12 os) h
  exact view_law (E := ELc) (n := 100000) (args := [.int .i64 t, insV nm A B C D I, .str mod.data.toList, .int .i64 s, his, .int .u64 x]) (cargs := [.int .i64 t, v1, .string mod, .int .i64 s, cv, .int .u64 x]) el_ok el_fn hw hl hro ho ⟨rfl, h1, (by simp [VRel]), rfl, hh, rfl, trivial⟩ e2 e1
end
theorem own : ownKnob Tryz.prog.godebug = none := by kernel_rfl
theorem laidOut : laidOutB Tryz.prog = true := by kernel_rfl
theorem maxlen_row : ((begin Tryz.prog (fun _ _ => 0) default).world.heap[0]?).bind Obj.row? = some (#[.int .i64 0], 3) := by kernel_rfl
theorem Zco : (Rows.relocAsksRow.laid.all fun x => x.2.handleName?.isNone) = true := by kernel_rfl
theorem asc_cells : cellsD Tryz.prog 3 283 Rows.laid_strings_asciiSpace = some ascL := by kernel_rfl
theorem asc_name : Tryz.prog.globalNamed "strings.asciiSpace" = some 1 := by kernel_rfl
theorem asc_type : (Tryz.prog.globals[1]?).map (·.type) = some 283 := by kernel_rfl
theorem err_name : Tryz.prog.globalNamed "strconv.ErrSyntax" = some 4 := by kernel_rfl
theorem err_type : (Tryz.prog.globals[4]?).map (·.type) = some 254 := by kernel_rfl
theorem rng_name : Tryz.prog.globalNamed "strconv.ErrRange" = some 5 := by kernel_rfl
theorem rng_type : (Tryz.prog.globals[5]?).map (·.type) = some 254 := by kernel_rfl
theorem err_iface : Tryz.prog.underlying 254 = some (.interface #[("Error", 277)]) := by kernel_rfl
theorem asc_mem : ("strings.asciiSpace", (Rows.laid_strings_asciiSpace : DataW Unit)) ∈ Rows.relocAsksRow.laid := (.tail _ (.tail _ (.tail _ (.tail _ (.tail _ (.tail _ (.tail _ (.head _))))))))
theorem err_mem : ("strconv.ErrSyntax", (Rows.laid_strconv_ErrSyntax : DataW Unit)) ∈ Rows.relocAsksRow.laid := (.tail _ (.tail _ (.tail _ (.tail _ (.tail _ (.head _))))))
theorem rng_mem : ("strconv.ErrRange", (Rows.laid_strconv_ErrRange : DataW Unit)) ∈ Rows.relocAsksRow.laid := (.tail _ (.tail _ (.tail _ (.tail _ (.head _)))))
theorem glob_of {W : World} (h : W.ShapedOpen Tryz.prog) (hl : laidMetH Tryz.prog Rows.relocAsksRow.laid W) : Zay gl W := by
  intro g av hm
  rcases List.mem_cons.1 hm with hm | hm
  · have e2 : g = 0 := congrArg Prod.fst hm
    have e3 : av = [.opq (some .i64)] := congrArg Prod.snd hm
    rw [e2, e3]
    exact glob_some h (by decide) maxlen_row rfl (lays144.s1_3 W h)
  rcases List.mem_cons.1 hm with hm | hm
  · have e2 : g = 1 := congrArg Prod.fst hm
    have e3 : av = ascL := congrArg Prod.snd hm
    rw [e2, e3]
    obtain ⟨cs, e, lo, hi, a1, a2⟩ := laid_cells hl Zco asc_mem asc_name asc_type asc_cells
    exact ⟨cs, e, lo, hi, a1, a2⟩
  rcases List.mem_cons.1 hm with hm | hm
  · have e2 : g = 4 := congrArg Prod.fst hm
    have e3 : av = [.opq none] := congrArg Prod.snd hm
    rw [e2, e3]
    obtain ⟨cs, e, lo, hi, a1, a2⟩ := laid_opq hl Zco err_mem err_name err_type err_iface
    exact ⟨cs, e, lo, hi, a1, a2⟩
  have e1 : (g, av) = (5, [.opq none]) := List.mem_singleton.1 hm
  have e2 : g = 5 := congrArg Prod.fst e1
  have e3 : av = [.opq none] := congrArg Prod.snd e1
  rw [e2, e3]
  obtain ⟨cs, e, lo, hi, a1, a2⟩ := laid_opq hl Zco rng_mem rng_name rng_type err_iface
  exact ⟨cs, e, lo, hi, a1, a2⟩
theorem ins_flat : flatT Tryz.prog 3 23 = some [.str, .int .i64, .int .i64, .int .i64, .int .i64, .int .i64] := by kernel_rfl
theorem hi_flat : flatT Tryz.prog 3 41 = some [.int .u64, .int .u64] := by kernel_rfl
theorem hi_cells : Tryz.prog.cellsOf 41 = 2 := by kernel_rfl
theorem ins_of {avs : List AV} (hs : Zcm [.str, .int .i64, .int .i64, .int .i64, .int .i64, .int .i64] avs) {v : Value} (h1 : Zaj [] avs v.cells.toList) (hagg : ∃ cs, v = .agg cs) : ∃ nm A B C D I, ∀ M, VRel M (insV nm A B C D I) v := by
  obtain ⟨cs, rfl⟩ := hagg
  obtain ⟨b0, r0, f0, g0, hs⟩ := hs.cons_inv
  obtain ⟨b1, r1, f1, g1, hs⟩ := hs.cons_inv
  obtain ⟨b2, r2, f2, g2, hs⟩ := hs.cons_inv
  obtain ⟨b3, r3, f3, g3, hs⟩ := hs.cons_inv
  obtain ⟨b4, r4, f4, g4, hs⟩ := hs.cons_inv
  obtain ⟨b5, r5, f5, g5, hs⟩ := hs.cons_inv
  have f6 := hs.nil_inv
  obtain ⟨s, e0⟩ := CK.str_inv g0
  obtain ⟨x1, e1⟩ := CK.int_inv g1
  obtain ⟨x2, e2⟩ := CK.int_inv g2
  obtain ⟨x3, e3⟩ := CK.int_inv g3
  obtain ⟨x4, e4⟩ := CK.int_inv g4
  obtain ⟨x5, e5⟩ := CK.int_inv g5
  subst e0; subst e1; subst e2; subst e3; subst e4; subst e5; subst f6; subst f5; subst f4; subst f3; subst f2; subst f1; subst f0
  exact ⟨s, x1, x2, x3, x4, x5, fun M => ⟨cs.toList, by simp, Zaj.mono List.nil_prefix h1⟩⟩
theorem relocAsks_params : (Tryz.f3.params.toList.all fun t => Tryz.prog.readableRec t && decide (t < Tryz.prog.types.size)) = true := by kernel_rfl
theorem agg_of {w : World} {base : Nat} {v : Value} (h : Value.okWide Tryz.prog w .any base 23 v) : ∃ cs, v = .agg cs := by
  simp only [Value.okWide, Tryz.underlying23] at h
  obtain ⟨cs, rfl, _⟩ := h
  exact ⟨cs, rfl⟩
theorem trodAll_six {H : Type} {enc : TypeId × Value → H} {P : Program} {w : World} {base : Nat} {spare : Nat → Bool} {held : Bool} {a b c d e f : TypeId} {args : Array Value} {ds : List (DataW H)} {ps : List MemPlace} (h : DataW.TrodAll enc P w base spare held [a, b, c, d, e, f] args.toList ds ps) : ∃ v0 v1 v2 v3 v4 v5 d0 d1 d2 d3 d4 d5 p0 p1 p2 p3 p4 p5, args = #[v0, v1, v2, v3, v4, v5] ∧ ds = [d0, d1, d2, d3, d4, d5] ∧ ps = p0 ++ p1 ++ p2 ++ p3 ++ p4 ++ p5 ∧ DataW.Trod enc P w base spare held a v0 d0 p0 ∧ DataW.Trod enc P w base spare held b v1 d1 p1 ∧ DataW.Trod enc P w base spare held c v2 d2 p2 ∧ DataW.Trod enc P w base spare held d v3 d3 p3 ∧ DataW.Trod enc P w base spare held e v4 d4 p4 ∧ DataW.Trod enc P w base spare held f v5 d5 p5 := by
  obtain ⟨v0, l0, d0, k0, p0, q0, hargs, rfl, rfl, h0, r0⟩ := trodAll_cons h
  obtain ⟨v1, l1, d1, k1, p1, q1, rfl, rfl, rfl, h1, r1⟩ := trodAll_cons r0
  obtain ⟨v2, l2, d2, k2, p2, q2, rfl, rfl, rfl, h2, r2⟩ := trodAll_cons r1
  obtain ⟨v3, l3, d3, k3, p3, q3, rfl, rfl, rfl, h3, r3⟩ := trodAll_cons r2
  obtain ⟨v4, l4, d4, k4, p4, q4, rfl, rfl, rfl, h4, r4⟩ := trodAll_cons r3
  obtain ⟨v5, l5, d5, k5, p5, q5, rfl, rfl, rfl, h5, r5⟩ := trodAll_cons r4
  obtain ⟨rfl, rfl, rfl⟩ := trodAll_nil r5
  exact ⟨v0, v1, v2, v3, v4, v5, d0, d1, d2, d3, d4, d5, p0, p1, p2, p3, p4, p5, by cases args; simp_all, rfl, by simp, h0, h1, h2, h3, h4, h5⟩
theorem relocAsks_lifted (os : Os) (started : os.Started) (H : Type) (enc : TypeId × Value → H) :
    ReturnsInHanded {} Tryz.checked os 3 .any (fun w args => (Rows.relocAsksSpec.pre enc Tryz.prog Tryz.f3 [] false w args ∧ laidMetH Tryz.prog Rows.relocAsksRow.laid w) ∧ sizedMet enc Tryz.prog Tryz.f3 (OpenSpec.ofChange Rows.relocAsksSpec) false w args)
      (Rows.relocAsksSpec.post enc Tryz.prog Tryz.f3 false true false false) := by
  refine handed_shaped_and (C := Tryz.checked) (X := fun w _ => laidMetH Tryz.prog Rows.relocAsksRow.laid w) (fun _ _ _ hh h => h.of_heap hh) own started (by kernel_rfl) Tryz.func3
    (ChangeSpec.witness_shaped (enc := enc) (C := Tryz.checked) (os := os) (X := fun w _ => laidMetH Tryz.prog Rows.relocAsksRow.laid w) false (World.laidAll Tryz.prog os Rows.relocAsksRow.laid) #[.int .i64 0, .agg #[.string ⟨#[]⟩, .int .i64 0, .int .i64 0, .int .i64 0, .int .i64 0, .int .i64 0], .string ⟨#[]⟩, .int .i64 0, .slice none 0 0, .int .u64 0] 8 (World.laidAll_os _ _ _)
      (World.shaped_of_ZipB (by kernel_rfl) (by kernel_rfl)) (by kernel_rfl) (by kernel_rfl) (by kernel_rfl)
      (by rw [MakeChecks.laidMetH_plain _ _ _ Zco]; exact laidMet_laidAll _ (by kernel_rfl) (by kernel_rfl))) ?_
  intro W base args ds gs before hval0 hW _ _ hL hsh _
  have hval : ∀ (j : Nat) t v, Tryz.f3.params[j]? = some t → args[j]? = some v → Value.okWide Tryz.prog W .any base t v := hval0
  have hW' := hW
  obtain ⟨p, q, hA0, hV, rfl, _, _⟩ := hW
  have hA : DataW.TrodAll enc Tryz.prog W 0 (fun _ => true) true Tryz.f3.params.toList args.toList ds p := hA0
  rw [Tryz.params3] at hA hval
  obtain ⟨v0, v1, v2, v3, v4, v5, d0, d1, d2, d3, d4, d5, p0, p1, p2, p3, p4, p5, rfl, rfl, rfl, h0, h1, h2, h3, h4, h5⟩ := trodAll_six hA
  obtain ⟨rfl, rfl⟩ := trodVars_none hV
  obtain ⟨t, rfl, _, _, _⟩ := open_int Tryz.underlying3 (hval 0 3 v0 rfl rfl) h0
  obtain ⟨avs, s1, s2⟩ := open_flat ins_flat h1
  obtain ⟨nm, A, B, C, D, I, q1⟩ := ins_of s1 s2 (agg_of (hval 1 23 v1 rfl rfl))
  obtain ⟨mod, rfl, _, _, _⟩ := ChangeMaps.open_string Tryz.underlying9 (hval 2 9 v2 rfl rfl) h2
  obtain ⟨s, rfl, _, _, _⟩ := open_int Tryz.underlying3 (hval 3 3 v3 rfl rfl) h3
  obtain ⟨x, rfl, _, _, _⟩ := open_int Tryz.underlying25 (hval 5 25 v5 rfl rfl) h5
  have hw := glob_of hsh hL
  have fin : Calls Tryz.prog 3 #[.int .i64 t, v1, .string mod, .int .i64 s, v4, .int .u64 x] W fun e w' => e = .returned (.bool true) ∧ Keeps W w' := by
    rcases arg_rowF Tryz.underlying24 hi_flat hi_cells (by decide) (hval 4 24 v4 rfl rfl) h4 with rfl | ⟨a, cap, rfl⟩ | ⟨len, cap, vs, m, hl0, ⟨a, ha⟩, hlc, hs, hrel, hv⟩
    · exact law_by hw t nm A B C D I mod s x (ex := []) (os := []) (q1 _) rfl (fun o ho => by cases ho) (fun j m o e => by simp at e) (his := .nils) rfl ((law_nil ..).trans (lawR_ok ..))
    · exact law_by hw t nm A B C D I mod s x (ex := []) (os := []) (q1 _) rfl (fun o ho => by cases ho) (fun j m o e => by simp at e) (his := .sl0) ⟨a, cap, rfl⟩ ((law_zero ..).trans (lawR_ok ..))
    · have hx : (Zc2 12 0 ++ [m])[12]? = some m := by
        rw [List.getElem?_append_right (by rw [Zbz]; omega), Zbz]; rfl
      have ho : ∀ (os : List AObj) (ob : AObj), os = [ob] → ORel [] m W ob → ∀ (j : Nat) m2 o2, [m][j]? = some m2 → os[j]? = some o2 → ORel [] m2 W o2 := fun os ob e hr j m2 o2 e1 e2 => by
        subst e
        match j, e1, e2 with
        | 0, e1, e2 => cases e1; cases e2; exact hr
        | j + 1, e1, e2 => simp at e1
      by_cases hn : len ≤ 60
      · obtain ⟨ps, e1, e2⟩ := pairs_of len vs hs
        have key := law_all oaC obC ocC t nm A B C D I mod.data.toList s x len hn (fun i => (ps.getD i (0, 0)).1) (fun i => (ps.getD i (0, 0)).2) (len * 2) cap
        have e3 : psN (fun i => (ps.getD i (0, 0)).1) (fun i => (ps.getD i (0, 0)).2) len = ps := by rw [← e1]; exact psN_of ps
        rw [e3, ← e2] at key
        exact law_by hw t nm A B C D I mod s x (ex := [m]) (os := [.cells (len * 2) (Tr.nil.putAll 0 vs) 0 none 0 true false]) (q1 _) rfl (fun o ho => by cases List.mem_singleton.1 ho; rfl) (ho _ _ rfl hrel) (his := .sl 12 0 len (some cap)) (hv _ _ hx) (key.trans (lawR_ok ..))
      · have hb : Nat.blt 60 len = true := by rw [Nat.blt_eq]; omega
        exact law_by hw t nm A B C D I mod s x (ex := [m]) (os := [.cells (len * 2) (Tr.nil.putAll 0 vs) 0 none 0 true false]) (q1 _) rfl (fun o ho => by cases List.mem_singleton.1 ho; rfl) (ho _ _ rfl hrel) (his := .sl 12 0 len (some cap)) (hv _ _ hx) ((law_big ..).trans (by rw [hb]; rfl))
  refine fin.mono fun e W' ⟨he, hk⟩ => ?_
  subst he
  exact ⟨_, rfl, law_post laidOut relocAsks_params rfl Tryz.underlying4 rfl ⟨rfl, by simp [Rows.relocAsksSpec], rfl⟩ hW' hk.below⟩
end
end Go.Proofs.YtbfdooplkdofeaaGreatDoor
