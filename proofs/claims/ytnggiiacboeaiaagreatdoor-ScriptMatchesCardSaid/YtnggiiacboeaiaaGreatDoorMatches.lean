/- The call of 'foundrylaw21.ScriptMatches', from any input: it answers true and leaves all that was there as it was. -/
import Derived.Test.YtnggiiacboeaiaaGreatDoorMatchesTrees
import Derived.Test.YtnggiiacboeaiaaGreatDoorTie
import Derived.Test.YtnggiiacboeaiaaGreatDoorCards
import Derived.Test.YtnggiiacboeaiaaGreatDoorVaiLaid
import Derived.WalkKit
import Derived.ProofKit
import Derived.Lay
import Derived.LaidOnce
import Derived.SevenTiedAt
namespace Go.Proofs.YtnggiiacboeaiaaGreatDoor
open Go Go.Vai Go.RowKit Go.ChangeShapes Go.WideShapes Go.ChangeAt
set_option maxRecDepth 100000
/-- What is known of an argument: its first cells are strings. -/
def StrRow : RA → Prop
  | .row len _ q T => q = 1 ∧ PlainT T ∧ ∀ i, i < len → i < 12 → ∃ s, T.get i = some (.str s)
  | _ => True
theorem StrRow.plain {x : RA} (h : StrRow x) {keep : List Nat} : RObj 0 keep x.obj x.obj := by
  cases x with
  | nil => exact robj_plain fun i v h => by simp [Tr.get_nil] at h
  | none0 => exact robj_plain fun i v h => by simp [Tr.get_nil] at h
  | row len cap q T => exact robj_plain h.2.1
theorem rowsM {x y : RA} (hx : StrRow x) (hy : StrRow y) {keep : List Nat} : ∀ (j : Nat) o o2, [x.obj, y.obj][j]? = some o → [x.obj, y.obj][j]? = some o2 → RObj 0 keep o o2 := by
  intro j o o2 h1 h2
  rw [h1] at h2; cases h2
  have := List.mem_of_getElem? h1
  simp only [List.mem_cons, List.not_mem_nil, or_false] at this
  rcases this with rfl | rfl
  · exact hx.plain
  · exact hy.plain
theorem rows0 {keep : List Nat} : ∀ (j : Nat) (o o2 : AObj), ([] : List AObj)[j]? = some o → ([] : List AObj)[j]? = some o2 → RObj 0 keep o o2 := fun j o o2 h => by simp at h

theorem m0_all {x y : RA} (hx : StrRow x) (hy : StrRow y) : codesKK E3 cl3 ((flat fn3.body).take 4) (leafK 8 SM kpm) (newFr fn3 [x.av 8, y.av 9]) (hM x y) = lf .normal 64 ((vM x y 0).map some) ([x.obj, y.obj].map some) := by
  cases x with
  | nil => cases y with
    | nil => exact m0nn_eq
    | none0 => exact m0ne_eq
    | row n c q T => obtain ⟨rfl, _⟩ := hy; exact m0nr_eq n c T
  | none0 => cases y with
    | nil => exact m0en_eq
    | none0 => exact m0ee_eq
    | row n c q T => obtain ⟨rfl, _⟩ := hy; exact m0er_eq n c T
  | row n c q T =>
    obtain ⟨rfl, _⟩ := hx
    cases y with
    | nil => exact m0rn_eq n c T
    | none0 => exact m0re_eq n c T
    | row n2 c2 q T2 => obtain ⟨rfl, _⟩ := hy; exact m0rr_eq n c T n2 c2 T2
theorem m1_out {x y : RA} (hx : StrRow x) (hy : StrRow y) {i : Nat} (hi : ¬ (i < x.len ∧ i < 12)) : codesKK E3 cl3 ((flat (codeAt [4, 0] fn3.body)).take 2) (leafK 8 SM kpm) (mkFr 64 SM (vM x y i)) (hM x y) = lf (.exit 0) 64 ((vM x y i).map some) ([x.obj, y.obj].map some) := by
  cases x with
  | nil => cases y with
    | nil => exact m1nn_eq i
    | none0 => exact m1ne_eq i
    | row n c q T => obtain ⟨rfl, _⟩ := hy; exact m1nr_eq n c T i
  | none0 => cases y with
    | nil => exact m1en_eq i
    | none0 => exact m1ee_eq i
    | row n c q T => obtain ⟨rfl, _⟩ := hy; exact m1er_eq n c T i
  | row n c q T =>
    obtain ⟨rfl, _⟩ := hx
    have pick : ∀ {a b : Option Leaf}, bc (Nat.blt i n) (bc (Nat.blt i 12) a b) b = b := by
      intro a b
      by_cases h1 : i < n
      · rw [blt_t h1, bc_true, blt_f (fun h => hi ⟨h1, h⟩), bc_false]
      · rw [blt_f h1, bc_false]
    cases y with
    | nil => exact (m1rn_eq n c T i).trans pick
    | none0 => exact (m1re_eq n c T i).trans pick
    | row n2 c2 q T2 => obtain ⟨rfl, _⟩ := hy; exact (m1rr_eq n c T n2 c2 T2 i).trans pick
theorem m1_in {n c : Nat} {T : Tr AV} {y : RA} (hy : StrRow y) {i : Nat} (h1 : i < n) (h2 : i < 12) : codesKK E3 cl3 ((flat (codeAt [4, 0] fn3.body)).take 2) (leafK 8 SM kpm) (mkFr 64 SM (vM (.row n c 1 T) y i)) (hM (.row n c 1 T) y) = lf .normal 64 ((vM (.row n c 1 T) y i).map some) ([RA.obj (.row n c 1 T), y.obj].map some) := by
  have pick : ∀ {a b d : Option Leaf}, bc (Nat.blt i n) (bc (Nat.blt i 12) a b) d = a := by
    intro a b d
    rw [blt_t h1, bc_true, blt_t h2, bc_true]
  cases y with
  | nil => exact (m1rn_eq n c T i).trans pick
  | none0 => exact (m1re_eq n c T i).trans pick
  | row n2 c2 q T2 => obtain ⟨rfl, _⟩ := hy; exact (m1rr_eq n c T n2 c2 T2 i).trans pick
theorem m2_all {n c : Nat} {T : Tr AV} {y : RA} (hy : StrRow y) {i : Nat} : codesKK E3 cl3 ((flat (codeAt [4, 0, 2] fn3.body)).take 1) (leafK 8 SN kpm) (mkFr 64 SM (vM (.row n c 1 T) y i)) (hM (.row n c 1 T) y) = lf .normal 64 ((vN (.row n c 1 T) y i 0).map some) ([RA.obj (.row n c 1 T), y.obj].map some) := by
  cases y with
  | nil => exact m2rn_eq n c T i
  | none0 => exact m2re_eq n c T i
  | row n2 c2 q T2 => obtain ⟨rfl, _⟩ := hy; exact m2rr_eq n c T n2 c2 T2 i
theorem m4_all {n c : Nat} {T : Tr AV} {y : RA} (hy : StrRow y) {i k : Nat} (hi : i < 12) : codesKK E3 cl3 ((flat (codeAt [4, 0] fn3.body)).drop 3) (leafK 8 SM kpm) (mkFr 64 SN (vN (.row n c 1 T) y i k)) (hM (.row n c 1 T) y) = lf .normal 64 ((vM (.row n c 1 T) y (i + 1)).map some) ([RA.obj (.row n c 1 T), y.obj].map some) := by
  have e := up_eq (k := i) (by omega)
  have turn : vM (.row n c 1 T) y (i + 1) = [RA.av 8 (.row n c 1 T), y.av 9, .int .i64 (up i)] := by rw [e]; rfl
  rw [turn]
  cases y with
  | nil => exact m4rn_eq n c T i k
  | none0 => exact m4re_eq n c T i k
  | row n2 c2 q T2 => obtain ⟨rfl, _⟩ := hy; exact m4rr_eq n c T n2 c2 T2 i k
theorem same_str (s : List UInt8) (H : AHeap) : sameV_w (.val (.str s) H) (.str s) = true := by simp [sameV_w, AV.eqb, leq_iff]
theorem same_int (k : IntKind) (n : Int) (H : AHeap) : sameV_w (.val (.int k n) H) (.int k n) = true := by simp [sameV_w, AV.eqb, ieq_iff, sameKind]
theorem same_sl (a b c d : Nat) (H : AHeap) : sameV_w (.val (.sl a b c (some d)) H) (.sl a b c (some d)) = true := by simp [sameV_w, AV.eqb]
theorem same_ptr (a b : Nat) (H : AHeap) : sameV_w (.val (.ptr a b) H) (.ptr a b) = true := by simp [sameV_w, AV.eqb]
theorem m3_out {n c : Nat} {T : Tr AV} {y : RA} (hy : StrRow y) {i k : Nat} (hk : ¬ (k < y.len ∧ k < 12)) : codeKK E3 cl3 (codeAt [4, 0, 2, 1, 0] fn3.body) (leafK 8 SN kpm) (mkFr 64 SN (vN (.row n c 1 T) y i k)) (hM (.row n c 1 T) y) = lf (.exit 2) 64 ((vN (.row n c 1 T) y i k).map some) ([RA.obj (.row n c 1 T), y.obj].map some) := by
  cases y with
  | nil => exact m3rn_eq n c T i k
  | none0 => exact m3re_eq n c T i k
  | row n2 c2 q T2 =>
    obtain ⟨rfl, _⟩ := hy
    refine (m3rr_eq n c T n2 c2 T2 i k).trans ?_
    by_cases h1 : k < n2
    · rw [blt_t h1, bc_true, blt_f (fun h => hk ⟨h1, h⟩), bc_false]; rfl
    · rw [blt_f h1, bc_false]; rfl
theorem m3_in {n c : Nat} {T : Tr AV} {n2 c2 : Nat} {T2 : Tr AV} (hx : StrRow (.row n c 1 T)) (hy : StrRow (.row n2 c2 1 T2)) {i k : Nat} (hi : i < n) (hi2 : i < 12) (hk : k < n2) (hk2 : k < 12) :
    codeKK E3 cl3 (codeAt [4, 0, 2, 1, 0] fn3.body) (leafK 8 SN kpm) (mkFr 64 SN (vN (.row n c 1 T) (.row n2 c2 1 T2) i k)) (hM (.row n c 1 T) (.row n2 c2 1 T2)) = lf .normal 64 ((vN (.row n c 1 T) (.row n2 c2 1 T2) i (k + 1)).map some) ([RA.obj (.row n c 1 T), RA.obj (.row n2 c2 1 T2)].map some) := by
  obtain ⟨g, hg⟩ := hx.2.2 i hi hi2
  obtain ⟨s, hs⟩ := hy.2.2 k hk hk2
  have e := up_eq (k := k) (by omega)
  have turn : lf .normal 64 ((vN (.row n c 1 T) (.row n2 c2 1 T2) i (k + 1)).map some) ([RA.obj (.row n c 1 T), RA.obj (.row n2 c2 1 T2)].map some) = lf (.normal) 64 [some (.sl 8 0 n (some c)), some (.sl 9 0 n2 (some c2)), some (.int .i64 (Int.ofNat i)), some (.int .i64 (up k))] [some (.cells (n.mul 1) T 0 none 0 true false), some (.cells (n2.mul 1) T2 0 none 0 true false)] := by rw [e]; rfl
  rw [turn]
  refine (m3rr_eq n c T n2 c2 T2 i k).trans ?_
  simp only [blt_t hk, blt_t hk2, blt_t hi, bc_true, at1_eq, hg, hs, isS, asS]
  cases h1 : (!ilt (Int.ofNat 300) (Int.ofNat (lenU g))) with
  | false => rw [bc_false]
  | true =>
    rw [bc_true]
    cases h2 : (!ilt (Int.ofNat 300) (Int.ofNat (lenU s))) with
    | false => rw [bc_false]
    | true =>
      have l1 : lenU g ≤ 300 := by
        rw [ilt_iff] at h1; simp at h1; omega
      have l2 : lenU s ≤ 300 := by
        rw [ilt_iff] at h2; simp at h2; omega
      have b1 : Nat.blt (lenU s) 100000 = true := blt_t (by omega)
      have b2 : Nat.ble (lenU g) 100000 = true := ble_t (by omega)
      simp only [b1, b2, bc_true, same_str, same_int, same_sl, same_ptr, decide_true, Bool.not_true, bc_false]

section
variable {P : Program} {I : List MEnt → AHeap → World → Prop} {ro : Option Nat}
theorem m_inner (hE : EnvOk E3 P I) (hI : Carried I) {n c : Nat} {T : Tr AV} {y : RA} (hx : StrRow (.row n c 1 T)) (hy : StrRow y) {i : Nat} (hi : i < n) (hi2 : i < 12) :
    Tri E3 P I ro (codeAt [4, 0, 2] fn3.body) (mkFr 64 SM (vM (.row n c 1 T) y i)) (hM (.row n c 1 T) y) fun e fr H => e = .normal ∧ ∃ k, Ren 8 kpm fr H (mkFr 64 SN (vN (.row n c 1 T) y i k)) (hM (.row n c 1 T) y) := by
  refine tri_of_triL _ ?_
  rw [flat3c]
  refine TriL.leafXC hE hI cl3_ok (m2_all hy) (by decide) rfl rfl (rowsM hx hy) (.inl ⟨rfl, ?_⟩)
  refine Tri.mono (Tri.block (Q := fun e fr H => e = .normal ∧ ∃ k, Ren 8 kpm fr H (mkFr 64 SN (vN (.row n c 1 T) y i k)) (hM (.row n c 1 T) y)) ?_) ?_
  · refine Tri.loop (X := Nat) (fr := fun k => mkFr 64 SN (vN (.row n c 1 T) y i k)) (H := fun _ => hM (.row n c 1 T) y) (Inv := fun k => k ≤ 12) (fun k => 12 - k) hI ?_ 0 (Nat.zero_le _)
    intro k hk
    by_cases h : k < y.len ∧ k < 12
    · cases y with
      | nil => exact absurd h.1 (Nat.not_lt_zero _)
      | none0 => exact absurd h.1 (Nat.not_lt_zero _)
      | row n2 c2 q T2 =>
        have hq := hy.1
        subst hq
        exact Tri.leafC hE cl3_ok (m3_in hx hy hi hi2 h.1 h.2) (by decide) rfl rfl (rowsM hx hy) fun fr' H' r => .inl ⟨rfl, k + 1, kpm, h.2, by omega, r⟩
    · exact Tri.leafC hE cl3_ok (m3_out hy h) (by decide) rfl rfl (rowsM hx hy) fun fr' H' r => .inr ⟨(by intro h; cases h), rfl, k, r⟩
  · rintro e fr H ⟨rfl, k, r⟩
    exact .inl ⟨rfl, TriL.nil ⟨rfl, k, r⟩⟩
theorem m_whole (hE : EnvOk E3 P I) (hI : Carried I) {x y : RA} (hx : StrRow x) (hy : StrRow y) : Tri E3 P I ro fn3.body (newFr fn3 [x.av 8, y.av 9]) (hM x y) fun e fr _ => (e = .normal ∨ e = .ret) ∧ fr.df = [] ∧ fr.t.get 4 = some (.bool true) := by
  refine tri_of_triL _ ?_
  rw [flat3]
  refine TriL.leafXC hE hI cl3_ok (m0_all hx hy) (by decide) rfl rfl (rowsM hx hy) (.inl ⟨rfl, ?_⟩)
  refine Tri.mono (Tri.block (Q := fun e fr H => e = .normal ∧ ∃ i, Ren 8 kpm fr H (mkFr 64 SM (vM x y i)) (hM x y)) ?_) ?_
  · refine Tri.loop (X := Nat) (fr := fun i => mkFr 64 SM (vM x y i)) (H := fun _ => hM x y) (Inv := fun i => i ≤ 12) (fun i => 12 - i) hI ?_ 0 (Nat.zero_le _)
    intro i hi
    refine tri_of_triL _ ?_
    rw [flat3b]
    by_cases h : i < x.len ∧ i < 12
    · cases x with
      | nil => exact absurd h.1 (Nat.not_lt_zero _)
      | none0 => exact absurd h.1 (Nat.not_lt_zero _)
      | row n c q T =>
        have hq := hx.1
        subst hq
        refine TriL.leafXC hE hI cl3_ok (m1_in hy h.1 h.2) (by decide) rfl rfl (rowsM hx hy) (.inl ⟨rfl, ?_⟩)
        refine Tri.mono (Tri.block (Q := fun e fr H => e = .normal ∧ ∃ k, Ren 8 kpm fr H (mkFr 64 SN (vN (.row n c 1 T) y i k)) (hM (.row n c 1 T) y)) ((m_inner hE hI hx hy h.1 h.2).mono ?_)) ?_
        · rintro e fr H ⟨rfl, h⟩
          exact ⟨rfl, h⟩
        · rintro e fr H ⟨rfl, k, r⟩
          refine .inl ⟨rfl, TriL.ren hI r ?_⟩
          exact TriL.leafC hE cl3_ok (m4_all hy h.2) (by decide) rfl rfl (rowsM hx hy) fun fr' H' r => .inl ⟨rfl, i + 1, kpm, h.2, by omega, r⟩
    · exact TriL.leafXC hE hI cl3_ok (m1_out hx hy h) (by decide) rfl rfl (rowsM hx hy) (.inr ⟨(by intro h; cases h), fun fr' H' r => .inr ⟨(by intro h; cases h), rfl, i, r⟩⟩)
  · rintro e fr H ⟨rfl, i, r⟩
    refine .inl ⟨rfl, TriL.ren hI r ?_⟩
    have e : codesKK E3 cl3 ((flat fn3.body).drop 5) (leafK 8 [4] [0, 1, 2, 3, 4, 5, 6, 7]) (mkFr 64 SM (vM x y i)) (hM x y) = lf .ret 64 ([.bool true].map some) ([].map some) := m5_eq x y i
    exact TriL.leafC hE cl3_ok e (by decide) rfl rfl rows0 fun fr' H' r => ⟨.inr rfl, r.df.1, by
      obtain ⟨z, h1, h2⟩ := r.t 4 (.bool true) rfl
      rw [h1, rnV_bool h2]⟩
end

theorem str_flat : flatT Tryz.prog 3 9 = some [.str] := by kernel_rfl
theorem str_cells : Tryz.prog.cellsOf 9 = 1 := by kernel_rfl
theorem strRow_of {x : RA} (h : x.Ok [.str]) : StrRow x := by
  cases x with
  | nil => trivial
  | none0 => trivial
  | row len cap q T =>
    obtain ⟨hq, _, vs, ⟨hl, hs⟩, rfl⟩ := h
    have one : ∀ i, i < len → ∃ s, vs[i]? = some (.str s) := fun i hi => by
      have h1 := hs i hi
      have hv : vs[i]? = some (vs[i]'(by simp at hl; omega)) := List.getElem?_eq_getElem _
      simp only [List.length_cons, List.length_nil, Nat.zero_add, Nat.mul_one] at h1
      obtain ⟨a, r, e, g, _⟩ := h1.cons_inv
      obtain ⟨s, rfl⟩ := CK.str_inv g
      refine ⟨s, ?_⟩
      have := congrArg (·[0]?) e
      simpa [List.getElem?_take, List.getElem?_drop] using this
    refine ⟨hq, fun i v hv => ?_, fun i hi h12 => ?_⟩
    · have h1 := rowT_get hv
      have hi : i < vs.length := (List.getElem?_eq_some_iff.1 h1).1
      obtain ⟨s, e⟩ := one i (by simp at hl; omega)
      rw [h1] at e; cases e
      exact plain_str s
    · obtain ⟨s, e⟩ := one i hi
      exact ⟨s, by rw [rowT_at (by omega), e]⟩

theorem own : ownKnob Tryz.prog.godebug = none := by kernel_rfl
theorem pow_cells : cellsD Tryz.prog 3 199 Rows.laid_internal_strconv_uint64pow10 = some pow10 := by kernel_rfl
theorem pow_name : Tryz.prog.globalNamed "internal/strconv.uint64pow10" = some 1 := by kernel_rfl
theorem pow_type : (Tryz.prog.globals[1]?).map (·.type) = some 199 := by kernel_rfl
theorem laidOut : laidOutB Tryz.prog = true := by kernel_rfl
theorem glob_of {W : World} {laid : List (String × DataW Unit)} (hp : (laid.all fun x => x.2.handleName?.isNone) = true) (hm : ("internal/strconv.uint64pow10", (Rows.laid_internal_strconv_uint64pow10 : DataW Unit)) ∈ laid) (h : laidMetH Tryz.prog laid W) : GlobOk gl W := by
  intro g av hg
  have e1 : (g, av) = (1, pow10) := List.mem_singleton.1 hg
  have e2 : g = 1 := congrArg Prod.fst e1
  have e3 : av = pow10 := congrArg Prod.snd e1
  rw [e2, e3]
  obtain ⟨cs, e, lo, hi, a1, a2⟩ := laid_cells h hp hm pow_name pow_type pow_cells
  exact ⟨cs, e, lo, hi, a1, a2⟩
theorem scriptMatches_plain : (Rows.scriptMatchesRow.laid.all fun x => x.2.handleName?.isNone) = true := by kernel_rfl
theorem scriptMatches_mem : ("internal/strconv.uint64pow10", (Rows.laid_internal_strconv_uint64pow10 : DataW Unit)) ∈ Rows.scriptMatchesRow.laid := .tail _ (.tail _ (.head _))
theorem scriptMatches_params : (Tryz.f3.params.toList.all fun t => Tryz.prog.readableRec t && decide (t < Tryz.prog.types.size)) = true := by kernel_rfl
theorem scriptMatches_lifted (os : Os) (started : os.Started) (H : Type) (enc : TypeId × Value → H) :
    ReturnsInHanded {} Tryz.checked os 3 .any (fun w args => (Rows.scriptMatchesSpec.pre enc Tryz.prog Tryz.f3 [] false w args ∧ laidMetH Tryz.prog Rows.scriptMatchesRow.laid w) ∧ sizedMet enc Tryz.prog Tryz.f3 (OpenSpec.ofChange Rows.scriptMatchesSpec) false w args)
      (Rows.scriptMatchesSpec.post enc Tryz.prog Tryz.f3 false true false false) := by
  refine returnsInHanded_of_change_and (C := Tryz.checked) (X := fun w _ => laidMetH Tryz.prog Rows.scriptMatchesRow.laid w) (fun _ _ _ hh h => h.of_heap hh) own started (by kernel_rfl) Tryz.func3
    (ChangeSpec.witness_shaped (enc := enc) (C := Tryz.checked) (os := os) (X := fun w _ => laidMetH Tryz.prog Rows.scriptMatchesRow.laid w) false (World.laidAll Tryz.prog os Rows.scriptMatchesRow.laid) #[.slice none 0 0, .slice none 0 0] 8 (World.laidAll_os _ _ _)
      (World.shaped_of_ZipB (by kernel_rfl) (by kernel_rfl)) (by kernel_rfl) (by kernel_rfl) (by kernel_rfl)
      (by rw [MakeChecks.laidMetH_plain _ _ _ scriptMatches_plain]; exact laidMet_laidAll _ (by kernel_rfl) (by kernel_rfl))) ?_
  intro W base args ds gs before hval0 hW _ _ hL _
  have hval : ∀ (j : Nat) t v, Tryz.f3.params[j]? = some t → args[j]? = some v → Value.okWide Tryz.prog W .any base t v := hval0
  have hW' := hW
  obtain ⟨p, q, hA0, hV, rfl, _, _⟩ := hW
  have hA : DataW.TrodAll enc Tryz.prog W 0 (fun _ => true) true Tryz.f3.params.toList args.toList ds p := hA0
  rw [Tryz.params3] at hA hval
  obtain ⟨v0, v1, d0, d1, p0, p1, rfl, rfl, rfl, h0, h1⟩ := trodAll_two hA
  obtain ⟨rfl, rfl⟩ := trodVars_none hV
  have hw := glob_of scriptMatches_plain scriptMatches_mem hL
  obtain ⟨x, m, x1, x2, x3⟩ := arg_row (g := 1) (av := pow10) hw (List.mem_singleton.2 rfl) Tryz.underlying22 str_flat str_cells (by decide) (hval 0 22 v0 rfl rfl) h0
  obtain ⟨y, n, y1, y2, y3⟩ := arg_row (g := 1) (av := pow10) hw (List.mem_singleton.2 rfl) Tryz.underlying22 str_flat str_cells (by decide) (hval 1 22 v1 rfl rfl) h1
  have hro : ∀ z : RA, z.obj.isRo = true := fun z => by cases z <;> rfl
  refine (law_tri (E := E3) (gl := gl) (ex := [m, n]) (os := [x.obj, y.obj]) (args := [x.av 8, y.av 9]) (cargs := [v0, v1]) (b := true) (e3_ok W hw) fn3_eq res3 hw rfl (fun o ho => ?_) (fun j m' o hm ho => ?_) ⟨x3 _ 8 rfl, y3 _ 9 rfl, trivial⟩ (m_whole (e3_ok W hw) (kept_carried hw) (strRow_of x1) (strRow_of y1))).mono fun e W' ⟨he, hk⟩ => ?_
  · simp only [List.mem_cons, List.not_mem_nil, or_false] at ho
    rcases ho with rfl | rfl <;> exact hro _
  · match j, hm, ho with
    | 0, hm, ho => cases hm; cases ho; exact x2
    | 1, hm, ho => cases hm; cases ho; exact y2
    | j + 2, hm, _ => simp at hm
  · subst he
    exact ⟨_, rfl, law_post laidOut scriptMatches_params rfl Tryz.underlying4 rfl ⟨rfl, by simp [Rows.scriptMatchesSpec], rfl⟩ hW' hk.below⟩
end Go.Proofs.YtnggiiacboeaiaaGreatDoor
