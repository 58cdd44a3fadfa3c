/- A law's start from arguments that are slices of plain data. -/
import Derived.Test.YtopjbfgikglncaaGreatDoorVaiArgs
import Derived.Test.YtopjbfgikglncaaGreatDoorVaiClose
namespace Go.Vai
noncomputable section
/-- A slice that is handed in: nil, without elements, or a row of which T tells the cells. -/
inductive RA where
  | nil
  | none0
  | row (len cap q : Nat) (T : Tr AV)
def RA.av (id : Nat) : RA → AV
  | .nil => .nils
  | .none0 => .sl0
  | .row len cap _ _ => .sl id 0 len (some cap)
def RA.obj : RA → AObj
  | .nil => .cells 0 .nil 0 none 0 true false
  | .none0 => .cells 0 .nil 0 none 0 true false
  | .row len _ q T => .cells (len * q) T 0 none 0 true false
def RA.len : RA → Nat
  | .nil => 0
  | .none0 => 0
  | .row len _ _ _ => len
/-- The cells of a row, up to 100,000 of them. -/
def rowT (vs : List AV) : Tr AV := Tr.nil.putAll 0 (vs.take 100000)
theorem rowT_get {vs : List AV} {i : Nat} {v : AV} (h : (rowT vs).get i = some v) : vs[i]? = some v := by
  rcases Tr.get_putAll _ h with ⟨q, rfl, hq⟩ | ⟨_, hu⟩
  · rw [List.getElem?_take] at hq
    split at hq
    · simpa using hq
    · cases hq
  · simp [Tr.get_nil] at hu
theorem rowT_at {vs : List AV} {i : Nat} (h : i < 100000) : (rowT vs).get i = vs[i]? := by
  have hl : (vs.take 100000).length ≤ 100000 := by rw [List.length_take]; omega
  unfold rowT
  rw [Tr.get_putAll_eq _ _ _ _ (by omega)]
  by_cases hi : i < vs.length
  · rw [if_pos (by rw [List.length_take]; omega), Nat.sub_zero, List.getElem?_take, if_pos h]
  · rw [if_neg (by rw [List.length_take]; omega), Tr.get_nil, List.getElem?_eq_none (by omega)]

section
variable {H : Type} {enc : TypeId × Value → H} {P : Program} {w : World} {base : Nat} {spare : Nat → Bool} {held : Bool}
/-- What is known of such an argument. -/
def RA.Ok (ks : List CK) : RA → Prop
  | .row len _ q T => q = ks.length ∧ 0 < len ∧ ∃ vs, ShapesN ks len vs ∧ T = rowT vs
  | _ => True
theorem arg_row {t e : TypeId} {ks : List CK} {v : Value} {d : DataW H} {ps : List MemPlace} {dd : Nat} {gl : List (Nat × List AV)} {g : Nat} {av : List AV} (hw : GlobOk gl w) (hg : (g, av) ∈ gl) (hu : P.underlying t = some (.slice e)) (hk : flatT P dd e = some ks) (hc : P.cellsOf e = ks.length) (hpos : 0 < ks.length)
    (hv : Value.okWide P w .any 0 t v) (hd : DataW.Trod enc P w base spare held t v d ps) : ∃ (x : RA) (m : MEnt), x.Ok ks ∧ ORel [] m w x.obj ∧ ∀ M id, M[id]? = some m → VRel M (x.av id) v := by
  have dummy : ORel [] ⟨g, 0, 0, 0⟩ w (.cells 0 .nil 0 none 0 true false) := by
    obtain ⟨cs, e, lo, hi, h1, _⟩ := hw g av hg
    exact ⟨cs, e, lo, hi, h1, (fun e => by cases e), by simp, (fun gs e => by cases e), (fun e => by cases e), (fun e => by cases e), fun i v h => by simp [Tr.get_nil] at h⟩
  rcases open_row hu hk hc hpos hv hd with rfl | ⟨a, cap, rfl⟩ | ⟨b, off, len, cap, vs, rfl, hl, _, _, hs, cur, e', lo, hi, hh, hsz, hr⟩
  · exact ⟨.nil, _, trivial, dummy, fun M id hm => rfl⟩
  · exact ⟨.none0, _, trivial, dummy, fun M id hm => ⟨_, _, rfl⟩⟩
  · refine ⟨.row len cap ks.length (rowT vs), ⟨b, off, 0, 0⟩, ⟨rfl, hl, vs, hs, rfl⟩, ⟨cur, e', lo, hi, hh, (fun e => by cases e), hsz, (fun gs e => by cases e), (fun e => by cases e), (fun e => by cases e), fun i v h => ?_⟩, fun M id hm => ⟨⟨b, off, 0, 0⟩, cap, hm, by simp, (fun d e => by cases e; rfl), fun e => by cases e⟩⟩
    have hv := rowT_get h
    have hi : i < vs.length := (List.getElem?_eq_some_iff.1 hv).1
    rw [hs.1] at hi
    obtain ⟨cv, c1, c2⟩ := hr.get i v hv
    refine ⟨hi, cv, ?_, c2⟩
    rw [List.getElem?_take, if_pos hi, List.getElem?_drop] at c1
    simpa using c1
end

section
variable {P : Program} {E : Env} {gl : List (Nat × List AV)} {w : World}
theorem start_rel {ng : Nat} {ex : List MEnt} {os : List AObj} (hl : ex.length = os.length) (hro : ∀ o ∈ os, o.isRo = true) (ho : ∀ (j : Nat) m o, ex[j]? = some m → os[j]? = some o → ORel [] m w o) : HRel (mGlob ng 0 ++ ex) (mkH ng os) w := by
  have at_ : ∀ j, (mGlob ng 0 ++ ex)[ng + j]? = ex[j]? := fun j => by
    rw [List.getElem?_append_right (by rw [mGlob_len]; omega), mGlob_len]; congr 1; omega
  refine ⟨?_, fun id o h => ?_, fun i j o p m k hi hj _ _ _ _ => ?_⟩
  · have e : (mkH ng os).next = ng + os.length := news_next os _
    rw [e, List.length_append, mGlob_len, hl]
  · obtain ⟨j, rfl, hj⟩ := mkH_get h
    have hjl := (List.getElem?_eq_some_iff.1 hj).1
    obtain ⟨m, hm⟩ : ∃ m, ex[j]? = some m := ⟨_, List.getElem?_eq_getElem (by omega)⟩
    exact ⟨m, by rw [at_, hm], (ho j m o hm hj).carry List.nil_prefix rfl⟩
  · obtain ⟨a, _, ha⟩ := mkH_get hi
    obtain ⟨b, _, hb⟩ := mkH_get hj
    exact ⟨hro o (List.mem_of_getElem? ha), hro p (List.mem_of_getElem? hb)⟩

/-- A law's call: the arguments' rows, to be read. -/
theorem law_tri {f : FuncId} {fn : AFunc} {t : Nat} {args : List AV} {cargs : List Value} {ex : List MEnt} {os : List AObj} {b : Bool} (hE : EnvOk E P (Kept gl w)) (hf : E.fn f = some fn) (hr : fn.results = [.tmp t]) (hw : GlobOk gl w)
    (hl : ex.length = os.length) (hro : ∀ o ∈ os, o.isRo = true) (ho : ∀ (j : Nat) m o, ex[j]? = some m → os[j]? = some o → ORel [] m w o) (ha : VRels (mGlob E.ng 0 ++ ex) args cargs)
    (h : Tri E P (Kept gl w) none fn.body (newFr fn args) (mkH E.ng os) fun e fr _ => (e = .normal ∨ e = .ret) ∧ fr.df = [] ∧ fr.t.get t = some (.bool b)) : Calls P f cargs.toArray w fun e w' => e = .returned (.bool b) ∧ Keeps w w' := by
  obtain ⟨Fn, hF⟩ := hE.fns f fn hf
  have hr0 := start_rel (ng := E.ng) hl hro ho
  have kp : Kept gl w (mGlob E.ng 0 ++ ex) (mkH E.ng os) w := ⟨hw, Keeps.refl w, fun b _ ⟨id, o, m, e, r, _⟩ => by
    obtain ⟨j, _, hj⟩ := mkH_get e
    rw [hro o (List.mem_of_getElem? hj)] at r; cases r⟩
  refine callsIn_wide.1 (callsIn_of_wp (n := 0) hF.at_ hF.body trivial ?_)
  refine wpIn_mono (h _ w _ ⟨hr0, (grel_glob E).mono (List.prefix_append _ _), kp⟩ (newFr_rel hF ha)) ?_
  rintro ex1 a1 w1 ⟨e, fr, H1, M1, ⟨he, hd, hb⟩, s1, er, f1⟩
  have hdf : a1.defers = [] := by
    have := f1.df
    rw [hd] at this
    generalize a1.defers = x at this ⊢
    cases this; rfl
  have hl : resA E fr.t H1 Fn.results.toList = some [.bool b] := by rw [hF.res, hr]; simp [resA, hb]
  obtain ⟨cv, r1, r2⟩ := results_sound hE.tys s1.hr f1.t hl
  have hcv : cv = .bool b := r2
  subst hcv
  rcases he with rfl | rfl
  · simp only [ERel] at er; subst er
    exact ⟨hdf, .bool b, r1, rfl, s1.i.2.1⟩
  · simp only [ERel] at er; subst er
    exact ⟨hdf, .bool b, r1, rfl, s1.i.2.1⟩
end
end
end Go.Vai
