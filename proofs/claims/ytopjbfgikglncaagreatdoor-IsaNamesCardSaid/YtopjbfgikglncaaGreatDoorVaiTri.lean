/- Triples over the interpreter's states, up to the names of objects: what a piece of code does from a state, loops by a relation and a measure. -/
import Derived.Test.YtopjbfgikglncaaGreatDoorVaiTop
namespace Go.Vai

/-! ### Names turned -/
def posOf (i : Nat) : List Nat → Nat → Option Nat
  | [], _ => none
  | j :: r, k => bif Nat.beq i j then some k else posOf i r (k + 1)
theorem posOf_at {i : Nat} : ∀ {l : List Nat} {k p : Nat}, posOf i l k = some p → k ≤ p ∧ l[p - k]? = some i := by
  intro l
  induction l with
  | nil => intro k p h; cases h
  | cons j l ih =>
    intro k p h
    simp only [posOf, Bool.cond_eq_ite, Nat.beq_eq] at h
    split at h
    · rename_i e
      simp only [Option.some.injEq] at h; subst h; subst e
      simp
    · obtain ⟨a, b⟩ := ih h
      refine ⟨by omega, ?_⟩
      rw [show p - k = (p - (k + 1)) + 1 by omega]
      simpa using b

mutual
/-- A value, its names turned: the names of 'keep' are numbered anew. none: it bears a name that is not kept. -/
def rnV (b : Nat) (keep : List Nat) : AV → Option AV
  | .ptr i o => match posOf i keep b with | some k => some (.ptr k o) | none => none
  | .sl i o n c => match posOf i keep b with | some k => some (.sl k o n c) | none => none
  | .yld i => match posOf i keep b with | some k => some (.yld k) | none => none
  | .mapv i => match posOf i keep b with | some k => some (.mapv k) | none => none
  | .nilm => some .nilm
  | .opq => some .opq
  | .fn f x y => match rnVs b keep x, rnVs b keep y with | some x, some y => some (.fn f x y) | _, _ => none
  | .iface t x => match rnV b keep x with | some y => some (.iface t y) | none => none
  | .agg l => match rnVs b keep l with | some l => some (.agg l) | none => none
  | .tup l => match rnVs b keep l with | some l => some (.tup l) | none => none
  | .bool t => some (.bool t)
  | .int k n => some (.int k n)
  | .str s => some (.str s)
  | .nilp => some .nilp
  | .nils => some .nils
  | .sl0 => some .sl0
  | .nilf => some .nilf
  | .nili => some .nili
def rnVs (b : Nat) (keep : List Nat) : List AV → Option (List AV)
  | [] => some []
  | v :: vs => match rnV b keep v, rnVs b keep vs with | some a, some l => some (a :: l) | _, _ => none
end

/-- M' has, at the places of 'keep', what M has. -/
def MRen (b : Nat) (keep : List Nat) (M M' : List MEnt) : Prop := ∀ k i : Nat, keep[k]? = some i → M'[b + k]? = M[i]?
theorem posOf_ren {b : Nat} {keep : List Nat} {M M' : List MEnt} (hM : MRen b keep M M') {i k : Nat} (h : posOf i keep b = some k) : M'[k]? = M[i]? := by
  obtain ⟨h1, h2⟩ := posOf_at h
  have := hM (k - b) i h2
  rwa [show b + (k - b) = k by omega] at this

mutual
theorem rnV_rel {b : Nat} {keep : List Nat} {M M' : List MEnt} (hM : MRen b keep M M') : ∀ (v : AV) (u : AV) (cv : Value), rnV b keep v = some u → VRel M v cv → VRel M' u cv
  | .ptr i o, u, cv, h, r => by
    simp only [rnV] at h
    split at h
    · rename_i k hk
      cases h
      obtain ⟨m, hm, e2⟩ := r
      exact ⟨m, by rw [posOf_ren hM hk]; exact hm, e2⟩
    · cases h
  | .sl i o n c, u, cv, h, r => by
    simp only [rnV] at h
    split at h
    · rename_i k hk
      cases h
      obtain ⟨m, cc, hm, e2⟩ := r
      exact ⟨m, cc, by rw [posOf_ren hM hk]; exact hm, e2⟩
    · cases h
  | .yld i, u, cv, h, r => by
    simp only [rnV] at h
    split at h
    · rename_i k hk
      cases h
      obtain ⟨m, hm, e2⟩ := r
      exact ⟨m, by rw [posOf_ren hM hk]; exact hm, e2⟩
    · cases h
  | .fn f x y, u, cv, h, r => by
    simp only [rnV] at h
    split at h
    · rename_i a' b' ha hb
      cases h
      obtain ⟨fs, cs, e, r1, r2⟩ := r
      exact ⟨fs, cs, e, rnVs_rel hM _ _ _ ha r1, rnVs_rel hM _ _ _ hb r2⟩
    · cases h
  | .iface t x, u, cv, h, r => by
    simp only [rnV] at h
    split at h
    · rename_i y hy
      cases h
      obtain ⟨z, e, r1⟩ := r
      exact ⟨z, e, rnV_rel hM _ _ _ hy r1⟩
    · cases h
  | .agg l, u, cv, h, r => by
    simp only [rnV] at h
    split at h
    · rename_i l' hl
      cases h
      obtain ⟨vs, e, r1⟩ := r
      exact ⟨vs, e, rnVs_rel hM _ _ _ hl r1⟩
    · cases h
  | .tup l, u, cv, h, r => by
    simp only [rnV] at h
    split at h
    · rename_i l' hl
      cases h
      obtain ⟨vs, e, r1⟩ := r
      exact ⟨vs, e, rnVs_rel hM _ _ _ hl r1⟩
    · cases h
  | .mapv i, u, cv, h, r => by
    simp only [rnV] at h
    split at h
    · rename_i k hk
      cases h
      obtain ⟨m, hm, e2⟩ := r
      exact ⟨m, by rw [posOf_ren hM hk]; exact hm, e2⟩
    · cases h
  | .nilm, _, _, h, r => by cases h; exact r
  | .opq, _, _, h, r => by cases h; exact r
  | .bool _, _, _, h, r => by cases h; exact r
  | .int _ _, _, _, h, r => by cases h; exact r
  | .str _, _, _, h, r => by cases h; exact r
  | .nilp, _, _, h, r => by cases h; exact r
  | .nils, _, _, h, r => by cases h; exact r
  | .sl0, _, _, h, r => by cases h; exact r
  | .nilf, _, _, h, r => by cases h; exact r
  | .nili, _, _, h, r => by cases h; exact r
theorem rnVs_rel {b : Nat} {keep : List Nat} {M M' : List MEnt} (hM : MRen b keep M M') : ∀ (v : List AV) (u : List AV) (cv : List Value), rnVs b keep v = some u → VRels M v cv → VRels M' u cv
  | [], _, [], h, r => by cases h; exact r
  | [], _, _ :: _, _, r => r.elim
  | _ :: _, _, [], _, r => r.elim
  | a :: v, u, c :: cv, h, r => by
    simp only [rnVs] at h
    split at h
    · rename_i a' l' ha hl
      cases h
      exact ⟨rnV_rel hM _ _ _ ha r.1, rnVs_rel hM _ _ _ hl r.2⟩
    · cases h
end

/-- A trie's values, their names turned. -/
noncomputable def rnT (b : Nat) (keep : List Nat) : Tr AV → Option (Tr AV)
  | .nil => some .nil
  | .node v l r => match rnT b keep l, rnT b keep r with
    | some l', some r' => match v with
      | none => some (.node none l' r')
      | some x => match rnV b keep x with
        | some y => some (.node (some y) l' r')
        | none => none
    | _, _ => none
theorem rnT_get {b : Nat} {keep : List Nat} : ∀ (t u : Tr AV), rnT b keep t = some u → ∀ (i : Nat) (y : AV), u.get i = some y → ∃ x, t.get i = some x ∧ rnV b keep x = some y := by
  intro t
  induction t with
  | nil => intro u h i y hy; simp only [rnT, Option.some.injEq] at h; subst h; simp [Tr.get_nil] at hy
  | node v l r ihl ihr =>
    intro u h i y hy
    simp only [rnT] at h
    split at h
    case h_2 => cases h
    rename_i l' r' hl hr
    have sub : ∀ w : Option AV, u = .node w l' r' → (∀ y, w = some y → ∃ x, v = some x ∧ rnV b keep x = some y) → ∃ x, (Tr.node v l r).get i = some x ∧ rnV b keep x = some y := by
      intro w hu hw
      subst hu
      cases i with
      | zero => exact hw y hy
      | succ i =>
        simp only [Tr.get_succ] at hy ⊢
        cases hb : Nat.beq (i % 2) 0 with
        | true => rw [hb] at hy; exact ihl l' hl _ y hy
        | false => rw [hb] at hy; exact ihr r' hr _ y hy
    split at h
    · simp only [Option.some.injEq] at h
      exact sub none h.symm (fun y e => by cases e)
    · split at h
      · rename_i x z hz
        simp only [Option.some.injEq] at h
        exact sub (some z) h.symm (fun y e => by cases e; exact ⟨_, rfl, hz⟩)
      · cases h

/-- Values that bear no name. -/
def Plain (v : AV) : Prop := ∀ b keep, rnV b keep v = some v
def PlainT (t : Tr AV) : Prop := ∀ i v, t.get i = some v → Plain v

/-- A map's entries, their names turned. -/
def rnEs (b : Nat) (keep : List Nat) : List (AV × AV × Nat) → Option (List (AV × AV × Nat))
  | [] => some []
  | (k, v, c) :: es => match rnV b keep k, rnV b keep v, rnEs b keep es with
    | some k', some v', some es' => some ((k', v', c) :: es')
    | _, _, _ => none
theorem rnEs_rel {b : Nat} {keep : List Nat} {M M' : List MEnt} (hM : MRen b keep M M') : ∀ {es es' : List (AV × AV × Nat)} {ces : List MapEntry}, rnEs b keep es = some es' → EsRel M es ces → EsRel M' es' ces
  | [], _, [], h, _ => by cases h; trivial
  | (k, v, c) :: es, es', e :: ces, h, ⟨r1, r2, r3, r4⟩ => by
    simp only [rnEs] at h
    split at h
    · rename_i k' v' l hk hv hl
      cases h
      exact ⟨rnV_rel hM _ _ _ hk r1, rnV_rel hM _ _ _ hv r2, r3, rnEs_rel hM hl r4⟩
    · cases h
def rnMi (b : Nat) (keep : List Nat) : Option Nat → Option (Option Nat)
  | none => some none
  | some i => match posOf i keep b with | some k => some (some k) | none => none
theorem rnMi_rel {b : Nat} {keep : List Nat} {M M' : List MEnt} (hM : MRen b keep M M') {x y c : Option Nat} (h : rnMi b keep x = some y) (r : MiRel M x c) : MiRel M' y c := by
  cases x with
  | none => cases h; exact r
  | some i =>
    simp only [rnMi] at h
    split at h
    · rename_i k hk
      cases h
      obtain ⟨m, hm, e⟩ := r
      exact ⟨m, by rw [posOf_ren hM hk]; exact hm, e⟩
    · cases h
/-- How an object stands for another, names turned: a row of plain values as it is, or value by value. -/
def RObj (b : Nat) (keep : List Nat) : AObj → AObj → Prop
  | .cells n t e g fz ro mk, o => ∃ t', o = .cells n t' e g fz ro mk ∧ ∀ i y, t'.get i = some y → ∃ x, t.get i = some x ∧ rnV b keep x = some y
  | .loop st p n t ps as bo d, o => ∃ t' d', o = .loop st p n t' ps as bo d' ∧ posOf d keep b = some d' ∧ ∀ i y, t'.get i = some y → ∃ x, t.get i = some x ∧ rnV b keep x = some y
  | .siter s p, o => o = .siter s p
  | .dfr, o => o = .dfr
  | .mp es clock q, o => ∃ es', o = .mp es' clock q ∧ rnEs b keep es = some es'
  | .miter m since seen last, o => ∃ m', o = .miter m' since seen last ∧ rnMi b keep m = some m'
theorem RObj.rel {b : Nat} {keep : List Nat} {M M' : List MEnt} (hM : MRen b keep M M') {m : MEnt} {w : World} {o u : AObj} (h : RObj b keep o u) (r : ORel M m w o) : ORel M' m w u := by
  cases o with
  | cells n t e g fz ro mk =>
    obtain ⟨t', rfl, ht⟩ := h
    obtain ⟨cur, e', lo, hi, h1, h2, h3, h4, h5, h6, h7⟩ := r
    refine ⟨cur, e', lo, hi, h1, h2, h3, h4, h5, h6, fun i v hv => ?_⟩
    obtain ⟨x, hx, hr⟩ := ht i v hv
    obtain ⟨a, cv, b, c⟩ := h7 i x hx
    exact ⟨a, cv, b, rnV_rel hM _ _ _ hr c⟩
  | loop st p n t ps as bo d =>
    obtain ⟨t', d', rfl, hd, ht⟩ := h
    obtain ⟨L, h1, h2, h3, h4, h5, h6, h7, h8, dd, h9, h10⟩ := r
    refine ⟨L, h1, h2, h3, h4, h5, h6, h7, fun i v hv => ?_, dd, by rw [posOf_ren hM hd]; exact h9, h10⟩
    obtain ⟨x, hx, hr⟩ := ht i v hv
    obtain ⟨cv, b, c⟩ := h8 i x hx
    exact ⟨cv, b, rnV_rel hM _ _ _ hr c⟩
  | siter s p => obtain rfl := h; exact r
  | dfr => obtain rfl := h; exact r
  | mp es clock =>
    obtain ⟨es', rfl, he⟩ := h
    obtain ⟨ces, h1, h2⟩ := r
    exact ⟨ces, h1, rnEs_rel hM he h2⟩
  | miter mi since seen last =>
    obtain ⟨m', rfl, he⟩ := h
    obtain ⟨c, h1, h2, h3⟩ := r
    exact ⟨c, h1, h2, rnMi_rel hM he h3⟩
theorem RObj.ro {b : Nat} {keep : List Nat} {o u : AObj} (h : RObj b keep o u) : u.isRo = o.isRo := by
  cases o with
  | cells n t e g fz ro mk => obtain ⟨t', rfl, _⟩ := h; rfl
  | loop => obtain ⟨t', d', rfl, _⟩ := h; rfl
  | siter s p => obtain rfl := h; rfl
  | dfr => obtain rfl := h; rfl
  | mp es clock => obtain ⟨_, rfl, _⟩ := h; rfl
  | miter => obtain ⟨_, rfl, _⟩ := h; rfl

/-- A state stands for another, names turned. -/
structure Ren (ng : Nat) (keep : List Nat) (fr : AFr) (H : AHeap) (fr' : AFr) (H' : AHeap) : Prop where
  glob : ∀ g, g < ng → keep[g]? = some g
  lt : ∀ i ∈ keep, i < H.next
  nodup : keep.Nodup
  next : H'.next = keep.length
  obj : ∀ k u, H'.get k = some u → ∃ i o, keep[k]? = some i ∧ H.get i = some o ∧ RObj 0 keep o u
  n : fr'.n = fr.n
  rd : fr'.rd = fr.rd
  df : fr.df = [] ∧ fr'.df = []
  t : ∀ i y, fr'.t.get i = some y → ∃ x, fr.t.get i = some x ∧ rnV 0 keep x = some y

def renM (keep : List Nat) (M : List MEnt) : List MEnt := keep.map fun i => (M[i]?).getD ⟨0, 0, 0, 0⟩
theorem renM_ren {keep : List Nat} {M : List MEnt} (h : ∀ i ∈ keep, i < M.length) : MRen 0 keep M (renM keep M) := by
  intro k i hk
  rw [Nat.zero_add]
  unfold renM
  rw [List.getElem?_map, hk]
  have := h i (List.mem_of_getElem? hk)
  rw [List.getElem?_eq_getElem this]
  simp [List.getElem?_eq_getElem this]

/-- What is asked of what is carried along: it does not hang on names. -/
structure Carried (I : List MEnt → AHeap → World → Prop) : Prop where
  ext : ∀ M H w M' H' w', I M H w → Ext M H w M' H' w' → I M' H' w'
  ren : ∀ M H w M' H', I M H w → HRel M H w → HRel M' H' w → (∀ b, Wr M' H' b → Wr M H b) → I M' H' w

section
variable {E : Env} {P : Program} {I : List MEnt → AHeap → World → Prop} {ih : Task → Option TRes} {ro : Option Nat}

theorem Ren.to (hI : Carried I) {keep : List Nat} {fr fr' : AFr} {H H' : AHeap} (r : Ren E.ng keep fr H fr' H') {M : List MEnt} {w : World} {a : Act} (st : St E I M H w) (hf : FRel ro M fr a) : ∃ M', St E I M' H' w ∧ FRel ro M' fr' a := by
  have hlt : ∀ i ∈ keep, i < M.length := fun i hi => by rw [st.hr.len]; exact r.lt i hi
  have hM := renM_ren hlt
  have at_ : ∀ k i, keep[k]? = some i → (renM keep M)[k]? = M[i]? := fun k i h => by have := hM k i h; rwa [Nat.zero_add] at this
  have inj : ∀ k l i : Nat, keep[k]? = some i → keep[l]? = some i → k = l := fun k l i hk hl => by
    have hk' := (List.getElem?_eq_some_iff.1 hk)
    have hl' := (List.getElem?_eq_some_iff.1 hl)
    exact (List.getElem?_inj hk'.1 r.nodup).1 (hk.trans hl.symm)
  have hr : HRel (renM keep M) H' w := by
    refine ⟨by simp [renM, r.next], fun k u hu => ?_, fun k l u v m p hu hv hm hp hkl hb => ?_⟩
    · obtain ⟨i, o, e1, e2, e3⟩ := r.obj k u hu
      obtain ⟨m, hm, ho⟩ := st.hr.obj i o e2
      exact ⟨m, by rw [at_ k i e1]; exact hm, e3.rel hM ho⟩
    · obtain ⟨i, o, e1, e2, e3⟩ := r.obj k u hu
      obtain ⟨j, q, f1, f2, f3⟩ := r.obj l v hv
      rw [at_ k i e1] at hm
      rw [at_ l j f1] at hp
      have hij : i ≠ j := fun e => by subst e; exact hkl (inj k l i e1 f1)
      obtain ⟨z1, z2⟩ := st.hr.inj i j o q m p e2 f2 hm hp hij hb
      exact ⟨by rw [e3.ro]; exact z1, by rw [f3.ro]; exact z2⟩
  refine ⟨renM keep M, ⟨hr, fun g hg => ?_, hI.ren _ _ _ _ _ st.i st.hr hr fun b hb => ?_⟩, ⟨by rw [r.rd]; exact hf.rd, by rw [r.n]; exact hf.n, fun i y hy => ?_, ?_⟩⟩
  · obtain ⟨m, hm, h2⟩ := st.g g hg
    exact ⟨m, by rw [at_ g g (r.glob g hg)]; exact hm, h2⟩
  · obtain ⟨k, u, m, e, hro, hm, rfl⟩ := hb
    obtain ⟨i, o, e1, e2, e3⟩ := r.obj k u e
    rw [at_ k i e1] at hm
    exact ⟨i, o, m, e2, by rw [← e3.ro]; exact hro, hm, rfl⟩
  · obtain ⟨x, hx, hxy⟩ := r.t i y hy
    obtain ⟨cv, hc, hv⟩ := hf.t i x hx
    exact ⟨cv, hc, rnV_rel hM _ _ _ hxy hv⟩
  · have := hf.df
    rw [r.df.1] at this
    rw [r.df.2]
    generalize a.defers = l at this ⊢
    cases this
    exact .nil

/-! ### Triples -/
/-- What is said of a state when a piece of code is left. -/
abbrev TQ := AExit → AFr → AHeap → Prop
def TPost (E : Env) (I : List MEnt → AHeap → World → Prop) (ro : Option Nat) (Q : TQ) (ex : Exit) (a : Act) (w : World) : Prop :=
  ∃ e fr H M, Q e fr H ∧ St E I M H w ∧ ERel M e ex ∧ FRel ro M fr a
def Tri (E : Env) (P : Program) (I : List MEnt → AHeap → World → Prop) (ro : Option Nat) (c : Code) (fr : AFr) (H : AHeap) (Q : TQ) : Prop :=
  ∀ M w a, St E I M H w → FRel ro M fr a → c.wpIn (FF ro) 0 P (TPost E I ro Q) a w

theorem Tri.mono {c : Code} {fr : AFr} {H : AHeap} {Q Q' : TQ} (h : Tri E P I ro c fr H Q) (hq : ∀ e fr H, Q e fr H → Q' e fr H) : Tri E P I ro c fr H Q' := by
  intro M w a st hf
  refine wpIn_mono (h M w a st hf) ?_
  rintro ex a1 w1 ⟨e, fr1, H1, M1, q, r⟩
  exact ⟨e, fr1, H1, M1, hq _ _ _ q, r⟩

/-- Straight code, by the interpreter. -/
theorem Tri.run (hE : EnvOk E P I) (hs : Sound E P I ih) {c : Code} {fr : AFr} {H : AHeap} {e : AExit} {fr' : AFr} {H' : AHeap} {Q : TQ} (h : codeA E ih c fr H = some (.code e fr' H')) (hq : Q e fr' H') : Tri E P I ro c fr H Q := by
  intro M w a st hf
  refine wpIn_mono (codeA_sound hE hs c fr H e fr' H' M w a h st hf) ?_
  rintro ex a1 w1 ⟨M1, x1, x2, x3, x4⟩
  exact ⟨e, fr', H', M1, hq, st.next hE x1 x2, x3, x4⟩

theorem Tri.ren (hI : Carried I) {c : Code} {keep : List Nat} {fr fr' : AFr} {H H' : AHeap} {Q : TQ} (r : Ren E.ng keep fr H fr' H') (h : Tri E P I ro c fr' H' Q) : Tri E P I ro c fr H Q := by
  intro M w a st hf
  obtain ⟨M', s2, f2⟩ := r.to hI st hf
  exact h M' w a s2 f2

theorem ERel.normal {M : List MEnt} {e : AExit} {x : Exit} (h : ERel M e x) : e = .normal ↔ x = .normal := by
  cases e with
  | normal => simp only [ERel] at h; simp [h]
  | exit i => simp only [ERel] at h; simp [h]
  | ret => simp only [ERel] at h; simp [h]
  | panic v => obtain ⟨cv, rfl, _⟩ := h; simp

theorem Tri.seq {a b : Code} {fr : AFr} {H : AHeap} {Q : TQ} (h : Tri E P I ro a fr H fun e fr' H' => (e = .normal ∧ Tri E P I ro b fr' H' Q) ∨ (e ≠ .normal ∧ Q e fr' H')) : Tri E P I ro (.seq a b) fr H Q := by
  intro M w x st hf
  refine wpIn_seq (wpIn_mono (h M w x st hf) ?_)
  rintro ex a1 w1 ⟨e, fr1, H1, M1, q, s1, er, f1⟩
  rcases q with ⟨rfl, q⟩ | ⟨hne, q⟩
  · simp only [ERel] at er; subst er
    exact q M1 w1 a1 s1 f1
  · have post : TPost E I ro Q ex a1 w1 := ⟨e, fr1, H1, M1, q, s1, er, f1⟩
    cases e with
    | normal => exact absurd rfl hne
    | exit i => simp only [ERel] at er; subst er; exact post
    | ret => simp only [ERel] at er; subst er; exact post
    | panic v => obtain ⟨cv, rfl, _⟩ := er; exact post

theorem Tri.cond {c : Operand} {a b : Code} {fr : AFr} {H : AHeap} {Q : TQ} {x : Bool} (hc : opd E fr.t c = some (.bool x)) (h : Tri E P I ro (bif x then a else b) fr H Q) : Tri E P I ro (.cond c a b) fr H Q := by
  intro M w act st hf
  have := opd_rel st.g hf.t hc
  simp only [VRel] at this
  cases x with
  | true => exact wpIn_cond_true this (h M w act st hf)
  | false => exact wpIn_cond_false this (h M w act st hf)

def outOf (id : Nat) : AExit → AExit
  | .exit i => bif Nat.beq i id then .normal else .exit i
  | e => e
theorem Tri.block {id : Nat} {c : Code} {fr : AFr} {H : AHeap} {Q : TQ} (h : Tri E P I ro c fr H fun e fr' H' => Q (outOf id e) fr' H') : Tri E P I ro (.block id c) fr H Q := by
  intro M w x st hf
  refine wpIn_block (wpIn_mono (h M w x st hf) ?_)
  rintro ex a1 w1 ⟨e, fr1, H1, M1, q, s1, er, f1⟩
  cases e with
  | normal => simp only [ERel] at er; subst er; exact ⟨_, fr1, H1, M1, q, s1, rfl, f1⟩
  | ret => simp only [ERel] at er; subst er; exact ⟨_, fr1, H1, M1, q, s1, rfl, f1⟩
  | panic v =>
    have er' := er
    obtain ⟨cv, rfl, _⟩ := er
    exact ⟨_, fr1, H1, M1, q, s1, er', f1⟩
  | exit i =>
    simp only [ERel] at er; subst er
    simp only [outOf, Bool.cond_eq_ite, Nat.beq_eq] at q
    simp only [Exit.inBlock]
    split
    · rename_i hi
      rw [if_pos hi] at q
      exact ⟨_, fr1, H1, M1, q, s1, rfl, f1⟩
    · rename_i hi
      rw [if_neg hi] at q
      exact ⟨_, fr1, H1, M1, q, s1, rfl, f1⟩

/-- A loop: from each state of a family a round leads to a lesser one, or out. -/
theorem Tri.loop {X : Type} {c : Code} {fr : X → AFr} {H : X → AHeap} {Inv : X → Prop} (meas : X → Nat) {Q : TQ} (hI : Carried I)
    (body : ∀ x, Inv x → Tri E P I ro c (fr x) (H x) fun e fr' H' => (e = .normal ∧ ∃ x' keep, Inv x' ∧ meas x' < meas x ∧ Ren E.ng keep fr' H' (fr x') (H x')) ∨ (e ≠ .normal ∧ Q e fr' H')) :
    ∀ x, Inv x → Tri E P I ro (.loop c) (fr x) (H x) Q := by
  intro x hx M w a st hf
  refine loopWp_loop ?_
  have main : ∀ (n : Nat) (x : X), meas x = n → Inv x → ∀ M w a, St E I M (H x) w → FRel ro M (fr x) a → LoopWp (FF ro) P c (TPost E I ro Q) a w := by
    intro n
    induction n using Nat.strongRecOn with
    | _ n ihn =>
      intro x hn hx M w a st hf
      refine loopWp_of (wpIn_mono (body x hx M w a st hf) ?_)
      rintro ex a1 w1 ⟨e, fr1, H1, M1, q, s1, er, f1⟩
      rcases q with ⟨rfl, x', keep, i', hm, hr⟩ | ⟨hne, q⟩
      · simp only [ERel] at er; subst er
        obtain ⟨M2, s2, f2⟩ := hr.to hI s1 f1
        exact ihn (meas x') (by omega) x' rfl i' M2 w1 a1 s2 f2
      · have post : TPost E I ro Q ex a1 w1 := ⟨e, fr1, H1, M1, q, s1, er, f1⟩
        cases e with
        | normal => exact absurd rfl hne
        | exit i => simp only [ERel] at er; subst er; exact post
        | ret => simp only [ERel] at er; subst er; exact post
        | panic v => obtain ⟨cv, rfl, _⟩ := er; exact post
  exact main _ x rfl hx M w a st hf
end
end Go.Vai
