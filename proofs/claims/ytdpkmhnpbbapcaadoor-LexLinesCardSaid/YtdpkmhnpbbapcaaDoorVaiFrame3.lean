/- Rows of pieces with loads named ahead; and a leaf that hands out the memory as it is. -/
import Derived.Test.YtdpkmhnpbbapcaaDoorVaiFrame2
section
namespace Go.Vai
noncomputable section
def Zd8 {α : Type} (E : Env) (pn : Pin) (cl : PCl α) (l : List Code) : CP α := List.rec (motive := fun _ => CP α) (fun k => k .normal) (fun c _ K k => J8 E pn cl c (Zwq K k)) l
theorem Zn5 {α : Type} {E : Env} {pn : Pin} {cl : PCl α} {ih : Task → Option TRes} (hc : POk cl ih) : ∀ (l : List Code) (k : PC α) (fr : AFr) (H : AHeap) (o : Wh) (r : α), Zd8 E pn cl l k fr H o = some r → ∃ e fr' H' o', Zau E ih l fr H = some (.code e fr' H') ∧ k e fr' H' o' = some r := by
  intro l
  induction l with
  | nil => intro k fr H o r h; exact ⟨_, _, _, _, rfl, h⟩
  | cons c l ihl =>
    intro k fr H o r h
    have h' : J8 E pn cl c (Zwq (Zd8 E pn cl l) k) fr H o = some r := h
    obtain ⟨e, fr1, H1, o1, e1, e2⟩ := Vn hc c _ fr H o r h'
    simp only [Zau, e1]
    cases e with
    | normal => exact ihl k fr1 H1 o1 r e2
    | exit i => exact ⟨_, _, _, _, rfl, e2⟩
    | ret => exact ⟨_, _, _, _, rfl, e2⟩
    | panic v => exact ⟨_, _, _, _, rfl, e2⟩
def Yhw (l : List (Nat × Nat)) : Pin := fun op => match op.dst with
  | some d => (l.find? fun x => Nat.beq x.1 d).map fun x => Int.ofNat x.2
  | none => none
structure LeafW where
  e : AExit
  n : Nat
  rd : Bool
  df : Bool
  vs : List (Option AV)
  H : AHeap
def leafW (S : List Nat) : PC LeafW := fun e fr H _ => some ⟨e, fr.n, fr.rd, Yd2 fr.df, S.map fr.t.get, H⟩
def lw (e : AExit) (n : Nat) (vs : List (Option AV)) (H : AHeap) : Option LeafW := some ⟨e, n, false, true, vs, H⟩
section
variable {E : Env} {P : Program} {I : List MEnt → AHeap → World → Prop} {ih : Task → Option TRes} {ro : Option Nat}
theorem Yd.framePn (hE : EnvOk E P I) (hI : Carried I) {pn : Pin} {cl : PCl LeafG} {d : Nat} (hc : POk cl (Go.Vai.run E d)) {ks xs : List Nat} {D : Nat → Prop} {pl : Nat → Nat × Nat} {τ : Nat → AV} {fr fr' : AFr} {H : AHeap} {os : (Nat → Tag) → List AObj} {o : Wh} {l m : List Code} {e : AExit} {n next : Nat} {S names : List Nat} {vs : List AV} {os2 : (Nat → Tag) → List (Option AObj)} {Q : TQ}
    (h : ∀ θ, Zd8 E pn cl l (Ya S names) fr' (Xl E.ng (os θ) xs.length) o = lg e n next (vs.map some) (os2 θ))
    (hk : FrK E.ng ks xs H) (hfr : FrIn (kN E.ng ks xs) fr fr') (hl : ∀ θ, (os θ).length = ks.length) (hD : ∀ j, D j → Zyo H pl τ j)
    (hos : ∀ θ (j : Nat) u, (os θ)[j]? = some u → ∃ i o, ks[j]? = some i ∧ H.get i = some o ∧ Jc (kN E.ng ks xs) D pl τ θ i o u) (hp : ∀ v, e ≠ .panic v)
    (hvx : Zbi vs = true) (hox : ∀ θ (j : Nat) u, (os2 θ)[j]? = some (some u) → exO D θ u)
    (hq : ∀ θ Hb, FrOut E.ng ks xs (os θ) τ H next names (os2 θ) Hb → (e = .normal ∧ Yd E P I ro m (Zd n S (vs.map (V2 (Q9 (kN E.ng ks xs) H.next) τ))) Hb Q) ∨ (e ≠ .normal ∧ Q e (Zd n S (vs.map (V2 (Q9 (kN E.ng ks xs) H.next) τ))) Hb)) :
    Yd E P I ro (l ++ m) fr H Q :=
  Yd.frame0 hE (Xv hE _) hI hk hfr hl hD hos (fun θ => by
    obtain ⟨e0, fr2, H2, o', h1, h2⟩ := Zn5 hc l _ fr' _ _ _ (h θ)
    exact ⟨e0, fr2, H2, h1, h2⟩) hp hvx hox hq
theorem Yd.leafW (hE : EnvOk E P I) {cl : PCl LeafW} {d : Nat} (hc : POk cl (Go.Vai.run E d)) {fr : AFr} {H H2 : AHeap} {o : Wh} {l m : List Code} {e : AExit} {n : Nat} {S : List Nat} {vs : List AV} {Q : TQ}
    (h : Zh E cl l (Go.Vai.leafW S) fr H o = lw e n (vs.map some) H2) (hp : ∀ v, e ≠ .panic v)
    (hq : (e = .normal ∧ Yd E P I ro m (Zd n S vs) H2 Q) ∨ (e ≠ .normal ∧ Q e (Zd n S vs) H2)) : Yd E P I ro (l ++ m) fr H Q := by
  intro M w a st hf
  obtain ⟨e0, fr2, H3, o', h1, h2⟩ := Qs hc l _ fr _ _ _ h
  simp only [Go.Vai.leafW, Option.some.injEq, LeafW.mk.injEq] at h2
  obtain ⟨rfl, rfl, hrd, hdn, hvs, rfl⟩ := h2
  have hdf : fr2.df = [] := by
    cases hd : fr2.df with
    | nil => rfl
    | cons x xs => rw [hd] at hdn; cases hdn
  refine Zca (Zbf (Zhp hE (Xv hE _) l _ _ _ _ _ _ w a h1 st hf) fun x a2 w2 hp2 => ?_)
  obtain ⟨M2, x1, x2, er, f2⟩ := hp2
  have f4 : FRel ro M2 (Zd fr2.n S vs) a2 := by
    refine ⟨by rw [← f2.rd, hrd]; rfl, f2.n, fun i y hy => ?_, by have := f2.df; rw [hdf] at this; exact this⟩
    obtain ⟨j, b1, b2⟩ := Ve hy
    have b4 := congrArg (·[j]?) hvs
    simp only [List.getElem?_map, b1, b2, Option.map_some, Option.some.injEq] at b4
    exact f2.t i y b4
  have s3 := st.next hE x1 x2
  rcases hq with ⟨b1, b2⟩ | ⟨b1, b2⟩
  · subst b1
    simp only [Xr] at er
    subst er
    exact b2 M2 w2 a2 s3 f4
  · exact X1 (.inr ⟨fun hx => b1 (er.normal.2 hx), e0, _, _, M2, b2, s3, er, f4⟩)
end
end
end Go.Vai
end
