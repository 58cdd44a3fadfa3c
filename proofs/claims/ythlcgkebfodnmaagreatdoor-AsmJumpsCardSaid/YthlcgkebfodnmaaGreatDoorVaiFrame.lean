/- A piece of code run in a small memory, laid back into the great one: names turned back, what it did not touch stays. -/
import Derived.Test.YthlcgkebfodnmaaGreatDoorVaiLoop
section
namespace Go.Vai
noncomputable section
def wpL (P : Program) (ro : Option Nat) : List Code → (Exit → Act → World → Prop) → Act → World → Prop
  | [], Q => Q .normal
  | c :: cs, Q => fun a w => c.wpIn (FF ro) 0 P (Exit.then (wpL P ro cs Q) Q) a w
theorem exit_then {K : Act → World → Prop} {Q : Exit → Act → World → Prop} {x : Exit} {a : Act} {w : World} (h : (x = .normal ∧ K a w) ∨ (x ≠ .normal ∧ Q x a w)) : Exit.then K Q x a w := by
  rcases h with ⟨rfl, h⟩ | ⟨h, hq⟩
  · exact h
  · cases x <;> first | exact absurd rfl h | exact hq
theorem then_cases {K : Act → World → Prop} {Q : Exit → Act → World → Prop} {x : Exit} {a : Act} {w : World} (h : Exit.then K Q x a w) : (x = .normal ∧ K a w) ∨ (x ≠ .normal ∧ Q x a w) := by
  cases x with
  | normal => exact .inl ⟨rfl, h⟩
  | _ => exact .inr ⟨(by intro h; cases h), h⟩
theorem wpL_mono {P : Program} {ro : Option Nat} : ∀ {l : List Code} {Q Q' : Exit → Act → World → Prop} {a : Act} {w : World}, wpL P ro l Q a w → (∀ x a w, Q x a w → Q' x a w) → wpL P ro l Q' a w
  | [], _, _, _, _, h, hq => hq _ _ _ h
  | _ :: _, _, _, _, _, h, hq => wpIn_mono h fun x a w hx => by
    rcases then_cases hx with ⟨e, h⟩ | ⟨e, h⟩
    · exact exit_then (.inl ⟨e, wpL_mono h hq⟩)
    · exact exit_then (.inr ⟨e, hq _ _ _ h⟩)
theorem wpL_append {P : Program} {ro : Option Nat} : ∀ {l m : List Code} {Q : Exit → Act → World → Prop} {a : Act} {w : World}, wpL P ro l (Exit.then (wpL P ro m Q) Q) a w → wpL P ro (l ++ m) Q a w
  | [], _, _, _, _, h => h
  | _ :: _, _, _, _, _, h => wpIn_mono h fun x a w hx => by
    rcases then_cases hx with ⟨e, h⟩ | ⟨e, h⟩
    · exact exit_then (.inl ⟨e, wpL_append h⟩)
    · refine exit_then (.inr ⟨e, ?_⟩)
      rcases then_cases h with ⟨e2, _⟩ | ⟨_, h⟩
      · exact absurd e2 e
      · exact h
section
variable {E : Env} {P : Program} {I : List MEnt → AHeap → World → Prop} {ih : Task → Option TRes} {ro : Option Nat}
def TriS (E : Env) (P : Program) (I : List MEnt → AHeap → World → Prop) (ro : Option Nat) (l : List Code) (fr : AFr) (H : AHeap) (Q : TQ) : Prop :=
  ∀ M w a, St E I M H w → FRel ro M fr a → wpL P ro l (TPost E I ro Q) a w
theorem TriS.nil {fr : AFr} {H : AHeap} {Q : TQ} (h : Q .normal fr H) : TriS E P I ro [] fr H Q := fun M _ _ st hf => ⟨.normal, fr, H, M, h, st, rfl, hf⟩
theorem TriS.mono {l : List Code} {fr : AFr} {H : AHeap} {Q Q' : TQ} (h : TriS E P I ro l fr H Q) (hq : ∀ e fr H, Q e fr H → Q' e fr H) : TriS E P I ro l fr H Q' := fun M w a st hf =>
  wpL_mono (h M w a st hf) fun _ _ _ ⟨e, fr, H, M, q, r⟩ => ⟨e, fr, H, M, hq _ _ _ q, r⟩
theorem tpost_then {l : List Code} {Q : TQ} {ex : Exit} {a : Act} {w : World} (h : TPost E I ro (fun e fr' H' => (e = .normal ∧ TriS E P I ro l fr' H' Q) ∨ (e ≠ .normal ∧ Q e fr' H')) ex a w) : Exit.then (wpL P ro l (TPost E I ro Q)) (TPost E I ro Q) ex a w := by
  obtain ⟨e, fr1, H1, M1, q, s1, er, f1⟩ := h
  rcases q with ⟨rfl, q⟩ | ⟨hne, q⟩
  · simp only [ERel] at er; subst er
    exact q M1 w a s1 f1
  · exact exit_then (.inr ⟨fun hx => hne (er.normal.2 hx), e, fr1, H1, M1, q, s1, er, f1⟩)
theorem TriS.cons {c : Code} {l : List Code} {fr : AFr} {H : AHeap} {Q : TQ} (h : Tri E P I ro c fr H fun e fr' H' => (e = .normal ∧ TriS E P I ro l fr' H' Q) ∨ (e ≠ .normal ∧ Q e fr' H')) : TriS E P I ro (c :: l) fr H Q := fun M w a st hf =>
  wpIn_mono (h M w a st hf) fun _ _ _ hx => tpost_then hx
theorem TriS.append {l m : List Code} {fr : AFr} {H : AHeap} {Q : TQ} (h : TriS E P I ro l fr H fun e fr' H' => (e = .normal ∧ TriS E P I ro m fr' H' Q) ∨ (e ≠ .normal ∧ Q e fr' H')) : TriS E P I ro (l ++ m) fr H Q := fun M w a st hf =>
  wpL_append (wpL_mono (h M w a st hf) fun _ _ _ hx => tpost_then hx)
theorem TriS.of : ∀ {l : List Code} {fr : AFr} {H : AHeap} {Q : TQ}, TriL E P I ro l fr H Q → TriS E P I ro l fr H Q
  | [], _, _, _, h => fun M w a st hf => h M w a st hf
  | c :: l, fr, H, Q, h => TriS.cons (Tri.mono (Q' := fun e fr' H' => (e = .normal ∧ TriS E P I ro l fr' H' Q) ∨ (e ≠ .normal ∧ Q e fr' H')) h fun e fr H q => q.imp (fun ⟨a, b⟩ => ⟨a, TriS.of b⟩) id)
theorem TriS.ren (hI : Carried I) {l : List Code} {keep : List Nat} {fr fr' : AFr} {H H' : AHeap} {Q : TQ} (r : Ren E.ng keep fr H fr' H') (h : TriS E P I ro l fr' H' Q) : TriS E P I ro l fr H Q := by
  intro M w a st hf
  obtain ⟨M', s2, f2⟩ := r.to hI st hf
  exact h M' w a s2 f2
end
abbrev Tag := Nat × Nat × Nat × Nat × Nat
def tagV (x : Tag) : Value := extV x.1 x.2.1 x.2.2.1 x.2.2.2.1 x.2.2.2.2
mutual
def lfV (β : Nat → Nat) (τ : Nat → AV) : AV → AV
  | .ptr i o => .ptr (β i) o
  | .sl i o n c => .sl (β i) o n c
  | .yld i => .yld (β i)
  | .mapv i => .mapv (β i)
  | .fn f x y => .fn f (lfVs β τ x) (lfVs β τ y)
  | .iface t x => .iface t (lfV β τ x)
  | .agg l => .agg (lfVs β τ l)
  | .tup l => .tup (lfVs β τ l)
  | .ext j _ _ _ _ _ => τ j
  | .nilm => .nilm
  | .opq o => .opq o
  | .bool t => .bool t
  | .int k n => .int k n
  | .str s => .str s
  | .nilp => .nilp
  | .nils => .nils
  | .sl0 => .sl0
  | .nilf => .nilf
  | .nili => .nili
def lfVs (β : Nat → Nat) (τ : Nat → AV) : List AV → List AV
  | [] => []
  | v :: l => lfV β τ v :: lfVs β τ l
end
def lfT (β : Nat → Nat) (τ : Nat → AV) : Tr AV → Tr AV
  | .nil => .nil
  | .node v l r => .node (v.map (lfV β τ)) (lfT β τ l) (lfT β τ r)
theorem lfT_get (β : Nat → Nat) (τ : Nat → AV) : ∀ (t : Tr AV) (i : Nat), (lfT β τ t).get i = (t.get i).map (lfV β τ) := by
  intro t
  induction t with
  | nil => intro i; rfl
  | node v l r ihl ihr =>
    intro i
    cases i with
    | zero => rfl
    | succ i =>
      simp only [lfT, Tr.get_succ]
      cases Nat.beq (i % 2) 0
      · exact ihr _
      · exact ihl _
def lfE (β : Nat → Nat) (τ : Nat → AV) (x : AV × AV × Nat) : AV × AV × Nat := (lfV β τ x.1, lfV β τ x.2.1, x.2.2)
def lfO (β : Nat → Nat) (τ : Nat → AV) : AObj → AObj
  | .cells n t e g fz ro mk => .cells n (lfT β τ t) e g fz ro mk
  | .loop st p n t ps sa bo d => .loop st p n (lfT β τ t) ps sa bo (β d)
  | .siter s p => .siter s p
  | .dfr => .dfr
  | .mp es c r => .mp (es.map (lfE β τ)) c r
  | .miter m since seen last => .miter (m.map β) since seen last
mutual
def exV (D : Nat → Prop) (θ : Nat → Tag) : AV → Prop
  | .ext j k b o n c => D j ∧ θ j = (k, b, o, n, c)
  | .fn _ x y => exVs D θ x ∧ exVs D θ y
  | .iface _ x => exV D θ x
  | .agg l => exVs D θ l
  | .tup l => exVs D θ l
  | .ptr _ _ | .sl _ _ _ _ | .yld _ | .mapv _ | .nilm | .opq _ | .bool _ | .int _ _ | .str _ | .nilp | .nils | .sl0 | .nilf | .nili => True
def exVs (D : Nat → Prop) (θ : Nat → Tag) : List AV → Prop
  | [] => True
  | v :: l => exV D θ v ∧ exVs D θ l
end
section
variable {β : Nat → Nat} {τ : Nat → AV} {D : Nat → Prop} {θ : Nat → Tag} {M M' : List MEnt} (hM : ∀ k m, M[k]? = some m → M'[β k]? = some m) (hτ : ∀ j, D j → VRel M' (τ j) (tagV (θ j)))
include hM hτ
end
def bkN (K : List Nat) (nx k : Nat) : Nat := match K[k]? with
  | some i => i
  | none => nx + (k - K.length)
theorem bkN_old {K : List Nat} {nx k i : Nat} (h : K[k]? = some i) : bkN K nx k = i := by unfold bkN; rw [h]
def CellX (K : List Nat) (D : Nat → Prop) (pl : Nat → Nat × Nat) (τ : Nat → AV) (θ : Nat → Tag) (id i : Nat) (x y : AV) : Prop :=
  rnV 0 K x = some y ∨ ∃ j, y = .ext j (θ j).1 (θ j).2.1 (θ j).2.2.1 (θ j).2.2.2.1 (θ j).2.2.2.2 ∧ D j ∧ pl j = (id, i) ∧ x = τ j
def RObjX (K : List Nat) (D : Nat → Prop) (pl : Nat → Nat × Nat) (τ : Nat → AV) (θ : Nat → Tag) (id : Nat) (o u : AObj) : Prop :=
  RObj 0 K o u ∨ (∃ n t e g fz ro mk t', o = .cells n t e g fz ro mk ∧ u = .cells n t' e g fz ro mk ∧ ∀ i y, t'.get i = some y → ∃ x, t.get i = some x ∧ CellX K D pl τ θ id i x y) ∨
  (∃ n t e g fz ro mk e' g' fz' mk' t', o = .cells n t e g fz ro mk ∧ u = .cells n t' e' g' fz' true mk' ∧ (g' = none ∨ g' = g) ∧ ∀ i y, t'.get i = some y → ∃ x, t.get i = some x ∧ CellX K D pl τ θ id i x y)
structure RenX (ng : Nat) (K : List Nat) (D : Nat → Prop) (pl : Nat → Nat × Nat) (τ : Nat → AV) (θ : Nat → Tag) (fr : AFr) (H : AHeap) (fr' : AFr) (H' : AHeap) : Prop where
  glob : ∀ g, g < ng → K[g]? = some g
  lt : ∀ i ∈ K, i < H.next
  nodup : K.Nodup
  next : H'.next = K.length
  obj : ∀ k u, H'.get k = some u → ∃ i o, K[k]? = some i ∧ H.get i = some o ∧ RObjX K D pl τ θ i o u
  n : fr'.n = fr.n
  rd : fr'.rd = fr.rd
  df : fr.df = [] ∧ fr'.df = []
  t : ∀ i y, fr'.t.get i = some y → ∃ x, fr.t.get i = some x ∧ rnV 0 K x = some y
def ThOk (M : List MEnt) (w : World) (D : Nat → Prop) (pl : Nat → Nat × Nat) (τ : Nat → AV) (θ : Nat → Tag) : Prop :=
  ∀ j, D j → VRel M (τ j) (tagV (θ j)) ∧ ∀ m cur e r, M[(pl j).1]? = some m → w.heap[m.block]? = some (.cells cur e r) → cur[m.base + (pl j).2]? = some (tagV (θ j))
theorem RObjX.rel {K : List Nat} {D : Nat → Prop} {pl : Nat → Nat × Nat} {τ : Nat → AV} {θ : Nat → Tag} {M M' : List MEnt} (hM : MRen 0 K M M') {id : Nat} {m : MEnt} {w : World} {o u : AObj} (hth : ThOk M w D pl τ θ) (hm : M[id]? = some m) (h : RObjX K D pl τ θ id o u) (r : ORel M m w o) : ORel M' m w u := by
  have cell : ∀ {n : Nat} {t t' : Tr AV} {cur : Array Value} {e : TypeId} {rg : Nat × Nat}, w.heap[m.block]? = some (.cells cur e rg) → (∀ i v, t.get i = some v → i < n ∧ ∃ cv, cur[m.base + i]? = some cv ∧ VRel M v cv) → (∀ i y, t'.get i = some y → ∃ x, t.get i = some x ∧ CellX K D pl τ θ id i x y) →
      ∀ i v, t'.get i = some v → i < n ∧ ∃ cv, cur[m.base + i]? = some cv ∧ VRel M' v cv := by
    intro n t t' cur e rg h1 h7 ht i y hy
    obtain ⟨x, hx, hc⟩ := ht i y hy
    obtain ⟨a, cv, b, c⟩ := h7 i x hx
    rcases hc with hc | ⟨j, rfl, hj, hp, _⟩
    · exact ⟨a, cv, b, rnV_rel hM _ _ _ hc c⟩
    · have := (hth j hj).2 m cur e rg (by rw [hp]; exact hm) h1
      rw [hp] at this
      exact ⟨a, _, this, rfl⟩
  rcases h with h | ⟨n, t, e, g, fz, ro, mk, t', rfl, rfl, ht⟩ | ⟨n, t, e, g, fz, ro, mk, e', g', fz', mk', t', rfl, rfl, hg, ht⟩
  · exact h.rel hM r
  · obtain ⟨cur, e2, lo, hi, h1, h2, h3, h4, h5, h6, h7⟩ := r
    exact ⟨cur, e2, lo, hi, h1, h2, h3, h4, h5, h6, cell h1 h7 ht⟩
  · obtain ⟨cur, e2, lo, hi, h1, h2, h3, h4, h5, h6, h7⟩ := r
    refine ⟨cur, e2, lo, hi, h1, (fun hx => by cases hx), h3, fun gs hgs => ?_, (fun hx => by cases hx), (fun hx => by cases hx), cell h1 h7 ht⟩
    rcases hg with rfl | rfl
    · cases hgs
    · exact h4 gs hgs
theorem RObjX.wr {K : List Nat} {D : Nat → Prop} {pl : Nat → Nat × Nat} {τ : Nat → AV} {θ : Nat → Tag} {id : Nat} {o u : AObj} (h : RObjX K D pl τ θ id o u) (hu : u.isRo = false) : o.isRo = false := by
  rcases h with h | ⟨n, t, e, g, fz, ro, mk, t', rfl, rfl, _⟩ | ⟨n, t, e, g, fz, ro, mk, e', g', fz', mk', t', rfl, rfl, _⟩
  · rw [← h.ro]; exact hu
  · exact hu
  · cases hu
section
variable {E : Env} {P : Program} {I : List MEnt → AHeap → World → Prop} {ih : Task → Option TRes} {ro : Option Nat}
variable {ng : Nat} {K : List Nat} {D : Nat → Prop} {pl : Nat → Nat × Nat} {τ : Nat → AV} {θ : Nat → Tag} {fr fr' : AFr} {H H' : AHeap}
theorem RenX.atN (r : RenX ng K D pl τ θ fr H fr' H') {M : List MEnt} {w : World} (hr : HRel M H w) : ∀ k i : Nat, K[k]? = some i → (renM K M)[k]? = M[i]? := fun k i h => by
  have hlt : ∀ i ∈ K, i < M.length := fun i hi => by rw [hr.len]; exact r.lt i hi
  have := renM_ren hlt k i h
  rwa [Nat.zero_add] at this
theorem RenX.wrS (r : RenX ng K D pl τ θ fr H fr' H') {M : List MEnt} {w : World} (hr : HRel M H w) {b : Nat} (h : Wr (renM K M) H' b) : ∃ k u i o, H'.get k = some u ∧ u.isRo = false ∧ K[k]? = some i ∧ H.get i = some o ∧ o.isRo = false ∧ ∃ m, M[i]? = some m ∧ m.block = b := by
  obtain ⟨k, u, m, hu, hro, hm, hb⟩ := h
  obtain ⟨i, o, e1, e2, e3⟩ := r.obj k u hu
  exact ⟨k, u, i, o, hu, hro, e1, e2, e3.wr hro, m, by rw [← r.atN hr k i e1]; exact hm, hb⟩
theorem RenX.to (hI : Carried I) (r : RenX E.ng K D pl τ θ fr H fr' H') {M : List MEnt} {w : World} {a : Act} (hth : ThOk M w D pl τ θ) (st : St E I M H w) (hf : FRel ro M fr a) : St E I (renM K M) H' w ∧ FRel ro (renM K M) fr' a := by
  have hlt : ∀ i ∈ K, i < M.length := fun i hi => by rw [st.hr.len]; exact r.lt i hi
  have hM := renM_ren hlt
  have at_ := r.atN st.hr
  have inj : ∀ k l i : Nat, K[k]? = some i → K[l]? = some i → k = l := fun k l i hk hl => by
    have hk' := (List.getElem?_eq_some_iff.1 hk)
    exact (List.getElem?_inj hk'.1 r.nodup).1 (hk.trans hl.symm)
  have hr : HRel (renM K M) H' w := by
    refine ⟨by simp [renM, r.next], fun k u hu => ?_, fun k l u v m p hu hv hm hp hkl hb => ?_⟩
    · obtain ⟨i, o, e1, e2, e3⟩ := r.obj k u hu
      obtain ⟨m, hm, ho⟩ := st.hr.obj i o e2
      exact ⟨m, by rw [at_ k i e1]; exact hm, e3.rel hM hth hm ho⟩
    · obtain ⟨i, o, e1, e2, e3⟩ := r.obj k u hu
      obtain ⟨j, q, f1, f2, f3⟩ := r.obj l v hv
      rw [at_ k i e1] at hm
      rw [at_ l j f1] at hp
      have hij : i ≠ j := fun e => by subst e; exact hkl (inj k l i e1 f1)
      obtain ⟨z1, z2⟩ := st.hr.inj i j o q m p e2 f2 hm hp hij hb
      constructor
      · cases hx : u.isRo with
        | true => rfl
        | false => rw [e3.wr hx] at z1; cases z1
      · cases hx : v.isRo with
        | true => rfl
        | false => rw [f3.wr hx] at z2; cases z2
  refine ⟨⟨hr, fun g hg => ?_, hI.ren _ _ _ _ _ st.i st.hr hr fun b hb => ?_⟩, ⟨by rw [r.rd]; exact hf.rd, by rw [r.n]; exact hf.n, fun i y hy => ?_, ?_⟩⟩
  · obtain ⟨m, hm, h2⟩ := st.g g hg
    exact ⟨m, by rw [at_ g g (r.glob g hg)]; exact hm, h2⟩
  · obtain ⟨k, u, i, o, _, _, _, e2, e3, m, e4, e5⟩ := r.wrS st.hr hb
    exact ⟨i, o, m, e2, e3, e4, e5⟩
  · obtain ⟨x, hx, hxy⟩ := r.t i y hy
    obtain ⟨cv, hc, hv⟩ := hf.t i x hx
    exact ⟨cv, hc, rnV_rel hM _ _ _ hxy hv⟩
  · have := hf.df
    rw [r.df.1] at this
    rw [r.df.2]
    generalize a.defers = l at this ⊢
    cases this
    exact .nil
structure Framed (K : List Nat) (τ : Nat → AV) (H H' H2 : AHeap) (names : List Nat) (Hb : AHeap) : Prop where
  next : Hb.next = H.next + (H2.next - K.length)
  new : ∀ k u, k ∈ names → H2.get k = some u → u.isRo = false → Hb.get (bkN K H.next k) = some (lfO (bkN K H.next) τ u)
  old : ∀ id o, H.get id = some o → (∀ k u, K[k]? = some id → H'.get k = some u → u.isRo = true) → Hb.get id = some o
  inv : ∀ id o, Hb.get id = some o → (∃ k u, id = bkN K H.next k ∧ k ∈ names ∧ H2.get k = some u ∧ u.isRo = false ∧ o = lfO (bkN K H.next) τ u) ∨ (H.get id = some o ∧ ∀ k u, K[k]? = some id → H'.get k = some u → u.isRo = true)
open Classical in
end
end
end Go.Vai
end
section
namespace Go.Vai
noncomputable section
structure LeafG where
  e : AExit
  n : Nat
  rd : Bool
  dn : Bool
  next : Nat
  vs : List (Option AV)
  os : List (Option AObj)
def kN (ng : Nat) (ks xs : List Nat) : List Nat := List.range ng ++ (ks ++ xs)
theorem kN_len (ng : Nat) (ks xs : List Nat) : (kN ng ks xs).length = ng + (ks.length + xs.length) := by simp [kN]
theorem kN_glob {ng g : Nat} {ks xs : List Nat} (h : g < ng) : (kN ng ks xs)[g]? = some g := by
  unfold kN
  rw [List.getElem?_append_left (by simpa using h)]
  simp [h]
theorem kN_at {ng j : Nat} {ks xs : List Nat} (h : j < ks.length) : (kN ng ks xs)[ng + j]? = ks[j]? := by
  unfold kN
  rw [List.getElem?_append_right (by simp), List.getElem?_append_left (by simp; omega)]
  simp
structure FrK (ng : Nat) (ks xs : List Nat) (H : AHeap) : Prop where
  gl : ng ≤ H.next
  lt : ∀ i ∈ ks ++ xs, ng ≤ i ∧ i < H.next
  nodup : (ks ++ xs).Nodup
theorem FrK.all {ng : Nat} {ks xs : List Nat} {H : AHeap} (h : FrK ng ks xs H) : (kN ng ks xs).Nodup := by
  unfold kN
  rw [List.nodup_append]
  refine ⟨List.nodup_range, h.nodup, fun a ha b hb e => ?_⟩
  subst e
  have := (h.lt a hb).1
  rw [List.mem_range] at ha
  omega
structure FrIn (K : List Nat) (fr fr' : AFr) : Prop where
  n : fr'.n = fr.n
  rd : fr'.rd = fr.rd
  df : fr.df = [] ∧ fr'.df = []
  t : ∀ i y, fr'.t.get i = some y → ∃ x, fr.t.get i = some x ∧ rnV 0 K x = some y
mutual
def ltV (b : Nat) : AV → Bool
  | .ptr i _ => Nat.blt i b
  | .sl i _ _ _ => Nat.blt i b
  | .yld i => Nat.blt i b
  | .mapv i => Nat.blt i b
  | .fn _ x y => ltVs b x && ltVs b y
  | .iface _ x => ltV b x
  | .agg l => ltVs b l
  | .tup l => ltVs b l
  | .ext _ _ _ _ _ _ => false
  | .nilm | .opq _ | .bool _ | .int _ _ | .str _ | .nilp | .nils | .sl0 | .nilf | .nili => true
def ltVs (b : Nat) : List AV → Bool
  | [] => true
  | v :: l => ltV b v && ltVs b l
end
theorem posOf_nodup {i : Nat} : ∀ {K : List Nat} {k b : Nat}, K.Nodup → K[k]? = some i → posOf i K b = some (b + k)
  | [], k, b, _, h => by simp at h
  | j :: K, k, b, hn, h => by
    simp only [posOf, Bool.cond_eq_ite, Nat.beq_eq]
    rw [List.nodup_cons] at hn
    cases k with
    | zero =>
      simp only [List.getElem?_cons_zero, Option.some.injEq] at h
      rw [if_pos h.symm]; rfl
    | succ k =>
      rw [List.getElem?_cons_succ] at h
      have hne : ¬ i = j := fun e => hn.1 (by rw [← e]; exact List.mem_of_getElem? h)
      rw [if_neg hne, posOf_nodup hn.2 h]
      congr 1; omega
theorem bk_pos {K : List Nat} {nx i : Nat} (hK : K.Nodup) (h : Nat.blt i K.length = true) : posOf (bkN K nx i) K 0 = some i := by
  rw [Nat.blt_eq] at h
  have e : K[i]? = some K[i] := List.getElem?_eq_getElem h
  rw [bkN_old e, posOf_nodup hK e, Nat.zero_add]
mutual
theorem rn_lf {K : List Nat} {nx : Nat} {τ : Nat → AV} (hK : K.Nodup) : ∀ v : AV, ltV K.length v = true → rnV 0 K (lfV (bkN K nx) τ v) = some v
  | .ext _ _ _ _ _ _, h => by simp [ltV] at h
  | .ptr i o, h => by simp only [ltV] at h; simp only [lfV, rnV, bk_pos hK h]
  | .sl i o n c, h => by simp only [ltV] at h; simp only [lfV, rnV, bk_pos hK h]
  | .yld i, h => by simp only [ltV] at h; simp only [lfV, rnV, bk_pos hK h]
  | .mapv i, h => by simp only [ltV] at h; simp only [lfV, rnV, bk_pos hK h]
  | .fn f x y, h => by
    simp only [ltV, Bool.and_eq_true] at h
    simp only [lfV, rnV, rns_lf hK x h.1, rns_lf hK y h.2]
  | .iface t x, h => by
    simp only [ltV] at h
    simp only [lfV, rnV, rn_lf hK x h]
  | .agg l, h => by
    simp only [ltV] at h
    simp only [lfV, rnV, rns_lf hK l h]
  | .tup l, h => by
    simp only [ltV] at h
    simp only [lfV, rnV, rns_lf hK l h]
  | .nilm, _ | .opq _, _ | .bool _, _ | .int _ _, _ | .str _, _ | .nilp, _ | .nils, _ | .sl0, _ | .nilf, _ | .nili, _ => by simp only [lfV, rnV]
theorem rns_lf {K : List Nat} {nx : Nat} {τ : Nat → AV} (hK : K.Nodup) : ∀ l : List AV, ltVs K.length l = true → rnVs 0 K (lfVs (bkN K nx) τ l) = some l
  | [], _ => rfl
  | v :: l, h => by
    simp only [ltVs, Bool.and_eq_true] at h
    simp only [lfVs, rnVs, rn_lf hK v h.1, rns_lf hK l h.2]
end
theorem lfT_setF (β : Nat → Nat) (τ : Nat → AV) : ∀ (f : Nat) (t : Tr AV) (i : Nat) (v : AV), lfT β τ (Tr.setF f t i (some v)) = Tr.setF f (lfT β τ t) i (some (lfV β τ v)) := by
  intro f
  induction f with
  | zero => intro t i v; rfl
  | succ f ih =>
    intro t i v
    cases i with
    | zero => cases t <;> rfl
    | succ i =>
      cases t with
      | nil =>
        simp only [lfT, Tr.setF_ns]
        cases Nat.beq (i % 2) 0
        · simp only [cond_false, lfT, ih]; rfl
        · simp only [cond_true, lfT, ih]; rfl
      | node x l r =>
        simp only [lfT, Tr.setF_ts]
        cases Nat.beq (i % 2) 0
        · simp only [cond_false, lfT, ih]
        · simp only [cond_true, lfT, ih]
theorem lfT_putL (β : Nat → Nat) (τ : Nat → AV) : ∀ (S : List Nat) (vs : List AV), lfT β τ (putL S vs) = putL S (vs.map (lfV β τ))
  | [], _ => rfl
  | _ :: _, [] => rfl
  | s :: S, v :: vs => by
    show lfT β τ ((putL S vs).set s v) = (putL S (vs.map (lfV β τ))).set s (lfV β τ v)
    unfold Tr.set
    rw [lfT_setF, lfT_putL β τ S vs]
theorem ltVs_mem {b : Nat} : ∀ {l : List AV} {v : AV}, ltVs b l = true → v ∈ l → ltV b v = true
  | [], _, _, h => by cases h
  | a :: l, v, h, hv => by
    simp only [ltVs, Bool.and_eq_true] at h
    rcases List.mem_cons.1 hv with rfl | hv
    · exact h.1
    · exact ltVs_mem h.2 hv
theorem FrIn.mk' {K : List Nat} {τ : Nat → AV} {nx n : Nat} {S : List Nat} {vs : List AV} (hK : K.Nodup) (h : ltVs K.length vs = true) : FrIn K (mkFr n S (vs.map (lfV (bkN K nx) τ))) (mkFr n S vs) := by
  refine ⟨rfl, rfl, ⟨rfl, rfl⟩, fun i y hy => ⟨lfV (bkN K nx) τ y, ?_, ?_⟩⟩
  · show (putL S (vs.map (lfV (bkN K nx) τ))).get i = _
    rw [← lfT_putL, lfT_get]
    have hy' : (putL S vs).get i = some y := hy
    rw [hy']; rfl
  · obtain ⟨j, _, hj⟩ := putL_get hy
    exact rn_lf hK y (ltVs_mem h (List.mem_of_getElem? hj))
theorem FrIn.same {K : List Nat} {fr : AFr} (hd : fr.df = []) (h : PlainT fr.t) : FrIn K fr fr := ⟨rfl, rfl, ⟨hd, hd⟩, fun i y hy => ⟨y, hy, h i y hy 0 K⟩⟩
mutual
def noN : AV → Bool
  | .ptr _ _ | .sl _ _ _ _ | .yld _ | .mapv _ | .ext _ _ _ _ _ _ => false
  | .fn _ x y => noNs x && noNs y
  | .iface _ x => noN x
  | .agg l => noNs l
  | .tup l => noNs l
  | .nilm | .opq _ | .bool _ | .int _ _ | .str _ | .nilp | .nils | .sl0 | .nilf | .nili => true
def noNs : List AV → Bool
  | [] => true
  | v :: l => noN v && noNs l
end
mutual
theorem noN_rn {b : Nat} {keep : List Nat} : ∀ v : AV, noN v = true → rnV b keep v = some v
  | .fn f x y, h => by
    simp only [noN, Bool.and_eq_true] at h
    simp only [rnV, noNs_rn x h.1, noNs_rn y h.2]
  | .iface t x, h => by
    simp only [noN] at h
    simp only [rnV, noN_rn x h]
  | .agg l, h => by
    simp only [noN] at h
    simp only [rnV, noNs_rn l h]
  | .tup l, h => by
    simp only [noN] at h
    simp only [rnV, noNs_rn l h]
  | .nilm, _ | .opq _, _ | .bool _, _ | .int _ _, _ | .str _, _ | .nilp, _ | .nils, _ | .sl0, _ | .nilf, _ | .nili, _ => by simp only [rnV]
theorem noNs_rn {b : Nat} {keep : List Nat} : ∀ l : List AV, noNs l = true → rnVs b keep l = some l
  | [], _ => rfl
  | v :: l, h => by
    simp only [noNs, Bool.and_eq_true] at h
    simp only [rnVs, noN_rn v h.1, noNs_rn l h.2]
end
theorem noN_plain {v : AV} (h : noN v = true) : Plain v := fun _ _ => noN_rn v h
def noT (t : Tr AV) : Prop := ∀ i v, t.get i = some v → noN v = true
theorem noT.plain {t : Tr AV} (h : noT t) : PlainT t := fun i v hv => noN_plain (h i v hv)
structure FrOut (ng : Nat) (ks xs : List Nat) (os : List AObj) (τ : Nat → AV) (H : AHeap) (next : Nat) (names : List Nat) (os2 : List (Option AObj)) (Hb : AHeap) : Prop where
  next : Hb.next = H.next + (next - (ng + (ks.length + xs.length)))
  new : ∀ (j k : Nat) (u : AObj), names[j]? = some k → os2[j]? = some (some u) → u.isRo = false → Hb.get (bkN (kN ng ks xs) H.next k) = some (lfO (bkN (kN ng ks xs) H.next) τ u)
  old : ∀ id o, H.get id = some o → (∀ (j : Nat) u, ks[j]? = some id → os[j]? = some u → u.isRo = true) → Hb.get id = some o
section
variable {E : Env} {P : Program} {I : List MEnt → AHeap → World → Prop} {ih : Task → Option TRes} {ro : Option Nat}
end
end
end Go.Vai
end
section
namespace Go.Vai
noncomputable section
def pinD (l : List (Nat × Nat)) : Pin := fun op => match op.dst with
  | some d => (l.find? fun x => Nat.beq x.1 d).map fun x => Int.ofNat x.2
  | none => none
structure LeafW where
  e : AExit
  n : Nat
  rd : Bool
  df : Bool
  vs : List (Option AV)
  H : AHeap
section
variable {E : Env} {P : Program} {I : List MEnt → AHeap → World → Prop} {ih : Task → Option TRes} {ro : Option Nat}
end
end
end Go.Vai
end
section
namespace Go.Vai
noncomputable section
def JG (gl : List (Nat × List AV)) (M : List MEnt) (H : AHeap) (w : World) : Prop := GlobOk gl w ∧ ∀ x ∈ gl, ¬ Wr M H x.1
theorem jg_carried (gl : List (Nat × List AV)) : Carried (JG gl) where
  ext := fun M H w M' H' w' ⟨h1, h2⟩ x => by
    have k : ∀ g av, (g, av) ∈ gl → w'.heap[g]? = w.heap[g]? ∧ ¬ Wr M' H' g := fun g av hm => by
      obtain ⟨cs, e, lo, hi, a, b⟩ := h1 g av hm
      exact x.old g (Array.getElem?_eq_some_iff.1 a).1 (h2 _ hm)
    refine ⟨fun g av hm => ?_, fun y hy => (k y.1 y.2 hy).2⟩
    obtain ⟨cs, e, lo, hi, a, b⟩ := h1 g av hm
    exact ⟨cs, e, lo, hi, by rw [(k g av hm).1]; exact a, b⟩
  ren := fun M H w M' H' ⟨h1, h2⟩ _ _ hs => ⟨h1, fun x hx hw => h2 x hx (hs _ hw)⟩
theorem Kept.jg {gl : List (Nat × List AV)} {w0 w : World} {M : List MEnt} {H : AHeap} (h0 : GlobOk gl w0) (h : Kept gl w0 M H w) : JG gl M H w := ⟨h.1, fun x hx => by
  obtain ⟨cs, e, lo, hi, a, b⟩ := h0 x.1 x.2 hx
  exact h.2.2 _ (Array.getElem?_eq_some_iff.1 a).1⟩
def GR (ng : Nat) (M : List MEnt) : Prop := ∀ g, g < ng → ∃ m, M[g]? = some m ∧ m.block = g ∧ m.base = 0
def SmOkJ (P : Program) (gl : List (Nat × List AV)) (ng : Nat) (sm : Sm) : Prop := ∀ f args H v H' M w cargs, sm f args H = some (v, H') → JG gl M H w → GR ng M → HRel M H w → VRels M args cargs → CallsA P f cargs M H w (.ret v H')
section
variable {P : Program} {gl : List (Nat × List AV)} {ng : Nat}
theorem SmOk.j {sm : Sm} (h : SmOk P gl sm) : SmOkJ P gl ng sm := fun f args H v H' M w cargs hs hj _ hr ha => h f args H v H' M w cargs hs hj.1 hr ha
theorem SmOkJ.or {a b : Sm} (ha : SmOkJ P gl ng a) (hb : SmOkJ P gl ng b) : SmOkJ P gl ng (orSm a b) := by
  intro f args H v H' M w cargs h hw hg hr hv
  unfold orSm at h
  cases e : a f args H with
  | none => rw [e] at h; exact hb f args H v H' M w cargs h hw hg hr hv
  | some r =>
    rw [e] at h
    simp only [Option.some.injEq] at h
    subst h
    exact ha f args H v H' M w cargs e hw hg hr hv
theorem envOk_j {skip : List Nat} {sm : Sm} {I : List MEnt → AHeap → World → Prop} (hN : namesOk skip P.funcs.toList 0 = true) (hS : SmOkJ P gl ng sm) (hM : P.follows .mixedOrders = true)
    (hX : ∀ M H w, I M H w → JG gl M H w) (hI : ∀ M H w M' H' w', I M H w → Ext M H w M' H' w' → I M' H' w') : EnvOk (envOf P ng skip sm) P I where
  tys := tysOk_of P ng skip _
  fns := fnsOk_of hN
  carry := hI
  mixed := hM
  sm := fun f args H v H' M w cargs _ h st ha => hS f args H v H' M w cargs h (hX _ _ _ st.i) st.g st.hr ha
end
def mtN (K nk : List Nat) (nx k : Nat) : Nat := match K[k]? with
  | some i => i
  | none => match posOf k nk nx with
    | some p => p
    | none => 0
theorem mtN_old {K nk : List Nat} {nx k i : Nat} (h : K[k]? = some i) : mtN K nk nx k = i := by unfold mtN; rw [h]
theorem posOf_nd {i : Nat} : ∀ {K : List Nat} {k b : Nat}, K.Nodup → K[k]? = some i → posOf i K b = some (b + k) := fun hK h => posOf_nodup hK h
theorem mtN_new {K nk : List Nat} {nx j k : Nat} (hn : nk.Nodup) (hj : nk[j]? = some k) (hk : K.length ≤ k) : mtN K nk nx k = nx + j := by
  unfold mtN
  rw [List.getElem?_eq_none hk, posOf_nodup hn hj]
mutual
def inV (R : Nat → Prop) : AV → Prop
  | .ptr i _ => R i
  | .sl i _ _ _ => R i
  | .yld i => R i
  | .mapv i => R i
  | .fn _ x y => inVs R x ∧ inVs R y
  | .iface _ x => inV R x
  | .agg l => inVs R l
  | .tup l => inVs R l
  | .ext _ _ _ _ _ _ | .nilm | .opq _ | .bool _ | .int _ _ | .str _ | .nilp | .nils | .sl0 | .nilf | .nili => True
def inVs (R : Nat → Prop) : List AV → Prop
  | [] => True
  | v :: l => inV R v ∧ inVs R l
end
section
variable {β : Nat → Nat} {τ : Nat → AV} {D R : Nat → Prop} {θ : Nat → Tag} {M M' : List MEnt} (hM : ∀ k m, R k → M[k]? = some m → M'[β k]? = some m) (hτ : ∀ j, D j → VRel M' (τ j) (tagV (θ j)))
include hM hτ
mutual
theorem lfV_relR : ∀ (v : AV) (cv : Value), inV R v → exV D θ v → VRel M v cv → VRel M' (lfV β τ v) cv
  | .ptr i o, cv, hi, _, ⟨m, hm, e⟩ => ⟨m, hM _ _ hi hm, e⟩
  | .sl i o n c, cv, hi, _, ⟨m, cc, hm, e⟩ => ⟨m, cc, hM _ _ hi hm, e⟩
  | .yld i, cv, hi, _, ⟨m, hm, e⟩ => ⟨m, hM _ _ hi hm, e⟩
  | .mapv i, cv, hi, _, ⟨m, hm, e⟩ => ⟨m, hM _ _ hi hm, e⟩
  | .fn f x y, cv, hi, h, ⟨fs, cs, e, r1, r2⟩ => ⟨fs, cs, e, lfVs_relR x fs hi.1 h.1 r1, lfVs_relR y cs hi.2 h.2 r2⟩
  | .iface t x, cv, hi, h, ⟨y, e, r⟩ => ⟨y, e, lfV_relR x y hi h r⟩
  | .agg l, cv, hi, h, ⟨vs, e, r⟩ => ⟨vs, e, lfVs_relR l vs hi h r⟩
  | .tup l, cv, hi, h, ⟨vs, e, r⟩ => ⟨vs, e, lfVs_relR l vs hi h r⟩
  | .ext j k b o n c, cv, _, h, r => by
    have h1 := hτ j h.1
    rw [h.2] at h1
    have e : cv = extV k b o n c := r
    rw [e]
    exact h1
  | .nilm, _, _, _, r => r
  | .opq _, _, _, _, r => r
  | .bool _, _, _, _, r => r
  | .int _ _, _, _, _, r => r
  | .str _, _, _, _, r => r
  | .nilp, _, _, _, r => r
  | .nils, _, _, _, r => r
  | .sl0, _, _, _, r => r
  | .nilf, _, _, _, r => r
  | .nili, _, _, _, r => r
theorem lfVs_relR : ∀ (l : List AV) (vs : List Value), inVs R l → exVs D θ l → VRels M l vs → VRels M' (lfVs β τ l) vs
  | [], [], _, _, _ => (fun _ _ => trivial) hM hτ
  | [], _ :: _, _, _, r => r.elim
  | _ :: _, [], _, _, r => r.elim
  | v :: l, c :: vs, hi, h, r => ⟨lfV_relR v c hi.1 h.1 r.1, lfVs_relR l vs hi.2 h.2 r.2⟩
end
end
def MutO (β : Nat → Nat) (τ : Nat → AV) (D R : Nat → Prop) (θ : Nat → Tag) (u o : AObj) : Prop :=
  ∃ n t t' e g fz mk, u = .cells n t e g fz false mk ∧ o = .cells n t' e g fz false mk ∧ ∀ i y, t'.get i = some y → ∃ x, t.get i = some x ∧ inV R x ∧ exV D θ x ∧ y = lfV β τ x
theorem MutO.rel {β : Nat → Nat} {τ : Nat → AV} {D R : Nat → Prop} {θ : Nat → Tag} {M M' : List MEnt} (hM : ∀ k m, R k → M[k]? = some m → M'[β k]? = some m) (hτ : ∀ j, D j → VRel M' (τ j) (tagV (θ j))) {m : MEnt} {w : World} {u o : AObj} (h : MutO β τ D R θ u o) (r : ORel M m w u) : ORel M' m w o := by
  obtain ⟨n, t, t', e, g, fz, mk, rfl, rfl, ht⟩ := h
  obtain ⟨cur, e', lo, hi, h1, h2, h3, h4, h5, h6, h7⟩ := r
  refine ⟨cur, e', lo, hi, h1, h2, h3, h4, h5, h6, fun i y hy => ?_⟩
  obtain ⟨x, hx, hR, hD, rfl⟩ := ht i y hy
  obtain ⟨a, cv, b, c⟩ := h7 i x hx
  exact ⟨a, cv, b, lfV_relR hM hτ x cv hR hD c⟩
section
variable {E : Env} {P : Program} {gl : List (Nat × List AV)}
theorem frame_calls {f : FuncId} {args : List AV} {cargs : List Value} {v : AV} {M : List MEnt} {H H2 H' : AHeap} {w : World} {os : List AObj} {ks nk : List Nat} {n : Nat} {D : Nat → Prop} {pl : Nat → Nat × Nat} {τ : Nat → AV} {θ : Nat → Tag} (hE : EnvOk E P (JG gl)) (hf : (E.fn f).isSome = true)
    (hj : JG gl M H w) (hg : GRel E M) (hr : HRel M H w) (hk : FrK E.ng ks [] H) (hl : os.length = ks.length)
    (hos : ∀ (j : Nat) u, os[j]? = some u → ∃ i o, ks[j]? = some i ∧ H.get i = some o ∧ RObjX (kN E.ng ks []) D pl τ θ i o u) (hth : ThOk M w D pl τ θ)
    (ha : VRels (renM (kN E.ng ks []) M) args cargs) (h : run E n (.call f args (mkH E.ng os)) = some (.call (.ret v H2)))
    (hnk : nk.Nodup) (hnk2 : ∀ k ∈ nk, E.ng + ks.length ≤ k ∧ ∃ u, H2.get k = some u) (hvR : inV (fun k => k < E.ng + ks.length ∨ k ∈ nk) v) (hvD : exV D θ v) (hnx : H'.next = H.next + nk.length)
    (hinv : ∀ id o, H'.get id = some o → (∃ k u, id = mtN (kN E.ng ks []) nk H.next k ∧ (k < E.ng + ks.length ∨ k ∈ nk) ∧ H2.get k = some u ∧ MutO (mtN (kN E.ng ks []) nk H.next) τ D (fun k => k < E.ng + ks.length ∨ k ∈ nk) θ u o) ∨
      (H.get id = some o ∧ ∀ (j : Nat) u, ks[j]? = some id → os[j]? = some u → u.isRo = true)) :
    CallsA P f cargs M H w (.ret (lfV (mtN (kN E.ng ks []) nk H.next) τ v) H') := by
  obtain ⟨fn, hfn⟩ := Option.isSome_iff_exists.1 hf
  have ren : RenX E.ng (kN E.ng ks []) D pl τ θ (newFr fn []) H (newFr fn []) (mkH E.ng os) := by
    refine ⟨fun g hg => kN_glob hg, fun i hi => ?_, hk.all, ?_, fun k u hu => ?_, rfl, rfl, ⟨rfl, rfl⟩, fun i y hy => ?_⟩
    · unfold kN at hi
      rcases List.mem_append.1 hi with hi | hi
      · rw [List.mem_range] at hi
        exact Nat.lt_of_lt_of_le hi hk.gl
      · exact (hk.lt i hi).2
    · rw [kN_len]
      show (news _ os).next = _
      rw [news_next]
      simp [hl]
    · obtain ⟨j, rfl, hj⟩ := mkH_get hu
      obtain ⟨i, o, a1, a2, a3⟩ := hos j u hj
      exact ⟨i, o, by rw [kN_at (by have := (List.getElem?_eq_some_iff.1 hj).1; omega)]; exact a1, a2, a3⟩
    · have hy : (Tr.nil : Tr AV).get i = some y := hy
      simp [Tr.get_nil] at hy
  have hlt : ∀ i ∈ kN E.ng ks [], i < M.length := fun i hi => by rw [hr.len]; exact ren.lt i hi
  have at_ := ren.atN hr
  have s0 : St E (JG gl) (renM (kN E.ng ks []) M) (mkH E.ng os) w := by
    have hM := renM_ren hlt
    have inj : ∀ k l i : Nat, (kN E.ng ks [])[k]? = some i → (kN E.ng ks [])[l]? = some i → k = l := fun k l i hk' hl' => by
      have hk2 := (List.getElem?_eq_some_iff.1 hk')
      exact (List.getElem?_inj hk2.1 ren.nodup).1 (hk'.trans hl'.symm)
    have hr' : HRel (renM (kN E.ng ks []) M) (mkH E.ng os) w := by
      refine ⟨by simp [renM, ren.next], fun k u hu => ?_, fun k l u v m p hu hv hm hp hkl hb => ?_⟩
      · obtain ⟨i, o, e1, e2, e3⟩ := ren.obj k u hu
        obtain ⟨m, hm, ho⟩ := hr.obj i o e2
        exact ⟨m, by rw [at_ k i e1]; exact hm, e3.rel hM hth hm ho⟩
      · obtain ⟨i, o, e1, e2, e3⟩ := ren.obj k u hu
        obtain ⟨j, q, f1, f2, f3⟩ := ren.obj l v hv
        rw [at_ k i e1] at hm
        rw [at_ l j f1] at hp
        have hij : i ≠ j := fun e => by subst e; exact hkl (inj k l i e1 f1)
        obtain ⟨z1, z2⟩ := hr.inj i j o q m p e2 f2 hm hp hij hb
        constructor
        · cases hx : u.isRo with
          | true => rfl
          | false => rw [e3.wr hx] at z1; cases z1
        · cases hx : v.isRo with
          | true => rfl
          | false => rw [f3.wr hx] at z2; cases z2
    refine ⟨hr', fun g hg2 => ?_, (jg_carried gl).ren _ _ _ _ _ hj hr hr' fun b hb => ?_⟩
    · obtain ⟨m, hm, h2⟩ := hg g hg2
      exact ⟨m, by rw [at_ g g (ren.glob g hg2)]; exact hm, h2⟩
    · obtain ⟨k, u, i, o, _, _, _, e2, e3, m, e4, e5⟩ := ren.wrS hr hb
      exact ⟨i, o, m, e2, e3, e4, e5⟩
  have key := callsA_enters hE hfn (run_sound hE h s0 ha)
  refine .inr ⟨key.1, CallsIn.mono key.2 ?_⟩
  intro e w2 hpost
  cases e with
  | outgrown => exact hpost.elim
  | panicked ch => obtain ⟨_, _, _, _, e, _⟩ := hpost; cases e
  | returned cv =>
    obtain ⟨v2, H22, M2', e, x1, hr2, hv⟩ := hpost
    cases e
    have hKl : (renM (kN E.ng ks []) M).length = (kN E.ng ks []).length := by simp [renM]
    have hKn : (kN E.ng ks []).length = E.ng + ks.length := by rw [kN_len]; simp
    have pre : renM (kN E.ng ks []) M <+: M2' := x1.pre
    have ltK : ∀ k i, (kN E.ng ks [])[k]? = some i → i < H.next := fun k i h => ren.lt i (List.mem_of_getElem? h)
    have inj : ∀ k l i : Nat, (kN E.ng ks [])[k]? = some i → (kN E.ng ks [])[l]? = some i → k = l := fun k l i hk' hl' => by
      have hk2 := (List.getElem?_eq_some_iff.1 hk')
      exact (List.getElem?_inj hk2.1 ren.nodup).1 (hk'.trans hl'.symm)
    have preM : M <+: M ++ renM nk M2' := List.prefix_append _ _
    have hβ : ∀ k, (k < E.ng + ks.length ∨ k ∈ nk) → (∃ i, (kN E.ng ks [])[k]? = some i ∧ mtN (kN E.ng ks []) nk H.next k = i) ∨ ∃ j, nk[j]? = some k ∧ mtN (kN E.ng ks []) nk H.next k = H.next + j := fun k hk3 => by
      rcases hk3 with h3 | h3
      · have : k < (kN E.ng ks []).length := by omega
        exact .inl ⟨_, List.getElem?_eq_getElem this, mtN_old (List.getElem?_eq_getElem this)⟩
      · obtain ⟨j, hj2⟩ := List.getElem?_of_mem h3
        exact .inr ⟨j, hj2, mtN_new hnk hj2 (by have := (hnk2 k h3).1; omega)⟩
    have hM : ∀ k m, (k < E.ng + ks.length ∨ k ∈ nk) → M2'[k]? = some m → (M ++ renM nk M2')[mtN (kN E.ng ks []) nk H.next k]? = some m := fun k m hR hm => by
      rcases hβ k hR with ⟨i, h1, h2⟩ | ⟨j, h1, h2⟩
      · rw [h2, List.getElem?_append_left (by rw [hr.len]; exact ltK _ _ h1), ← at_ k i h1]
        have hk4 : k < (renM (kN E.ng ks []) M).length := by rw [hKl]; exact (List.getElem?_eq_some_iff.1 h1).1
        have := pre_get pre (List.getElem?_eq_getElem hk4)
        rw [hm] at this; cases this
        exact List.getElem?_eq_getElem hk4
      · rw [h2, List.getElem?_append_right (by rw [hr.len]; omega), hr.len, show H.next + j - H.next = j by omega]
        have hren := renM_ren (keep := nk) (M := M2') fun i hi => by obtain ⟨_, u, hu⟩ := hnk2 i hi; exact hr2.lt hu
        have := hren j k h1
        rw [Nat.zero_add] at this
        rw [this]; exact hm
    have hβinj : ∀ k l, (k < E.ng + ks.length ∨ k ∈ nk) → (l < E.ng + ks.length ∨ l ∈ nk) → mtN (kN E.ng ks []) nk H.next k = mtN (kN E.ng ks []) nk H.next l → k = l := fun k l hk5 hl5 h => by
      rcases hβ k hk5 with ⟨i, h1, h2⟩ | ⟨i, h1, h2⟩ <;> rcases hβ l hl5 with ⟨j, g1, g2⟩ | ⟨j, g1, g2⟩
      · rw [h2, g2] at h; subst h; exact inj _ _ _ h1 g1
      · have := ltK _ _ h1; omega
      · have := ltK _ _ g1; omega
      · have : i = j := by omega
        subst this
        rw [h1] at g1; exact Option.some.inj g1
    have hτ : ∀ j, D j → VRel (M ++ renM nk M2') (τ j) (tagV (θ j)) := fun j hj2 => (hth j hj2).1.mono preM
    have oldM : ∀ id o m, H.get id = some o → (M ++ renM nk M2')[id]? = some m → M[id]? = some m := fun id o m ho hm => by
      obtain ⟨k, hk6, _⟩ := hr.obj id o ho
      have := pre_get preM hk6
      rw [hm] at this; cases this
      exact hk6
    have free : ∀ id o m, H.get id = some o → (∀ (j : Nat) u, ks[j]? = some id → os[j]? = some u → u.isRo = true) → M[id]? = some m → ¬ Wr (renM (kN E.ng ks []) M) (mkH E.ng os) m.block := fun id o m ho hk7 hm hw => by
      obtain ⟨k, u, i, p, g1, g0, g2, g3, g4, m', g5, g6⟩ := ren.wrS hr hw
      by_cases hij : i = id
      · subst hij
        obtain ⟨j, rfl, hj3⟩ := mkH_get g1
        have hjl : j < ks.length := by have := (List.getElem?_eq_some_iff.1 hj3).1; omega
        rw [kN_at hjl] at g2
        rw [hk7 j u g2 hj3] at g0; cases g0
      · have := (hr.inj i id p o m' m g3 ho g5 hm hij g6).1
        rw [g4] at this; cases this
    have newM : ∀ k u m, (k < E.ng + ks.length ∨ k ∈ nk) → H2.get k = some u → (M ++ renM nk M2')[mtN (kN E.ng ks []) nk H.next k]? = some m → M2'[k]? = some m ∧ ORel M2' m w2 u := fun k u m hR hu hm => by
      obtain ⟨m', hm', ho⟩ := hr2.obj k u hu
      have := hM k m' hR hm'
      rw [hm] at this; cases this
      exact ⟨hm', ho⟩
    have mro : ∀ {u o : AObj}, MutO (mtN (kN E.ng ks []) nk H.next) τ D (fun k => k < E.ng + ks.length ∨ k ∈ nk) θ u o → u.isRo = false ∧ o.isRo = false := fun ⟨_, _, _, _, _, _, _, e1, e2, _⟩ => by subst e1; subst e2; exact ⟨rfl, rfl⟩
    have apart : ∀ k u m1 id o m2, H2.get k = some u → u.isRo = false → M2'[k]? = some m1 → H.get id = some o → (∀ (j : Nat) u, ks[j]? = some id → os[j]? = some u → u.isRo = true) → M[id]? = some m2 → m1.block ≠ m2.block := fun k u m1 id o m2 hu hro h1 ho hk8 h2 hb => by
      have hlt2 : m2.block < w.heap.size := by
        obtain ⟨m', hm', hob⟩ := hr.obj id o ho
        rw [h2] at hm'; cases hm'
        exact hob.lt
      have hw : Wr M2' H2 m2.block := ⟨k, u, m1, hu, hro, h1, hb⟩
      exact (x1.old _ hlt2 (free id o m2 ho hk8 h2)).2 hw
    have hrb : HRel (M ++ renM nk M2') H' w2 := by
      refine ⟨by rw [List.length_append, hr.len, hnx]; simp [renM], fun id o ho => ?_, fun i j o p m k hi hj4 hm hk9 hij hb => ?_⟩
      · rcases hinv id o ho with ⟨k, u, rfl, hR, hu, hmo⟩ | ⟨ho, hk7⟩
        · obtain ⟨m, hm, hob⟩ := hr2.obj k u hu
          exact ⟨m, hM k m hR hm, hmo.rel hM hτ hob⟩
        · obtain ⟨m, hm, hob⟩ := hr.obj id o ho
          exact ⟨m, pre_get preM hm, hob.carry preM (x1.old _ hob.lt (free id o m ho hk7 hm)).1⟩
      · rcases hinv i o hi with ⟨k1, u1, rfl, hR1, hu1, hmo1⟩ | ⟨ho1, hk1⟩ <;> rcases hinv j p hj4 with ⟨k2, u2, rfl, hR2, hu2, hmo2⟩ | ⟨ho2, hk2⟩
        · have := (hr2.inj k1 k2 u1 u2 m k hu1 hu2 (newM _ _ _ hR1 hu1 hm).1 (newM _ _ _ hR2 hu2 hk9).1 (fun e => hij (by rw [e])) hb).1
          rw [(mro hmo1).1] at this; cases this
        · exact absurd hb (apart k1 u1 m j p k hu1 (mro hmo1).1 (newM _ _ _ hR1 hu1 hm).1 ho2 hk2 (oldM _ _ _ ho2 hk9))
        · exact absurd hb.symm (apart k2 u2 k i o m hu2 (mro hmo2).1 (newM _ _ _ hR2 hu2 hk9).1 ho1 hk1 (oldM _ _ _ ho1 hm))
        · exact hr.inj i j o p m k ho1 ho2 (oldM _ _ _ ho1 hm) (oldM _ _ _ ho2 hk9) hij hb
    have ext : Ext M H w (M ++ renM nk M2') H' w2 := by
      refine ⟨preM, x1.size, x1.os, x1.tape, x1.output, fun b hb hn => ?_, fun b hb hn hkn => ?_⟩
      · have hn' : ¬ Wr (renM (kN E.ng ks []) M) (mkH E.ng os) b := fun hw => by
          obtain ⟨k, u, i, o, _, _, _, g3, g4, m, g5, g6⟩ := ren.wrS hr hw
          exact hn ⟨i, o, m, g3, g4, g5, g6⟩
        refine ⟨(x1.old b hb hn').1, ?_⟩
        rintro ⟨id, o, m, ho, hro, hm, rfl⟩
        rcases hinv id o ho with ⟨k, u, rfl, hR, hu, hmo⟩ | ⟨ho, hk7⟩
        · exact (x1.old _ hb hn').2 ⟨k, u, m, hu, (mro hmo).1, (newM _ _ _ hR hu hm).1, rfl⟩
        · exact hn ⟨id, o, m, ho, hro, oldM _ _ _ ho hm, rfl⟩
      · obtain ⟨id, o, m, ho, hm, rfl⟩ := hkn
        rcases hinv id o ho with ⟨k, u, rfl, hR, hu, hmo⟩ | ⟨ho, hk7⟩
        · have hw : Wr M2' H2 m.block := ⟨k, u, m, hu, (mro hmo).1, (newM _ _ _ hR hu hm).1, rfl⟩
          by_cases hc : Wr (renM (kN E.ng ks []) M) (mkH E.ng os) m.block
          · obtain ⟨k0, u0, i0, o0, _, _, _, g3, _, m0, g5, g6⟩ := ren.wrS hr hc
            exact hn ⟨i0, o0, m0, g3, g5, g6⟩
          · exact (x1.old _ hb hc).2 hw
        · exact hn ⟨id, o, m, ho, oldM _ _ _ ho hm, rfl⟩
    exact ⟨_, H', _, rfl, ext, hrb, lfV_relR hM hτ v cv hvR hvD hv⟩
end
end
end Go.Vai
end
section
namespace Go.Vai
noncomputable section
section
variable {T : Tr AV} {L : List UInt8} (h : RowB T L)
include h
theorem hasYr {o n : Nat} (hn : o + n ≤ L.length) : hasY (getA T o n) = true := by rw [h.cells hn]; exact hasY_map _
theorem getYr {o n : Nat} (hn : o + n ≤ L.length) : getY (getA T o n) = (L.drop o).take n := by rw [h.cells hn]; exact getY_map _
theorem prf_has {a : Nat} (ha : a ≤ L.length) : hasA T 0 (Nat.mul a 1) = true := h.has (show 0 + a * 1 ≤ L.length by omega)
theorem prf_hasY {a : Nat} (ha : a ≤ L.length) : hasY (getA T 0 (Nat.mul a 1)) = true := hasYr h (show 0 + a * 1 ≤ L.length by omega)
theorem prf_get {a : Nat} (ha : a ≤ L.length) : getY (getA T 0 (Nat.mul a 1)) = L.take a := by
  rw [getYr h (show 0 + Nat.mul a 1 ≤ L.length from show 0 + a * 1 ≤ L.length by omega), List.drop_zero]
  show L.take (a * 1) = _
  rw [Nat.mul_one]
omit h in
end
theorem z0 (a : Nat) : Nat.add 0 a = a := Nat.zero_add a
end
end Go.Vai
end
section
namespace Go.Vai
noncomputable section
variable {P : Program} {gl : List (Nat × List AV)}
theorem doneS_calls {E : Env} {sk : Smk (AV × List (Option Obj1))} {pn : Pin} {f : FuncId} {args : List AV} {keep : List Nat} {v : AV} {os : List Obj1} {n : Nat} {o : Orc} (hE : ∀ w, GlobOk gl w → EnvOk E P (Kept gl w)) (hsk : SmkOk E sk) (hgl : (gl.all fun x => Nat.blt x.1 E.ng) = true) (hf : (E.fn f).isSome = true)
    (hp : ∀ v ∈ args, Plain v) (h : callPS E sk pn n (.call f args (gHeap E.ng gl)) o (kPack keep) = some (v, os.map some)) (hk : keep.Nodup) (hro : (os.all fun o => !o.ro) = true)
    {M : List MEnt} {H : AHeap} {w : World} {cargs : List Value} (hw : GlobOk gl w) (hr : HRel M H w) (ha : VRels M args cargs) {u : AV} (hu : rnV H.next keep v = some u) : CallsA P f cargs M H w (.ret u (news H (os.map (mkO H.next keep)))) := by
  obtain ⟨x, o', e, hx⟩ := callPS_ok E hsk pn n _ _ _ _ h
  have hx : pack keep (some x) = some (v, os.map some) := hx
  cases x with
  | code a b c => cases hx
  | dcall a => cases hx
  | call c =>
  cases c with
  | pan v H => cases hx
  | ret v1 H1 =>
  have hx : some (v1, keep.map fun i => packO (H1.get i)) = some (v, os.map some) := hx
  simp only [Option.some.injEq, Prod.mk.injEq] at hx
  obtain ⟨rfl, h2⟩ := hx
  have hlen : os.length = keep.length := by
    have := congrArg List.length h2
    simpa using this.symm
  refine BodyTo.calls (body_closed hE hgl hf (VRels.anyPlain hp ha _) e) hw hr ?_
  rintro v2 H2 ⟨rfl, rfl⟩
  refine ⟨keep, hk, by rw [List.length_map, hlen], hu, fun j x hx => ?_⟩
  obtain ⟨o, ho, rfl⟩ := List.mem_map.1 (List.mem_of_getElem? hx)
  rw [List.getElem?_map] at hx
  obtain ⟨o2, ho2, e2⟩ := Option.map_eq_some_iff.1 hx
  have hj : j < os.length := (List.getElem?_eq_some_iff.1 ho2).1
  have h3 := congrArg (·[j]?) h2
  simp only [List.getElem?_map, ho2, Option.map_some] at h3
  obtain ⟨i, hi, h4⟩ := Option.map_eq_some_iff.1 h3
  cases hg : H2.get i with
  | none => rw [hg] at h4; cases h4
  | some p =>
    rw [hg] at h4
    obtain ⟨r1, r2⟩ := mkO_robj (b := H.next) (keep := keep) h4
    refine ⟨i, p, hi, hg, by rw [← e2]; exact r1, ?_⟩
    rw [r2]
    have := List.all_eq_true.1 hro o2 (List.mem_of_getElem? ho2)
    simpa using this
end
end Go.Vai
end
