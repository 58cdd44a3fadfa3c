/- A piece of code run in a small memory, laid back into the great one: names turned back, what it did not touch stays. -/
import Derived.Test.YtmppdannkpdpmaaGreatDoorVaiLoop
section
namespace Go.Vai
noncomputable section
def wpL (P : Program) (ro : Option Nat) : List Code → (Exit → Act → World → Prop) → Act → World → Prop
  | [], Q => Q .normal
  | c :: cs, Q => fun a w => c.wpIn (FF ro) 0 P (Exit.then (wpL P ro cs Q) Q) a w
theorem Kp {K : Act → World → Prop} {Q : Exit → Act → World → Prop} {x : Exit} {a : Act} {w : World} (h : (x = .normal ∧ K a w) ∨ (x ≠ .normal ∧ Q x a w)) : Exit.then K Q x a w := by
  rcases h with ⟨rfl, h⟩ | ⟨h, hq⟩
  · exact h
  · cases x <;> first | exact absurd rfl h | exact hq
theorem Zci {K : Act → World → Prop} {Q : Exit → Act → World → Prop} {x : Exit} {a : Act} {w : World} (h : Exit.then K Q x a w) : (x = .normal ∧ K a w) ∨ (x ≠ .normal ∧ Q x a w) := by
  cases x with
  | normal => exact .inl ⟨rfl, h⟩
  | _ => exact .inr ⟨(by intro h; cases h), h⟩
theorem Zgg {P : Program} {ro : Option Nat} : ∀ {l : List Code} {Q Q' : Exit → Act → World → Prop} {a : Act} {w : World}, wpL P ro l Q a w → (∀ x a w, Q x a w → Q' x a w) → wpL P ro l Q' a w
  | [], _, _, _, _, h, hq => hq _ _ _ h
  | _ :: _, _, _, _, _, h, hq => wpIn_mono h fun x a w hx => by
    rcases Zci hx with ⟨e, h⟩ | ⟨e, h⟩
    · exact Kp (.inl ⟨e, Zgg h hq⟩)
    · exact Kp (.inr ⟨e, hq _ _ _ h⟩)
theorem Zgy {P : Program} {ro : Option Nat} : ∀ {l m : List Code} {Q : Exit → Act → World → Prop} {a : Act} {w : World}, wpL P ro l (Exit.then (wpL P ro m Q) Q) a w → wpL P ro (l ++ m) Q a w
  | [], _, _, _, _, h => h
  | _ :: _, _, _, _, _, h => wpIn_mono h fun x a w hx => by
    rcases Zci hx with ⟨e, h⟩ | ⟨e, h⟩
    · exact Kp (.inl ⟨e, Zgy h⟩)
    · refine Kp (.inr ⟨e, ?_⟩)
      rcases Zci h with ⟨e2, _⟩ | ⟨_, h⟩
      · exact absurd e2 e
      · exact h
section
variable {E : Env} {P : Program} {I : List MEnt → AHeap → World → Prop} {ih : Task → Option TRes} {ro : Option Nat}
def Kf (E : Env) (P : Program) (I : List MEnt → AHeap → World → Prop) (ro : Option Nat) (l : List Code) (fr : AFr) (H : AHeap) (Q : TQ) : Prop :=
  ∀ M w a, St E I M H w → FRel ro M fr a → wpL P ro l (Zcy E I ro Q) a w
theorem Kf.nil {fr : AFr} {H : AHeap} {Q : TQ} (h : Q .normal fr H) : Kf E P I ro [] fr H Q := fun M _ _ st hf => ⟨.normal, fr, H, M, h, st, rfl, hf⟩
theorem Kf.mono {l : List Code} {fr : AFr} {H : AHeap} {Q Q' : TQ} (h : Kf E P I ro l fr H Q) (hq : ∀ e fr H, Q e fr H → Q' e fr H) : Kf E P I ro l fr H Q' := fun M w a st hf =>
  Zgg (h M w a st hf) fun _ _ _ ⟨e, fr, H, M, q, r⟩ => ⟨e, fr, H, M, hq _ _ _ q, r⟩
theorem Zg2 {l : List Code} {Q : TQ} {ex : Exit} {a : Act} {w : World} (h : Zcy E I ro (fun e fr' H' => (e = .normal ∧ Kf E P I ro l fr' H' Q) ∨ (e ≠ .normal ∧ Q e fr' H')) ex a w) : Exit.then (wpL P ro l (Zcy E I ro Q)) (Zcy E I ro Q) ex a w := by
  obtain ⟨e, fr1, H1, M1, q, s1, er, f1⟩ := h
  rcases q with ⟨rfl, q⟩ | ⟨hne, q⟩
  · simp only [X3] at er; subst er
    exact q M1 w a s1 f1
  · exact Kp (.inr ⟨fun hx => hne (er.normal.2 hx), e, fr1, H1, M1, q, s1, er, f1⟩)
theorem Kf.cons {c : Code} {l : List Code} {fr : AFr} {H : AHeap} {Q : TQ} (h : Wv E P I ro c fr H fun e fr' H' => (e = .normal ∧ Kf E P I ro l fr' H' Q) ∨ (e ≠ .normal ∧ Q e fr' H')) : Kf E P I ro (c :: l) fr H Q := fun M w a st hf =>
  wpIn_mono (h M w a st hf) fun _ _ _ hx => Zg2 hx
theorem Kf.append {l m : List Code} {fr : AFr} {H : AHeap} {Q : TQ} (h : Kf E P I ro l fr H fun e fr' H' => (e = .normal ∧ Kf E P I ro m fr' H' Q) ∨ (e ≠ .normal ∧ Q e fr' H')) : Kf E P I ro (l ++ m) fr H Q := fun M w a st hf =>
  Zgy (Zgg (h M w a st hf) fun _ _ _ hx => Zg2 hx)
theorem Kf.of : ∀ {l : List Code} {fr : AFr} {H : AHeap} {Q : TQ}, Yc E P I ro l fr H Q → Kf E P I ro l fr H Q
  | [], _, _, _, h => fun M w a st hf => h M w a st hf
  | c :: l, fr, H, Q, h => Kf.cons (Wv.mono (Q' := fun e fr' H' => (e = .normal ∧ Kf E P I ro l fr' H' Q) ∨ (e ≠ .normal ∧ Q e fr' H')) h fun e fr H q => q.imp (fun ⟨a, b⟩ => ⟨a, Kf.of b⟩) id)
theorem Kf.ren (hI : Carried I) {l : List Code} {keep : List Nat} {fr fr' : AFr} {H H' : AHeap} {Q : TQ} (r : Ren E.ng keep fr H fr' H') (h : Kf E P I ro l fr' H' Q) : Kf E P I ro l fr H Q := by
  intro M w a st hf
  obtain ⟨M', s2, f2⟩ := r.to hI st hf
  exact h M' w a s2 f2
end
abbrev Tag := Nat × Nat × Nat × Nat × Nat
def Zkf (x : Tag) : Value := Z14 x.1 x.2.1 x.2.2.1 x.2.2.2.1 x.2.2.2.2
mutual
def lfV (β : Nat → Nat) (τ : Nat → AV) : AV → AV
  | .ptr i o => .ptr (β i) o
  | .sl i o n c => .sl (β i) o n c
  | .yld i => .yld (β i)
  | .mapv i => .mapv (β i)
  | .fn f x y => .fn f (Zkn β τ x) (Zkn β τ y)
  | .iface t x => .iface t (lfV β τ x)
  | .agg l => .agg (Zkn β τ l)
  | .tup l => .tup (Zkn β τ l)
  | .ext j _ _ _ _ _ => τ j
  | .nilm => .nilm
  | .opq o => .opq o
  | .bool t => .bool t
  | .int k n => .int k n
  | .str s => .str s
  | .nilp => .nilp
  | .nils => .nils
  | .sl0 => .sl0
  | .nilf => .nilf
  | .nili => .nili
def Zkn (β : Nat → Nat) (τ : Nat → AV) : List AV → List AV
  | [] => []
  | v :: l => lfV β τ v :: Zkn β τ l
end
def lfT (β : Nat → Nat) (τ : Nat → AV) : Tr AV → Tr AV
  | .nil => .nil
  | .node v l r => .node (v.map (lfV β τ)) (lfT β τ l) (lfT β τ r)
theorem Zyj (β : Nat → Nat) (τ : Nat → AV) : ∀ (t : Tr AV) (i : Nat), (lfT β τ t).get i = (t.get i).map (lfV β τ) := by
  intro t
  induction t with
  | nil => intro i; rfl
  | node v l r ihl ihr =>
    intro i
    cases i with
    | zero => rfl
    | succ i =>
      simp only [lfT, Tr.get_succ]
      cases Nat.beq (i % 2) 0
      · exact ihr _
      · exact ihl _
def lfE (β : Nat → Nat) (τ : Nat → AV) (x : AV × AV × Nat) : AV × AV × Nat := (lfV β τ x.1, lfV β τ x.2.1, x.2.2)
def lfO (β : Nat → Nat) (τ : Nat → AV) : AObj → AObj
  | .cells n t e g fz ro mk => .cells n (lfT β τ t) e g fz ro mk
  | .loop st p n t ps sa bo d => .loop st p n (lfT β τ t) ps sa bo (β d)
  | .siter s p => .siter s p
  | .dfr => .dfr
  | .mp es c r => .mp (es.map (lfE β τ)) c r
  | .miter m since seen last => .miter (m.map β) since seen last
mutual
def exV (D : Nat → Prop) (θ : Nat → Tag) : AV → Prop
  | .ext j k b o n c => D j ∧ θ j = (k, b, o, n, c)
  | .fn _ x y => Zq2 D θ x ∧ Zq2 D θ y
  | .iface _ x => exV D θ x
  | .agg l => Zq2 D θ l
  | .tup l => Zq2 D θ l
  | .ptr _ _ | .sl _ _ _ _ | .yld _ | .mapv _ | .nilm | .opq _ | .bool _ | .int _ _ | .str _ | .nilp | .nils | .sl0 | .nilf | .nili => True
def Zq2 (D : Nat → Prop) (θ : Nat → Tag) : List AV → Prop
  | [] => True
  | v :: l => exV D θ v ∧ Zq2 D θ l
end
section
variable {β : Nat → Nat} {τ : Nat → AV} {D : Nat → Prop} {θ : Nat → Tag} {M M' : List MEnt} (hM : ∀ k m, M[k]? = some m → M'[β k]? = some m) (hτ : ∀ j, D j → Zm M' (τ j) (Zkf (θ j)))
include hM hτ
end
def bkN (K : List Nat) (nx k : Nat) : Nat := match K[k]? with
  | some i => i
  | none => nx + (k - K.length)
theorem Zwg {K : List Nat} {nx k i : Nat} (h : K[k]? = some i) : bkN K nx k = i := by unfold bkN; rw [h]
def isX : AV → Bool
  | .sl _ _ _ _ => true
  | .ptr _ _ => true
  | _ => false
def PlOk (H : AHeap) (pl : Nat → Nat × Nat) (τ : Nat → AV) (j : Nat) : Prop := ∃ n t e g fz ro mk, H.get (pl j).1 = some (.cells n t e g fz ro mk) ∧ t.get (pl j).2 = some (τ j) ∧ isX (τ j) = true
def Zpj (K : List Nat) (D : Nat → Prop) (pl : Nat → Nat × Nat) (τ : Nat → AV) (θ : Nat → Tag) (id i : Nat) (x y : AV) : Prop :=
  Vq 0 K x = some y ∨ ∃ j, y = .ext j (θ j).1 (θ j).2.1 (θ j).2.2.1 (θ j).2.2.2.1 (θ j).2.2.2.2 ∧ D j ∧ pl j = (id, i) ∧ x = τ j
def Zas (K : List Nat) (D : Nat → Prop) (pl : Nat → Nat × Nat) (τ : Nat → AV) (θ : Nat → Tag) (id : Nat) (o u : AObj) : Prop :=
  Q9 0 K o u ∨ (∃ n t e g fz ro mk t', o = .cells n t e g fz ro mk ∧ u = .cells n t' e g fz ro mk ∧ ∀ i y, t'.get i = some y → ∃ x, t.get i = some x ∧ Zpj K D pl τ θ id i x y) ∨
  (∃ n t e g fz ro mk e' g' fz' mk' t', o = .cells n t e g fz ro mk ∧ u = .cells n t' e' g' fz' true mk' ∧ (g' = none ∨ g' = g) ∧ ∀ i y, t'.get i = some y → ∃ x, t.get i = some x ∧ Zpj K D pl τ θ id i x y)
structure RenX (ng : Nat) (K : List Nat) (D : Nat → Prop) (pl : Nat → Nat × Nat) (τ : Nat → AV) (θ : Nat → Tag) (fr : AFr) (H : AHeap) (fr' : AFr) (H' : AHeap) : Prop where
  glob : ∀ g, g < ng → K[g]? = some g
  lt : ∀ i ∈ K, i < H.next
  nodup : K.Nodup
  next : H'.next = K.length
  obj : ∀ k u, H'.get k = some u → ∃ i o, K[k]? = some i ∧ H.get i = some o ∧ Zas K D pl τ θ i o u
  n : fr'.n = fr.n
  rd : fr'.rd = fr.rd
  df : fr.df = [] ∧ fr'.df = []
  t : ∀ i y, fr'.t.get i = some y → ∃ x, fr.t.get i = some x ∧ Vq 0 K x = some y
def Zws (M : List MEnt) (w : World) (D : Nat → Prop) (pl : Nat → Nat × Nat) (τ : Nat → AV) (θ : Nat → Tag) : Prop :=
  ∀ j, D j → Zm M (τ j) (Zkf (θ j)) ∧ ∀ m cur e r, M[(pl j).1]? = some m → w.heap[m.block]? = some (.cells cur e r) → cur[m.base + (pl j).2]? = some (Zkf (θ j))
theorem Zzt {M : List MEnt} {x : AV} {cv : Value} (h : Zm M x cv) (hx : isX x = true) : ∃ t : Tag, cv = Zkf t := by
  cases x <;> first | (exact absurd hx (by decide)) | skip
  case ptr i o =>
    obtain ⟨m, _, rfl⟩ := h
    exact ⟨(1, m.block, m.base + o, 0, 0), rfl⟩
  case sl i o n c =>
    obtain ⟨m, cc, _, rfl, _⟩ := h
    exact ⟨(0, m.block, m.base + o, n, cc), rfl⟩
  all_goals (simp [isX] at hx)
theorem Zrk {M : List MEnt} {H : AHeap} {w : World} (hr : HRel M H w) {D : Nat → Prop} {pl : Nat → Nat × Nat} {τ : Nat → AV} (hD : ∀ j, D j → PlOk H pl τ j) : ∃ θ, Zws M w D pl τ θ := by
  have : ∀ j, ∃ t : Tag, D j → Zm M (τ j) (Zkf t) ∧ ∀ m cur e r, M[(pl j).1]? = some m → w.heap[m.block]? = some (.cells cur e r) → cur[m.base + (pl j).2]? = some (Zkf t) := fun j => by
    by_cases hj : D j
    · obtain ⟨n, t, e, g, fz, ro, mk, h1, h2, h3⟩ := hD j hj
      obtain ⟨m, hm, cur, e', lo, hi, b1, b2, b3, b4, b5, b6, b7⟩ := hr.obj _ _ h1
      obtain ⟨c1, cv, c2, c3⟩ := b7 _ _ h2
      obtain ⟨tg, rfl⟩ := Zzt c3 h3
      refine ⟨tg, fun _ => ⟨c3, fun m2 cur2 e2 r2 d1 d2 => ?_⟩⟩
      rw [hm] at d1; cases d1
      rw [b1] at d2; cases d2
      exact c2
    · exact ⟨(0, 0, 0, 0, 0), fun h => absurd h hj⟩
  exact ⟨fun j => (this j).choose, fun j hj => (this j).choose_spec hj⟩
theorem Zas.rel {K : List Nat} {D : Nat → Prop} {pl : Nat → Nat × Nat} {τ : Nat → AV} {θ : Nat → Tag} {M M' : List MEnt} (hM : Zj9 0 K M M') {id : Nat} {m : MEnt} {w : World} {o u : AObj} (hth : Zws M w D pl τ θ) (hm : M[id]? = some m) (h : Zas K D pl τ θ id o u) (r : Wj M m w o) : Wj M' m w u := by
  have cell : ∀ {n : Nat} {t t' : Tr AV} {cur : Array Value} {e : TypeId} {rg : Nat × Nat}, w.heap[m.block]? = some (.cells cur e rg) → (∀ i v, t.get i = some v → i < n ∧ ∃ cv, cur[m.base + i]? = some cv ∧ Zm M v cv) → (∀ i y, t'.get i = some y → ∃ x, t.get i = some x ∧ Zpj K D pl τ θ id i x y) →
      ∀ i v, t'.get i = some v → i < n ∧ ∃ cv, cur[m.base + i]? = some cv ∧ Zm M' v cv := by
    intro n t t' cur e rg h1 h7 ht i y hy
    obtain ⟨x, hx, hc⟩ := ht i y hy
    obtain ⟨a, cv, b, c⟩ := h7 i x hx
    rcases hc with hc | ⟨j, rfl, hj, hp, _⟩
    · exact ⟨a, cv, b, Vn hM _ _ _ hc c⟩
    · have := (hth j hj).2 m cur e rg (by rw [hp]; exact hm) h1
      rw [hp] at this
      exact ⟨a, _, this, rfl⟩
  rcases h with h | ⟨n, t, e, g, fz, ro, mk, t', rfl, rfl, ht⟩ | ⟨n, t, e, g, fz, ro, mk, e', g', fz', mk', t', rfl, rfl, hg, ht⟩
  · exact h.rel hM r
  · obtain ⟨cur, e2, lo, hi, h1, h2, h3, h4, h5, h6, h7⟩ := r
    exact ⟨cur, e2, lo, hi, h1, h2, h3, h4, h5, h6, cell h1 h7 ht⟩
  · obtain ⟨cur, e2, lo, hi, h1, h2, h3, h4, h5, h6, h7⟩ := r
    refine ⟨cur, e2, lo, hi, h1, (fun hx => by cases hx), h3, fun gs hgs => ?_, (fun hx => by cases hx), (fun hx => by cases hx), cell h1 h7 ht⟩
    rcases hg with rfl | rfl
    · cases hgs
    · exact h4 gs hgs
theorem Zas.wr {K : List Nat} {D : Nat → Prop} {pl : Nat → Nat × Nat} {τ : Nat → AV} {θ : Nat → Tag} {id : Nat} {o u : AObj} (h : Zas K D pl τ θ id o u) (hu : u.isRo = false) : o.isRo = false := by
  rcases h with h | ⟨n, t, e, g, fz, ro, mk, t', rfl, rfl, _⟩ | ⟨n, t, e, g, fz, ro, mk, e', g', fz', mk', t', rfl, rfl, _⟩
  · rw [← h.ro]; exact hu
  · exact hu
  · cases hu
section
variable {E : Env} {P : Program} {I : List MEnt → AHeap → World → Prop} {ih : Task → Option TRes} {ro : Option Nat}
variable {ng : Nat} {K : List Nat} {D : Nat → Prop} {pl : Nat → Nat × Nat} {τ : Nat → AV} {θ : Nat → Tag} {fr fr' : AFr} {H H' : AHeap}
theorem RenX.atN (r : RenX ng K D pl τ θ fr H fr' H') {M : List MEnt} {w : World} (hr : HRel M H w) : ∀ k i : Nat, K[k]? = some i → (Wa K M)[k]? = M[i]? := fun k i h => by
  have hlt : ∀ i ∈ K, i < M.length := fun i hi => by rw [hr.len]; exact r.lt i hi
  have := Jv hlt k i h
  rwa [Nat.zero_add] at this
theorem RenX.wrS (r : RenX ng K D pl τ θ fr H fr' H') {M : List MEnt} {w : World} (hr : HRel M H w) {b : Nat} (h : Wr (Wa K M) H' b) : ∃ k u i o, H'.get k = some u ∧ u.isRo = false ∧ K[k]? = some i ∧ H.get i = some o ∧ o.isRo = false ∧ ∃ m, M[i]? = some m ∧ m.block = b := by
  obtain ⟨k, u, m, hu, hro, hm, hb⟩ := h
  obtain ⟨i, o, e1, e2, e3⟩ := r.obj k u hu
  exact ⟨k, u, i, o, hu, hro, e1, e2, e3.wr hro, m, by rw [← r.atN hr k i e1]; exact hm, hb⟩
theorem RenX.to (hI : Carried I) (r : RenX E.ng K D pl τ θ fr H fr' H') {M : List MEnt} {w : World} {a : Act} (hth : Zws M w D pl τ θ) (st : St E I M H w) (hf : FRel ro M fr a) : St E I (Wa K M) H' w ∧ FRel ro (Wa K M) fr' a := by
  have hlt : ∀ i ∈ K, i < M.length := fun i hi => by rw [st.hr.len]; exact r.lt i hi
  have hM := Jv hlt
  have at_ := r.atN st.hr
  have inj : ∀ k l i : Nat, K[k]? = some i → K[l]? = some i → k = l := fun k l i hk hl => by
    have hk' := (List.getElem?_eq_some_iff.1 hk)
    exact (List.getElem?_inj hk'.1 r.nodup).1 (hk.trans hl.symm)
  have hr : HRel (Wa K M) H' w := by
    refine ⟨by simp [Wa, r.next], fun k u hu => ?_, fun k l u v m p hu hv hm hp hkl hb => ?_⟩
    · obtain ⟨i, o, e1, e2, e3⟩ := r.obj k u hu
      obtain ⟨m, hm, ho⟩ := st.hr.obj i o e2
      exact ⟨m, by rw [at_ k i e1]; exact hm, e3.rel hM hth hm ho⟩
    · obtain ⟨i, o, e1, e2, e3⟩ := r.obj k u hu
      obtain ⟨j, q, f1, f2, f3⟩ := r.obj l v hv
      rw [at_ k i e1] at hm
      rw [at_ l j f1] at hp
      have hij : i ≠ j := fun e => by subst e; exact hkl (inj k l i e1 f1)
      obtain ⟨z1, z2⟩ := st.hr.inj i j o q m p e2 f2 hm hp hij hb
      constructor
      · cases hx : u.isRo with
        | true => rfl
        | false => rw [e3.wr hx] at z1; cases z1
      · cases hx : v.isRo with
        | true => rfl
        | false => rw [f3.wr hx] at z2; cases z2
  refine ⟨⟨hr, fun g hg => ?_, hI.ren _ _ _ _ _ st.i st.hr hr fun b hb => ?_⟩, ⟨by rw [r.rd]; exact hf.rd, by rw [r.n]; exact hf.n, fun i y hy => ?_, ?_⟩⟩
  · obtain ⟨m, hm, h2⟩ := st.g g hg
    exact ⟨m, by rw [at_ g g (r.glob g hg)]; exact hm, h2⟩
  · obtain ⟨k, u, i, o, _, _, _, e2, e3, m, e4, e5⟩ := r.wrS st.hr hb
    exact ⟨i, o, m, e2, e3, e4, e5⟩
  · obtain ⟨x, hx, hxy⟩ := r.t i y hy
    obtain ⟨cv, hc, hv⟩ := hf.t i x hx
    exact ⟨cv, hc, Vn hM _ _ _ hxy hv⟩
  · have := hf.df
    rw [r.df.1] at this
    rw [r.df.2]
    generalize a.defers = l at this ⊢
    cases this
    exact .nil
structure Framed (K : List Nat) (τ : Nat → AV) (H H' H2 : AHeap) (names : List Nat) (Hb : AHeap) : Prop where
  next : Hb.next = H.next + (H2.next - K.length)
  new : ∀ k u, k ∈ names → H2.get k = some u → u.isRo = false → Hb.get (bkN K H.next k) = some (lfO (bkN K H.next) τ u)
  old : ∀ id o, H.get id = some o → (∀ k u, K[k]? = some id → H'.get k = some u → u.isRo = true) → Hb.get id = some o
  inv : ∀ id o, Hb.get id = some o → (∃ k u, id = bkN K H.next k ∧ k ∈ names ∧ H2.get k = some u ∧ u.isRo = false ∧ o = lfO (bkN K H.next) τ u) ∨ (H.get id = some o ∧ ∀ k u, K[k]? = some id → H'.get k = some u → u.isRo = true)
open Classical in
end
end
end Go.Vai
end
