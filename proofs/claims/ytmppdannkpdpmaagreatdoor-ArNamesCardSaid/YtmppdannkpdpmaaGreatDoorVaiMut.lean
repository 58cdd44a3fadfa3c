/- A call that writes into rows which it is handed: by a run from a small memory, in whatever memory. -/
import Derived.Test.YtmppdannkpdpmaaGreatDoorVaiFrame3
section
namespace Go.Vai
noncomputable section
def JG (gl : List (Nat × List AV)) (M : List MEnt) (H : AHeap) (w : World) : Prop := Ya gl w ∧ ∀ x ∈ gl, ¬ Wr M H x.1
theorem Zam (gl : List (Nat × List AV)) : Carried (JG gl) where
  ext := fun M H w M' H' w' ⟨h1, h2⟩ x => by
    have k : ∀ g av, (g, av) ∈ gl → w'.heap[g]? = w.heap[g]? ∧ ¬ Wr M' H' g := fun g av hm => by
      obtain ⟨cs, e, lo, hi, a, b⟩ := h1 g av hm
      exact x.old g (Array.getElem?_eq_some_iff.1 a).1 (h2 _ hm)
    refine ⟨fun g av hm => ?_, fun y hy => (k y.1 y.2 hy).2⟩
    obtain ⟨cs, e, lo, hi, a, b⟩ := h1 g av hm
    exact ⟨cs, e, lo, hi, by rw [(k g av hm).1]; exact a, b⟩
  ren := fun M H w M' H' ⟨h1, h2⟩ _ _ hs => ⟨h1, fun x hx hw => h2 x hx (hs _ hw)⟩
theorem Kept.jg {gl : List (Nat × List AV)} {w0 w : World} {M : List MEnt} {H : AHeap} (h0 : Ya gl w0) (h : Kept gl w0 M H w) : JG gl M H w := ⟨h.1, fun x hx => by
  obtain ⟨cs, e, lo, hi, a, b⟩ := h0 x.1 x.2 hx
  exact h.2.2 _ (Array.getElem?_eq_some_iff.1 a).1⟩
def GR (ng : Nat) (M : List MEnt) : Prop := ∀ g, g < ng → ∃ m, M[g]? = some m ∧ m.block = g ∧ m.base = 0
def Zds (P : Program) (gl : List (Nat × List AV)) (ng : Nat) (sm : Sm) : Prop := ∀ f args H v H' M w cargs, sm f args H = some (v, H') → JG gl M H w → GR ng M → HRel M H w → Zs M args cargs → Vy P f cargs M H w (.ret v H')
section
variable {P : Program} {gl : List (Nat × List AV)} {ng : Nat}
theorem Vt.j {sm : Sm} (h : Vt P gl sm) : Zds P gl ng sm := fun f args H v H' M w cargs hs hj _ hr ha => h f args H v H' M w cargs hs hj.1 hr ha
theorem Zds.or {a b : Sm} (ha : Zds P gl ng a) (hb : Zds P gl ng b) : Zds P gl ng (Y4 a b) := by
  intro f args H v H' M w cargs h hw hg hr hv
  unfold Y4 at h
  cases e : a f args H with
  | none => rw [e] at h; exact hb f args H v H' M w cargs h hw hg hr hv
  | some r =>
    rw [e] at h
    simp only [Option.some.injEq] at h
    subst h
    exact ha f args H v H' M w cargs e hw hg hr hv
theorem Zfp {skip : List Nat} {sm : Sm} {I : List MEnt → AHeap → World → Prop} (hN : Zbw skip P.funcs.toList 0 = true) (hS : Zds P gl ng sm) (hM : P.follows .mixedOrders = true)
    (hX : ∀ M H w, I M H w → JG gl M H w) (hI : ∀ M H w M' H' w', I M H w → Ext M H w M' H' w' → I M' H' w') : EnvOk (K4 P ng skip sm) P I where
  tys := Zks P ng skip _
  fns := Zl1 hN
  carry := hI
  mixed := hM
  sm := fun f args H v H' M w cargs _ h st ha => hS f args H v H' M w cargs h (hX _ _ _ st.i) st.g st.hr ha
end
def mtN (K nk : List Nat) (nx k : Nat) : Nat := match K[k]? with
  | some i => i
  | none => match Jm k nk nx with
    | some p => p
    | none => 0
theorem Zoy {K nk : List Nat} {nx k i : Nat} (h : K[k]? = some i) : mtN K nk nx k = i := by unfold mtN; rw [h]
theorem Zfr {K nk : List Nat} {nx j k : Nat} (hn : nk.Nodup) (hj : nk[j]? = some k) (hk : K.length ≤ k) : mtN K nk nx k = nx + j := by
  unfold mtN
  rw [List.getElem?_eq_none hk, Qu hn hj]
mutual
def inV (R : Nat → Prop) : AV → Prop
  | .ptr i _ => R i
  | .sl i _ _ _ => R i
  | .yld i => R i
  | .mapv i => R i
  | .fn _ x y => Zqj R x ∧ Zqj R y
  | .iface _ x => inV R x
  | .agg l => Zqj R l
  | .tup l => Zqj R l
  | .ext _ _ _ _ _ _ | .nilm | .opq _ | .bool _ | .int _ _ | .str _ | .nilp | .nils | .sl0 | .nilf | .nili => True
def Zqj (R : Nat → Prop) : List AV → Prop
  | [] => True
  | v :: l => inV R v ∧ Zqj R l
end
section
variable {β : Nat → Nat} {τ : Nat → AV} {D R : Nat → Prop} {θ : Nat → Tag} {M M' : List MEnt} (hM : ∀ k m, R k → M[k]? = some m → M'[β k]? = some m) (hτ : ∀ j, D j → Zm M' (τ j) (Zkf (θ j)))
include hM hτ
mutual
theorem Zcz : ∀ (v : AV) (cv : Value), inV R v → exV D θ v → Zm M v cv → Zm M' (lfV β τ v) cv
  | .ptr i o, cv, hi, _, ⟨m, hm, e⟩ => ⟨m, hM _ _ hi hm, e⟩
  | .sl i o n c, cv, hi, _, ⟨m, cc, hm, e⟩ => ⟨m, cc, hM _ _ hi hm, e⟩
  | .yld i, cv, hi, _, ⟨m, hm, e⟩ => ⟨m, hM _ _ hi hm, e⟩
  | .mapv i, cv, hi, _, ⟨m, hm, e⟩ => ⟨m, hM _ _ hi hm, e⟩
  | .fn f x y, cv, hi, h, ⟨fs, cs, e, r1, r2⟩ => ⟨fs, cs, e, Kv x fs hi.1 h.1 r1, Kv y cs hi.2 h.2 r2⟩
  | .iface t x, cv, hi, h, ⟨y, e, r⟩ => ⟨y, e, Zcz x y hi h r⟩
  | .agg l, cv, hi, h, ⟨vs, e, r⟩ => ⟨vs, e, Kv l vs hi h r⟩
  | .tup l, cv, hi, h, ⟨vs, e, r⟩ => ⟨vs, e, Kv l vs hi h r⟩
  | .ext j k b o n c, cv, _, h, r => by
    have h1 := hτ j h.1
    rw [h.2] at h1
    have e : cv = Z14 k b o n c := r
    rw [e]
    exact h1
  | .nilm, _, _, _, r => r
  | .opq _, _, _, _, r => r
  | .bool _, _, _, _, r => r
  | .int _ _, _, _, _, r => r
  | .str _, _, _, _, r => r
  | .nilp, _, _, _, r => r
  | .nils, _, _, _, r => r
  | .sl0, _, _, _, r => r
  | .nilf, _, _, _, r => r
  | .nili, _, _, _, r => r
theorem Kv : ∀ (l : List AV) (vs : List Value), Zqj R l → Zq2 D θ l → Zs M l vs → Zs M' (Zkn β τ l) vs
  | [], [], _, _, _ => (fun _ _ => trivial) hM hτ
  | [], _ :: _, _, _, r => r.elim
  | _ :: _, [], _, _, r => r.elim
  | v :: l, c :: vs, hi, h, r => ⟨Zcz v c hi.1 h.1 r.1, Kv l vs hi.2 h.2 r.2⟩
end
end
def Zvh (β : Nat → Nat) (τ : Nat → AV) (D R : Nat → Prop) (θ : Nat → Tag) (u o : AObj) : Prop :=
  ∃ n t t' e g fz mk, u = .cells n t e g fz false mk ∧ o = .cells n t' e g fz false mk ∧ ∀ i y, t'.get i = some y → ∃ x, t.get i = some x ∧ inV R x ∧ exV D θ x ∧ y = lfV β τ x
theorem Zvh.rel {β : Nat → Nat} {τ : Nat → AV} {D R : Nat → Prop} {θ : Nat → Tag} {M M' : List MEnt} (hM : ∀ k m, R k → M[k]? = some m → M'[β k]? = some m) (hτ : ∀ j, D j → Zm M' (τ j) (Zkf (θ j))) {m : MEnt} {w : World} {u o : AObj} (h : Zvh β τ D R θ u o) (r : Wj M m w u) : Wj M' m w o := by
  obtain ⟨n, t, t', e, g, fz, mk, rfl, rfl, ht⟩ := h
  obtain ⟨cur, e', lo, hi, h1, h2, h3, h4, h5, h6, h7⟩ := r
  refine ⟨cur, e', lo, hi, h1, h2, h3, h4, h5, h6, fun i y hy => ?_⟩
  obtain ⟨x, hx, hR, hD, rfl⟩ := ht i y hy
  obtain ⟨a, cv, b, c⟩ := h7 i x hx
  exact ⟨a, cv, b, Zcz hM hτ x cv hR hD c⟩
section
variable {E : Env} {P : Program} {gl : List (Nat × List AV)}
theorem Zbj {f : FuncId} {args : List AV} {cargs : List Value} {v : AV} {M : List MEnt} {H H2 H' : AHeap} {w : World} {os : List AObj} {ks nk : List Nat} {n : Nat} {D : Nat → Prop} {pl : Nat → Nat × Nat} {τ : Nat → AV} {θ : Nat → Tag} (hE : EnvOk E P (JG gl)) (hf : (E.fn f).isSome = true)
    (hj : JG gl M H w) (hg : Zfe E M) (hr : HRel M H w) (hk : FrK E.ng ks [] H) (hl : os.length = ks.length)
    (hos : ∀ (j : Nat) u, os[j]? = some u → ∃ i o, ks[j]? = some i ∧ H.get i = some o ∧ Zas (kN E.ng ks []) D pl τ θ i o u) (hth : Zws M w D pl τ θ)
    (ha : Zs (Wa (kN E.ng ks []) M) args cargs) (h : run E n (.call f args (Z6 E.ng os)) = some (.call (.ret v H2)))
    (hnk : nk.Nodup) (hnk2 : ∀ k ∈ nk, E.ng + ks.length ≤ k ∧ ∃ u, H2.get k = some u) (hvR : inV (fun k => k < E.ng + ks.length ∨ k ∈ nk) v) (hvD : exV D θ v) (hnx : H'.next = H.next + nk.length)
    (hinv : ∀ id o, H'.get id = some o → (∃ k u, id = mtN (kN E.ng ks []) nk H.next k ∧ (k < E.ng + ks.length ∨ k ∈ nk) ∧ H2.get k = some u ∧ Zvh (mtN (kN E.ng ks []) nk H.next) τ D (fun k => k < E.ng + ks.length ∨ k ∈ nk) θ u o) ∨
      (H.get id = some o ∧ ∀ (j : Nat) u, ks[j]? = some id → os[j]? = some u → u.isRo = true)) :
    Vy P f cargs M H w (.ret (lfV (mtN (kN E.ng ks []) nk H.next) τ v) H') := by
  obtain ⟨fn, hfn⟩ := Option.isSome_iff_exists.1 hf
  have ren : RenX E.ng (kN E.ng ks []) D pl τ θ (Xb fn []) H (Xb fn []) (Z6 E.ng os) := by
    refine ⟨fun g hg => Zvw hg, fun i hi => ?_, hk.all, ?_, fun k u hu => ?_, rfl, rfl, ⟨rfl, rfl⟩, fun i y hy => ?_⟩
    · unfold kN at hi
      rcases List.mem_append.1 hi with hi | hi
      · rw [List.mem_range] at hi
        exact Nat.lt_of_lt_of_le hi hk.gl
      · exact (hk.lt i hi).2
    · rw [Zhp]
      show (news _ os).next = _
      rw [Kz]
      simp [hl]
    · obtain ⟨j, rfl, hj⟩ := Qp hu
      obtain ⟨i, o, a1, a2, a3⟩ := hos j u hj
      exact ⟨i, o, by rw [Xx (by have := (List.getElem?_eq_some_iff.1 hj).1; omega)]; exact a1, a2, a3⟩
    · have hy : (Tr.nil : Tr AV).get i = some y := hy
      simp [Tr.get_nil] at hy
  have hlt : ∀ i ∈ kN E.ng ks [], i < M.length := fun i hi => by rw [hr.len]; exact ren.lt i hi
  have at_ := ren.atN hr
  have s0 : St E (JG gl) (Wa (kN E.ng ks []) M) (Z6 E.ng os) w := by
    have hM := Jv hlt
    have inj : ∀ k l i : Nat, (kN E.ng ks [])[k]? = some i → (kN E.ng ks [])[l]? = some i → k = l := fun k l i hk' hl' => by
      have hk2 := (List.getElem?_eq_some_iff.1 hk')
      exact (List.getElem?_inj hk2.1 ren.nodup).1 (hk'.trans hl'.symm)
    have hr' : HRel (Wa (kN E.ng ks []) M) (Z6 E.ng os) w := by
      refine ⟨by simp [Wa, ren.next], fun k u hu => ?_, fun k l u v m p hu hv hm hp hkl hb => ?_⟩
      · obtain ⟨i, o, e1, e2, e3⟩ := ren.obj k u hu
        obtain ⟨m, hm, ho⟩ := hr.obj i o e2
        exact ⟨m, by rw [at_ k i e1]; exact hm, e3.rel hM hth hm ho⟩
      · obtain ⟨i, o, e1, e2, e3⟩ := ren.obj k u hu
        obtain ⟨j, q, f1, f2, f3⟩ := ren.obj l v hv
        rw [at_ k i e1] at hm
        rw [at_ l j f1] at hp
        have hij : i ≠ j := fun e => by subst e; exact hkl (inj k l i e1 f1)
        obtain ⟨z1, z2⟩ := hr.inj i j o q m p e2 f2 hm hp hij hb
        constructor
        · cases hx : u.isRo with
          | true => rfl
          | false => rw [e3.wr hx] at z1; cases z1
        · cases hx : v.isRo with
          | true => rfl
          | false => rw [f3.wr hx] at z2; cases z2
    refine ⟨hr', fun g hg2 => ?_, (Zam gl).ren _ _ _ _ _ hj hr hr' fun b hb => ?_⟩
    · obtain ⟨m, hm, h2⟩ := hg g hg2
      exact ⟨m, by rw [at_ g g (ren.glob g hg2)]; exact hm, h2⟩
    · obtain ⟨k, u, i, o, _, _, _, e2, e3, m, e4, e5⟩ := ren.wrS hr hb
      exact ⟨i, o, m, e2, e3, e4, e5⟩
  have key := Qn hE hfn (Zek hE h s0 ha)
  refine .inr ⟨key.1, CallsIn.mono key.2 ?_⟩
  intro e w2 hpost
  cases e with
  | outgrown => exact hpost.elim
  | panicked ch => obtain ⟨_, _, _, _, e, _⟩ := hpost; cases e
  | returned cv =>
    obtain ⟨v2, H22, M2', e, x1, hr2, hv⟩ := hpost
    cases e
    have hKl : (Wa (kN E.ng ks []) M).length = (kN E.ng ks []).length := by simp [Wa]
    have hKn : (kN E.ng ks []).length = E.ng + ks.length := by rw [Zhp]; simp
    have pre : Wa (kN E.ng ks []) M <+: M2' := x1.pre
    have ltK : ∀ k i, (kN E.ng ks [])[k]? = some i → i < H.next := fun k i h => ren.lt i (List.mem_of_getElem? h)
    have inj : ∀ k l i : Nat, (kN E.ng ks [])[k]? = some i → (kN E.ng ks [])[l]? = some i → k = l := fun k l i hk' hl' => by
      have hk2 := (List.getElem?_eq_some_iff.1 hk')
      exact (List.getElem?_inj hk2.1 ren.nodup).1 (hk'.trans hl'.symm)
    have preM : M <+: M ++ Wa nk M2' := List.prefix_append _ _
    have hβ : ∀ k, (k < E.ng + ks.length ∨ k ∈ nk) → (∃ i, (kN E.ng ks [])[k]? = some i ∧ mtN (kN E.ng ks []) nk H.next k = i) ∨ ∃ j, nk[j]? = some k ∧ mtN (kN E.ng ks []) nk H.next k = H.next + j := fun k hk3 => by
      rcases hk3 with h3 | h3
      · have : k < (kN E.ng ks []).length := by omega
        exact .inl ⟨_, List.getElem?_eq_getElem this, Zoy (List.getElem?_eq_getElem this)⟩
      · obtain ⟨j, hj2⟩ := List.getElem?_of_mem h3
        exact .inr ⟨j, hj2, Zfr hnk hj2 (by have := (hnk2 k h3).1; omega)⟩
    have hM : ∀ k m, (k < E.ng + ks.length ∨ k ∈ nk) → M2'[k]? = some m → (M ++ Wa nk M2')[mtN (kN E.ng ks []) nk H.next k]? = some m := fun k m hR hm => by
      rcases hβ k hR with ⟨i, h1, h2⟩ | ⟨j, h1, h2⟩
      · rw [h2, List.getElem?_append_left (by rw [hr.len]; exact ltK _ _ h1), ← at_ k i h1]
        have hk4 : k < (Wa (kN E.ng ks []) M).length := by rw [hKl]; exact (List.getElem?_eq_some_iff.1 h1).1
        have := Yp pre (List.getElem?_eq_getElem hk4)
        rw [hm] at this; cases this
        exact List.getElem?_eq_getElem hk4
      · rw [h2, List.getElem?_append_right (by rw [hr.len]; omega), hr.len, show H.next + j - H.next = j by omega]
        have hren := Jv (keep := nk) (M := M2') fun i hi => by obtain ⟨_, u, hu⟩ := hnk2 i hi; exact hr2.lt hu
        have := hren j k h1
        rw [Nat.zero_add] at this
        rw [this]; exact hm
    have hβinj : ∀ k l, (k < E.ng + ks.length ∨ k ∈ nk) → (l < E.ng + ks.length ∨ l ∈ nk) → mtN (kN E.ng ks []) nk H.next k = mtN (kN E.ng ks []) nk H.next l → k = l := fun k l hk5 hl5 h => by
      rcases hβ k hk5 with ⟨i, h1, h2⟩ | ⟨i, h1, h2⟩ <;> rcases hβ l hl5 with ⟨j, g1, g2⟩ | ⟨j, g1, g2⟩
      · rw [h2, g2] at h; subst h; exact inj _ _ _ h1 g1
      · have := ltK _ _ h1; omega
      · have := ltK _ _ g1; omega
      · have : i = j := by omega
        subst this
        rw [h1] at g1; exact Option.some.inj g1
    have hτ : ∀ j, D j → Zm (M ++ Wa nk M2') (τ j) (Zkf (θ j)) := fun j hj2 => (hth j hj2).1.mono preM
    have oldM : ∀ id o m, H.get id = some o → (M ++ Wa nk M2')[id]? = some m → M[id]? = some m := fun id o m ho hm => by
      obtain ⟨k, hk6, _⟩ := hr.obj id o ho
      have := Yp preM hk6
      rw [hm] at this; cases this
      exact hk6
    have free : ∀ id o m, H.get id = some o → (∀ (j : Nat) u, ks[j]? = some id → os[j]? = some u → u.isRo = true) → M[id]? = some m → ¬ Wr (Wa (kN E.ng ks []) M) (Z6 E.ng os) m.block := fun id o m ho hk7 hm hw => by
      obtain ⟨k, u, i, p, g1, g0, g2, g3, g4, m', g5, g6⟩ := ren.wrS hr hw
      by_cases hij : i = id
      · subst hij
        obtain ⟨j, rfl, hj3⟩ := Qp g1
        have hjl : j < ks.length := by have := (List.getElem?_eq_some_iff.1 hj3).1; omega
        rw [Xx hjl] at g2
        rw [hk7 j u g2 hj3] at g0; cases g0
      · have := (hr.inj i id p o m' m g3 ho g5 hm hij g6).1
        rw [g4] at this; cases this
    have newM : ∀ k u m, (k < E.ng + ks.length ∨ k ∈ nk) → H2.get k = some u → (M ++ Wa nk M2')[mtN (kN E.ng ks []) nk H.next k]? = some m → M2'[k]? = some m ∧ Wj M2' m w2 u := fun k u m hR hu hm => by
      obtain ⟨m', hm', ho⟩ := hr2.obj k u hu
      have := hM k m' hR hm'
      rw [hm] at this; cases this
      exact ⟨hm', ho⟩
    have mro : ∀ {u o : AObj}, Zvh (mtN (kN E.ng ks []) nk H.next) τ D (fun k => k < E.ng + ks.length ∨ k ∈ nk) θ u o → u.isRo = false ∧ o.isRo = false := fun ⟨_, _, _, _, _, _, _, e1, e2, _⟩ => by subst e1; subst e2; exact ⟨rfl, rfl⟩
    have apart : ∀ k u m1 id o m2, H2.get k = some u → u.isRo = false → M2'[k]? = some m1 → H.get id = some o → (∀ (j : Nat) u, ks[j]? = some id → os[j]? = some u → u.isRo = true) → M[id]? = some m2 → m1.block ≠ m2.block := fun k u m1 id o m2 hu hro h1 ho hk8 h2 hb => by
      have hlt2 : m2.block < w.heap.size := by
        obtain ⟨m', hm', hob⟩ := hr.obj id o ho
        rw [h2] at hm'; cases hm'
        exact hob.lt
      have hw : Wr M2' H2 m2.block := ⟨k, u, m1, hu, hro, h1, hb⟩
      exact (x1.old _ hlt2 (free id o m2 ho hk8 h2)).2 hw
    have hrb : HRel (M ++ Wa nk M2') H' w2 := by
      refine ⟨by rw [List.length_append, hr.len, hnx]; simp [Wa], fun id o ho => ?_, fun i j o p m k hi hj4 hm hk9 hij hb => ?_⟩
      · rcases hinv id o ho with ⟨k, u, rfl, hR, hu, hmo⟩ | ⟨ho, hk7⟩
        · obtain ⟨m, hm, hob⟩ := hr2.obj k u hu
          exact ⟨m, hM k m hR hm, hmo.rel hM hτ hob⟩
        · obtain ⟨m, hm, hob⟩ := hr.obj id o ho
          exact ⟨m, Yp preM hm, hob.carry preM (x1.old _ hob.lt (free id o m ho hk7 hm)).1⟩
      · rcases hinv i o hi with ⟨k1, u1, rfl, hR1, hu1, hmo1⟩ | ⟨ho1, hk1⟩ <;> rcases hinv j p hj4 with ⟨k2, u2, rfl, hR2, hu2, hmo2⟩ | ⟨ho2, hk2⟩
        · have := (hr2.inj k1 k2 u1 u2 m k hu1 hu2 (newM _ _ _ hR1 hu1 hm).1 (newM _ _ _ hR2 hu2 hk9).1 (fun e => hij (by rw [e])) hb).1
          rw [(mro hmo1).1] at this; cases this
        · exact absurd hb (apart k1 u1 m j p k hu1 (mro hmo1).1 (newM _ _ _ hR1 hu1 hm).1 ho2 hk2 (oldM _ _ _ ho2 hk9))
        · exact absurd hb.symm (apart k2 u2 k i o m hu2 (mro hmo2).1 (newM _ _ _ hR2 hu2 hk9).1 ho1 hk1 (oldM _ _ _ ho1 hm))
        · exact hr.inj i j o p m k ho1 ho2 (oldM _ _ _ ho1 hm) (oldM _ _ _ ho2 hk9) hij hb
    have ext : Ext M H w (M ++ Wa nk M2') H' w2 := by
      refine ⟨preM, x1.size, x1.os, x1.tape, x1.output, fun b hb hn => ?_, fun b hb hn hkn => ?_⟩
      · have hn' : ¬ Wr (Wa (kN E.ng ks []) M) (Z6 E.ng os) b := fun hw => by
          obtain ⟨k, u, i, o, _, _, _, g3, g4, m, g5, g6⟩ := ren.wrS hr hw
          exact hn ⟨i, o, m, g3, g4, g5, g6⟩
        refine ⟨(x1.old b hb hn').1, ?_⟩
        rintro ⟨id, o, m, ho, hro, hm, rfl⟩
        rcases hinv id o ho with ⟨k, u, rfl, hR, hu, hmo⟩ | ⟨ho, hk7⟩
        · exact (x1.old _ hb hn').2 ⟨k, u, m, hu, (mro hmo).1, (newM _ _ _ hR hu hm).1, rfl⟩
        · exact hn ⟨id, o, m, ho, hro, oldM _ _ _ ho hm, rfl⟩
      · obtain ⟨id, o, m, ho, hm, rfl⟩ := hkn
        rcases hinv id o ho with ⟨k, u, rfl, hR, hu, hmo⟩ | ⟨ho, hk7⟩
        · have hw : Wr M2' H2 m.block := ⟨k, u, m, hu, (mro hmo).1, (newM _ _ _ hR hu hm).1, rfl⟩
          by_cases hc : Wr (Wa (kN E.ng ks []) M) (Z6 E.ng os) m.block
          · obtain ⟨k0, u0, i0, o0, _, _, _, g3, _, m0, g5, g6⟩ := ren.wrS hr hc
            exact hn ⟨i0, o0, m0, g3, g5, g6⟩
          · exact (x1.old _ hb hc).2 hw
        · exact hn ⟨id, o, m, ho, oldM _ _ _ ho hm, rfl⟩
    exact ⟨_, H', _, rfl, ext, hrb, Zcz hM hτ v cv hvR hvD hv⟩
end
end
end Go.Vai
end
