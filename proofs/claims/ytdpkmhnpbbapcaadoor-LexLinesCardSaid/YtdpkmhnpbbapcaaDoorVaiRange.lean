/- Ranges over functions whose rounds need an invariant: triples that keep the first names as they are. -/
import Derived.Test.YtdpkmhnpbbapcaaDoorVaiLoop
import Derived.Test.YtdpkmhnpbbapcaaDoorVaiG
section
namespace Go.Vai
noncomputable section
def Z5i (I : List MEnt → AHeap → World → Prop) (M0 : List MEnt) (M : List MEnt) (H : AHeap) (w : World) : Prop := I M H w ∧ M0 <+: M
structure CarriedN (N : Nat) (I : List MEnt → AHeap → World → Prop) : Prop where
  ext : ∀ M H w M' H' w', I M H w → Ext M H w M' H' w' → I M' H' w'
  ren : ∀ M H w keep H', I M H w → HRel M H w → HRel (Wk keep M) H' w → List.range N <+: keep → (∀ b, Wr (Wk keep M) H' b → Wr M H b) → I (Wk keep M) H' w
theorem Zy0 {M0 M : List MEnt} {keep : List Nat} (h : M0 <+: M) (hk : List.range M0.length <+: keep) : M0 <+: Wk keep M := by
  obtain ⟨r, rfl⟩ := hk
  refine ⟨Wk r M, ?_⟩
  unfold Wk
  rw [List.map_append]
  congr 1
  apply List.ext_getElem?
  intro i
  rw [List.getElem?_map]
  by_cases hi : i < M0.length
  · have e : M0[i]? = some M0[i] := List.getElem?_eq_getElem hi
    rw [List.getElem?_range hi, Option.map_some, Yt h e, e]; rfl
  · rw [List.getElem?_eq_none (by omega), List.getElem?_eq_none (by rw [List.length_range]; omega)]; rfl
theorem Carried.pin {I : List MEnt → AHeap → World → Prop} (hI : Carried I) (M0 : List MEnt) : CarriedN M0.length (Z5i I M0) where
  ext := fun M H w M' H' w' h x => ⟨hI.ext _ _ _ _ _ _ h.1 x, h.2.trans x.pre⟩
  ren := fun M H w keep _ h h1 h2 hk hw => ⟨hI.ren _ _ _ _ _ h.1 h1 h2 hw, Zy0 h.2 hk⟩
theorem EnvOk.pin {E : Env} {P : Program} {I : List MEnt → AHeap → World → Prop} (hE : EnvOk E P I) (hI : Carried I) (M0 : List MEnt) : EnvOk E P (Z5i I M0) where
  tys := hE.tys
  fns := hE.fns
  carry := (hI.pin M0).ext
  mixed := hE.mixed
  sm := fun f args H v H' M w cargs h1 h2 st ha => hE.sm f args H v H' M w cargs h1 h2 ⟨st.hr, st.g, st.i.1⟩ ha
section
variable {E : Env} {P : Program} {I : List MEnt → AHeap → World → Prop} {ih : Task → Option TRes} {ro : Option Nat} {N : Nat}
theorem Ren.toN (hI : CarriedN N I) {keep : List Nat} {fr fr' : AFr} {H H' : AHeap} (r : Ren E.ng keep fr H fr' H') (hk : List.range N <+: keep) {M : List MEnt} {w : World} {a : Act} (st : St E I M H w) (hf : FRel ro M fr a) : St E I (Wk keep M) H' w ∧ FRel ro (Wk keep M) fr' a := by
  have hlt : ∀ i ∈ keep, i < M.length := fun i hi => by rw [st.hr.len]; exact r.lt i hi
  have hM := Zdd hlt
  have at_ : ∀ k i, keep[k]? = some i → (Wk keep M)[k]? = M[i]? := fun k i h => by have := hM k i h; rwa [Nat.zero_add] at this
  have inj : ∀ k l i : Nat, keep[k]? = some i → keep[l]? = some i → k = l := fun k l i hk hl => by
    have hk' := (List.getElem?_eq_some_iff.1 hk)
    have hl' := (List.getElem?_eq_some_iff.1 hl)
    exact (List.getElem?_inj hk'.1 r.nodup).1 (hk.trans hl.symm)
  have hr : HRel (Wk keep M) H' w := by
    refine ⟨by simp [Wk, r.next], fun k u hu => ?_, fun k l u v m p hu hv hm hp hkl hb => ?_⟩
    · obtain ⟨i, o, e1, e2, e3⟩ := r.obj k u hu
      obtain ⟨m, hm, ho⟩ := st.hr.obj i o e2
      exact ⟨m, by rw [at_ k i e1]; exact hm, e3.rel hM ho⟩
    · obtain ⟨i, o, e1, e2, e3⟩ := r.obj k u hu
      obtain ⟨j, q, f1, f2, f3⟩ := r.obj l v hv
      rw [at_ k i e1] at hm
      rw [at_ l j f1] at hp
      have hij : i ≠ j := fun e => by subst e; exact hkl (inj k l i e1 f1)
      obtain ⟨z1, z2⟩ := st.hr.inj i j o q m p e2 f2 hm hp hij hb
      exact ⟨by rw [e3.ro]; exact z1, by rw [f3.ro]; exact z2⟩
  refine ⟨⟨hr, fun g hg => ?_, hI.ren _ _ _ _ _ st.i st.hr hr hk fun b hb => ?_⟩, ⟨by rw [r.rd]; exact hf.rd, by rw [r.n]; exact hf.n, fun i y hy => ?_, ?_⟩⟩
  · obtain ⟨m, hm, h2⟩ := st.g g hg
    exact ⟨m, by rw [at_ g g (r.glob g hg)]; exact hm, h2⟩
  · obtain ⟨k, u, m, e, hro, hm, rfl⟩ := hb
    obtain ⟨i, o, e1, e2, e3⟩ := r.obj k u e
    rw [at_ k i e1] at hm
    exact ⟨i, o, m, e2, by rw [← e3.ro]; exact hro, hm, rfl⟩
  · obtain ⟨x, hx, hxy⟩ := r.t i y hy
    obtain ⟨cv, hc, hv⟩ := hf.t i x hx
    exact ⟨cv, hc, V8 hM _ _ _ hxy hv⟩
  · have := hf.df
    rw [r.df.1] at this
    rw [r.df.2]
    generalize a.defers = l at this ⊢
    cases this
    exact .nil
theorem Yk.renN (hI : CarriedN N I) {c : Code} {keep : List Nat} {fr fr' : AFr} {H H' : AHeap} {Q : TQ} (r : Ren E.ng keep fr H fr' H') (hk : List.range N <+: keep) (h : Yk E P I ro c fr' H' Q) : Yk E P I ro c fr H Q := fun M w a st hf => by
  obtain ⟨s, f⟩ := r.toN hI hk st hf
  exact h _ w a s f
theorem Zg.renN (hI : CarriedN N I) {l : List Code} {keep : List Nat} {fr fr' : AFr} {H H' : AHeap} {Q : TQ} (r : Ren E.ng keep fr H fr' H') (hk : List.range N <+: keep) (h : Zg E P I ro l fr' H' Q) : Zg E P I ro l fr H Q := by
  cases l with
  | nil =>
    intro M w a st hf
    obtain ⟨s, f⟩ := r.toN hI hk st hf
    exact h _ w a s f
  | cons c l =>
    intro M w a st hf
    obtain ⟨s, f⟩ := r.toN hI hk st hf
    exact h _ w a s f
theorem Yk.loopN {X : Type} {c : Code} {fr : X → AFr} {H : X → AHeap} {Inv : X → Prop} (meas : X → Nat) {Q : TQ} (hI : CarriedN N I)
    (body : ∀ x, Inv x → Yk E P I ro c (fr x) (H x) fun e fr' H' => (e = .normal ∧ ∃ x' keep, Inv x' ∧ meas x' < meas x ∧ List.range N <+: keep ∧ Ren E.ng keep fr' H' (fr x') (H x')) ∨ (e ≠ .normal ∧ Q e fr' H')) :
    ∀ x, Inv x → Yk E P I ro (.loop c) (fr x) (H x) Q := by
  intro x hx M w a st hf
  refine Zap ?_
  have main : ∀ (n : Nat) (x : X), meas x = n → Inv x → ∀ M w a, St E I M (H x) w → FRel ro M (fr x) a → Zc0 (FF ro) P c (Zbc E I ro Q) a w := by
    intro n
    induction n using Nat.strongRecOn with
    | _ n ihn =>
      intro x hn hx M w a st hf
      refine Zbn (wpIn_mono (body x hx M w a st hf) ?_)
      rintro ex a1 w1 ⟨e, fr1, H1, M1, q, s1, er, f1⟩
      rcases q with ⟨rfl, x', keep, i', hm, hk, hr⟩ | ⟨hne, q⟩
      · simp only [Xr] at er; subst er
        obtain ⟨s2, f2⟩ := hr.toN hI hk s1 f1
        exact ihn (meas x') (by omega) x' rfl i' _ w1 a1 s2 f2
      · have post : Zbc E I ro Q ex a1 w1 := ⟨e, fr1, H1, M1, q, s1, er, f1⟩
        cases e with
        | normal => exact absurd rfl hne
        | exit i => simp only [Xr] at er; subst er; exact post
        | ret => simp only [Xr] at er; subst er; exact post
        | panic v => obtain ⟨cv, rfl, _⟩ := er; exact post
  exact main _ x rfl hx M w a st hf
theorem Zg.appendI : ∀ {l m : List Code} {fr : AFr} {H : AHeap} {Q1 Q : TQ}, Zg E P I ro l fr H Q1 → (∀ e fr' H', Q1 e fr' H' → (e = .normal ∧ Zg E P I ro m fr' H' Q) ∨ (e ≠ .normal ∧ Q e fr' H')) → Zg E P I ro (l ++ m) fr H Q
  | [], m, fr, H, Q1, Q, h, hq => by
    have key : ∀ M w a, St E I M H w → FRel ro M fr a → ∃ fr' H' M', Zg E P I ro m fr' H' Q ∧ St E I M' H' w ∧ FRel ro M' fr' a := fun M w a st hf => by
      obtain ⟨e, fr', H', M', q, s1, er, f1⟩ := h M w a st hf
      have he : e = .normal := Xr.normal er |>.2 rfl
      rcases hq e fr' H' q with ⟨_, t⟩ | ⟨hne, _⟩
      · exact ⟨fr', H', M', t, s1, f1⟩
      · exact absurd he hne
    cases m with
    | nil =>
      intro M w a st hf
      obtain ⟨fr', H', M', t, s1, f1⟩ := key M w a st hf
      exact t M' w a s1 f1
    | cons c m =>
      intro M w a st hf
      obtain ⟨fr', H', M', t, s1, f1⟩ := key M w a st hf
      exact t M' w a s1 f1
  | _ :: _, _, _, _, _, _, h, hq => Yk.mono h fun e fr' H' q => by
    rcases q with ⟨a, b⟩ | ⟨a, b⟩
    · exact .inl ⟨a, Zg.appendI b hq⟩
    · rcases hq e fr' H' b with ⟨c, _⟩ | ⟨_, d⟩
      · exact absurd c a
      · exact .inr ⟨a, d⟩
def Zxd (ng : Nat) (kf : List (Nat × List Nat)) (keep : List Nat) : Prop := keep = List.range ng ∨ ∃ m, (m, keep) ∈ kf
theorem Zm2 {ng n : Nat} {S : List Nat} {kf : List (Nat × List Nat)} {e e0 : AExit} {fr : AFr} {H : AHeap} {vs : List AV} {os os2 : List AObj} (h : Jw ng S kf e fr H = some ⟨e0, n, false, true, true, vs.map some, os.map some⟩) (hk : Zde ng kf = true) (hl : os2.length = os.length)
    (hr : ∀ keep, Zxd ng kf keep → keep.length = ng + os.length → ∀ (j : Nat) o o2, os[j]? = some o → os2[j]? = some o2 → We 0 keep o o2) : e = e0 ∧ ∃ keep, Zxd ng kf keep ∧ keep.length = ng + os.length ∧ Ren ng keep fr H (Zd n S vs) (Zs ng os2) := by
  unfold Jw at h
  unfold Zde at hk
  rw [Bool.and_eq_true] at hk
  have hin : Zxd ng kf (Zek (List.range ng) H.next kf) := Zg3
  have hk2 : Ww ng (Zek (List.range ng) H.next kf) = true := by
    rcases hin with e | ⟨m, e⟩
    · rw [e]; exact hk.1
    · exact List.all_eq_true.1 hk.2 _ e
  generalize Zek (List.range ng) H.next kf = keep at h hk2 hin
  have hkl : keep.length = ng + os.length := by
    have h2 := h
    simp only [Yj, Option.some.injEq, Leaf.mk.injEq] at h2
    obtain ⟨_, _, _, _, _, _, h6⟩ := h2
    have h7 := congrArg List.length h6
    simp only [List.length_map, List.length_drop] at h7
    have : ng ≤ keep.length := by
      have hk3 := hk2
      simp only [Ww, Bool.and_eq_true, List.all_eq_true, List.mem_range, beq_iff_eq] at hk3
      cases hn : ng with
      | zero => exact Nat.zero_le _
      | succ m =>
        have := hk3.1 m (by omega)
        have := (List.getElem?_eq_some_iff.1 this).1
        omega
    omega
  obtain ⟨rfl, ren⟩ := Jx h hk2 hl hkl (hr keep hin hkl)
  exact ⟨rfl, keep, hin, hkl, ren⟩
theorem Zg.leafMC (hE : EnvOk E P I) {cl : PCl Leaf} {d : Nat} (hc : POk cl (Go.Vai.run E d)) {l : List Code} {fr : AFr} {H : AHeap} {o : Wh} {S : List Nat} {kf : List (Nat × List Nat)} {e : AExit} {n : Nat} {vs : List AV} {os os2 : List AObj} {Q : TQ}
    (h : Zh E cl l (Z5 E.ng S kf) fr H o = lf e n (vs.map some) (os.map some)) (hk : Zde E.ng kf = true) (hl : os2.length = os.length)
    (hr : ∀ keep, Zxd E.ng kf keep → keep.length = E.ng + os.length → ∀ (j : Nat) o o2, os[j]? = some o → os2[j]? = some o2 → We 0 keep o o2) (hm : ∀ fr' H' keep, Zxd E.ng kf keep → keep.length = E.ng + os.length → Ren E.ng keep fr' H' (Zd n S vs) (Zs E.ng os2) → Q e fr' H') : Zg E P I ro l fr H Q := by
  obtain ⟨e1, fr', H', o', e2, e3⟩ := Qs hc l _ fr H o _ h
  obtain ⟨rfl, keep, hin, hkl, ren⟩ := Zm2 e3 hk hl hr
  have := Zg.run (m := []) hE (Xv hE _) (ro := ro) (Q := Q) e2 (by
    cases e1 with
    | normal => exact .inl ⟨rfl, Zg.nil (hm _ _ _ hin hkl ren)⟩
    | _ => exact .inr ⟨(by intro h; cases h), hm _ _ _ hin hkl ren⟩)
  rwa [List.append_nil] at this
def Z2r : Option AExit → AExit
  | none => .normal
  | some e => e
def Z15 : Option AExit → Bool
  | none => true
  | some .ret => true
  | some (.exit _) => true
  | _ => false
theorem Yk.rangeFunc (hE : EnvOk E P I) (hI : Carried I) {f : Operand} {ps : Array Nat} {assign body : Code} {fr : AFr} {H : AHeap} {Q : TQ} {g : Nat} {first cap : List AV} {fn : AFunc}
    (hop : X5 E fr.t f = some (.fn g first cap)) (hfn : E.fn g = some fn) (_hrd : fr.rd = false)
    (h : ∀ M0 : List MEnt, M0.length = H.next + 2 → Yk E P (Z5i I M0) none fn.body (Z8 fn (first ++ (.yld (H.next + 1) :: cap))) ((H.new .dfr).new (.loop .ready none fr.n fr.t ps.toList assign body H.next)) fun e fr' H' =>
      (e = .normal ∨ e = .ret) ∧ fr'.df = [] ∧ (∃ l, Xm E fr'.t H' fn.results = some l) ∧ ∃ keep fr2 H2 st pend n t p a b d, Ren E.ng keep fr' H' fr2 H2 ∧ List.range (H.next + 2) <+: keep ∧ H2.get (H.next + 1) = some (.loop st pend n t p a b d) ∧ st ≠ .busy ∧ Z15 pend = true ∧
        Q (Z2r pend) { fr with df := .mark H.next :: fr.df } (H2.put (H.next + 1) (.loop .exhausted pend n t p a b d))) : Yk E P I none (.rangeFunc f ps assign body) fr H Q := by
  intro M w a st hf
  obtain ⟨fs, cs, hev, r1, r2⟩ := Zw st.g hf.t hop
  refine wpIn_rangeFunc fun fnr _ => ?_
  obtain ⟨n1, n2⟩ := st.hr.new (World.grownBy_alloc w (.deferred (some [])) none) .dfr ⟨w.heap.size, 0, 0, 0⟩ (Nat.le_refl _) (World.alloc_heap_new w _)
  have sz : (w.alloc (.deferred (some []))).heap.size = w.heap.size + 1 := by rw [World.size_alloc]
  have Yl : (M ++ [(⟨w.heap.size, 0, 0, 0⟩ : MEnt)])[H.next]? = some ⟨w.heap.size, 0, 0, 0⟩ := by rw [← st.hr.len]; simp
  have l1 : (M ++ [(⟨w.heap.size, 0, 0, 0⟩ : MEnt)]).length = H.next + 1 := by simp [st.hr.len]
  have at1' : (M ++ [(⟨w.heap.size, 0, 0, 0⟩ : MEnt)] ++ [(⟨w.heap.size + 1, 0, 0, 0⟩ : MEnt)])[H.next]? = some ⟨w.heap.size, 0, 0, 0⟩ := Yt (List.prefix_append _ _) Yl
  have at2 : (M ++ [(⟨w.heap.size, 0, 0, 0⟩ : MEnt)] ++ [(⟨w.heap.size + 1, 0, 0, 0⟩ : MEnt)])[H.next + 1]? = some ⟨w.heap.size + 1, 0, 0, 0⟩ := by
    rw [List.getElem?_append_right (by omega), l1]; simp
  have heapL := World.alloc_heap_new (w.alloc (.deferred (some []))) (.loop { state := .ready, pending := none, fn := fnr, tmps := a.tmps, params := ps, assign, body, defers := w.heap.size })
  obtain ⟨n3, n4⟩ := n1.new (World.grownBy_alloc (w.alloc (.deferred (some []))) (.loop { state := .ready, pending := none, fn := fnr, tmps := a.tmps, params := ps, assign, body, defers := w.heap.size }) none)
    (.loop .ready none fr.n fr.t ps.toList assign body H.next) ⟨w.heap.size + 1, 0, 0, 0⟩ (by rw [sz]; exact Nat.le_refl _)
    ⟨{ state := .ready, pending := none, fn := fnr, tmps := a.tmps, params := ps, assign, body, defers := w.heap.size }, by rw [sz] at heapL; exact heapL, rfl, rfl, rfl, rfl, rfl, hf.n, hf.t.mono ((List.prefix_append _ _).trans (List.prefix_append _ _)), _, at1', rfl⟩
  have x12 := n2.trans n4
  have pre : M <+: M ++ [(⟨w.heap.size, 0, 0, 0⟩ : MEnt)] ++ [(⟨w.heap.size + 1, 0, 0, 0⟩ : MEnt)] := x12.pre
  generalize hM0 : M ++ [(⟨w.heap.size, 0, 0, 0⟩ : MEnt)] ++ [(⟨w.heap.size + 1, 0, 0, 0⟩ : MEnt)] = M0 at at1' at2 n3 x12 pre
  have hlen : M0.length = H.next + 2 := by rw [← hM0]; simp [st.hr.len]
  have hargs : Zq M0 (first ++ (.yld (H.next + 1) :: cap)) (fs ++ (.func (.yield (w.heap.size + 1)) #[] #[] :: cs)) := (r1.mono pre).append ⟨⟨_, at2, rfl⟩, r2.mono pre⟩
  have s0 := st.next hE x12 n3
  obtain ⟨Fn, hF⟩ := hE.fns g fn hfn
  refine ⟨w.heap.size + 1, [{ target := .collected w.heap.size, args := #[] }], _, { target := .fn (.func g) cs.toArray, args := (fs ++ [Value.func (.yield (w.heap.size + 1)) #[] #[]]).toArray }, ((w.alloc (.deferred (some []))).alloc (.loop { state := .ready, pending := none, fn := fnr, tmps := a.tmps, params := ps, assign, body, defers := w.heap.size })), g, (fs ++ (Value.func (.yield (w.heap.size + 1)) #[] #[] :: cs)).toArray, ((w.alloc (.deferred (some []))).alloc (.loop { state := .ready, pending := none, fn := fnr, tmps := a.tmps, params := ps, assign, body, defers := w.heap.size })), run_enterLoop_outer _ _ _ _ _, ?_, fun _ _ => trivial, ?_, fun h => (by cases h), ?_⟩
  · have hk : ∀ v, a.eval (.const v) = v := fun _ => rfl
    simp [resolve, hev, Deferred.ofValue, hk]
  · simp only [invoke]
    have : (fs ++ [Value.func (.yield (w.heap.size + 1)) #[] #[]]).toArray ++ cs.toArray = (fs ++ (Value.func (.yield (w.heap.size + 1)) #[] #[] :: cs)).toArray := by simp
    rw [this]
    exact Jn hF _
  · refine CallsIn.mono (F := FF none) (callsIn_of_wp hF.at_ hF.body trivial (wpIn_mono (h M0 hlen M0 _ _ ⟨s0.hr, s0.g, s0.i, List.prefix_refl _⟩ (Kr hF hargs)) ?_)) (R := fun en w3 => ∃ cv, en = .returned cv ∧ ∃ e fr1 H1 M1 keep fr2 H2 st pend n t p a1 b d, Ren E.ng keep fr1 H1 fr2 H2 ∧ List.range (H.next + 2) <+: keep ∧ H2.get (H.next + 1) = some (.loop st pend n t p a1 b d) ∧ st ≠ .busy ∧ Z15 pend = true ∧ Q (Z2r pend) { fr with df := .mark H.next :: fr.df } (H2.put (H.next + 1) (.loop .exhausted pend n t p a1 b d)) ∧ St E (Z5i I M0) M1 H1 w3 ∧ (∃ a1, FRel none M1 fr1 a1) ∧ e = AExit.normal) ?_
    · rintro ex a1 w1 ⟨e, fr1, H1, M1, ⟨he, hd, ⟨l, hl⟩, keep, fr2, H2, s2, pend, n, t, p, aa, b, d, q⟩, s1, er, f1⟩
      have hdf : a1.defers = [] := by
        have := f1.df
        rw [hd] at this
        generalize a1.defers = x at this ⊢
        cases this; rfl
      rw [← hF.res] at hl
      obtain ⟨cv, z1, z2⟩ := W6 hE.tys s1.hr f1.t hl
      obtain ⟨q1, q2, q3, q4, q5, q6⟩ := q
      rcases he with rfl | rfl
      · simp only [Xr] at er; subst er
        exact ⟨hdf, cv, z1, cv, rfl, .normal, fr1, H1, M1, keep, fr2, H2, s2, pend, n, t, p, aa, b, d, q1, q2, q3, q4, q5, q6, s1, ⟨a1, f1⟩, rfl⟩
      · simp only [Xr] at er; subst er
        exact ⟨hdf, cv, z1, cv, rfl, .normal, fr1, H1, M1, keep, fr2, H2, s2, pend, n, t, p, aa, b, d, q1, q2, q3, q4, q5, q6, s1, ⟨a1, f1⟩, rfl⟩
    · rintro en w3 ⟨cv, rfl, e, fr1, H1, M1, keep, fr2, H2, s2, pend, n, t, p, aa, b, d, q1, q2, q3, q4, q5, q6, s1, ⟨a1, f1⟩, _⟩
      have hcn := hI.pin M0
      rw [hlen] at hcn
      obtain ⟨s4, _⟩ := q1.toN hcn q2 s1 f1
      have pr : M0 <+: Wk keep M1 := s4.i.2
      have a1' := Yt pr at1'
      have a2' := Yt pr at2
      have ff : FRel none (Wk keep M1) { fr with df := .mark H.next :: fr.df } { a with defers := { target := .collected w.heap.size, args := #[] } :: a.defers } :=
        ⟨hf.rd, hf.n, hf.t.mono (pre.trans pr), .cons ⟨_, a1', rfl⟩ (hf.df.mono (pre.trans pr))⟩
      obtain ⟨L, e1, e2, e3, _⟩ := Qr s4.hr a2' q3
      obtain ⟨y1, y2⟩ := Zd9 s4.hr a2' q3 e1 (st' := .exhausted) (pend' := pend) (cst := .exhausted) (cp := L.pending) rfl e3
      have k1 := run_endLoop (P := P) e1 (by rw [e2]; cases s2 <;> simp_all [Zra])
      have s4' : St E I (Wk keep M1) H2 w3 := ⟨s4.hr, s4.g, s4.i.1⟩
      have s5 := s4'.next hE y2 y1
      cases pend with
      | none =>
        simp only [Zk7] at e3
        rw [e3] at k1 s5
        exact ⟨none, _, k1, ⟨.normal, _, _, _, q6, s5, rfl, ff⟩⟩
      | some e =>
        cases e with
        | normal => cases q5
        | panic v => cases q5
        | ret =>
          simp only [Zk7] at e3
          rw [e3] at k1 s5
          exact ⟨some .ret, _, k1, wpIn_ret ⟨.ret, _, _, _, q6, s5, rfl, ff⟩⟩
        | exit i =>
          simp only [Zk7] at e3
          rw [e3] at k1 s5
          exact ⟨some (.exit i), _, k1, wpIn_exit ⟨.exit i, _, _, _, q6, s5, rfl, ff⟩⟩
theorem Z0e {gl : List (Nat × List AV)} {f : FuncId} {args : List AV} {cargs : List Value} {R : AV → AHeap → Prop} (hE : ∀ w, Yf gl w → EnvOk E P (Kept gl w)) (hgl : (gl.all fun x => Nat.blt x.1 E.ng) = true) {fn : AFunc} (hf : E.fn f = some fn)
    (ha : Zq (Wq E.ng 0) args cargs)
    (h : ∀ w, Yf gl w → Yk E P (Kept gl w) none fn.body (Z8 fn args) (Xf E.ng gl) fun e fr H => (e = .normal ∨ e = .ret) ∧ ∃ v H2, Xy E (Go.Vai.run E 0) fn.results fr.t fr.df none H = some (.call (.ret v H2)) ∧ R v H2) : X6 P gl f cargs R := by
  intro w hw
  obtain ⟨Fn, hF⟩ := (hE w hw).fns f fn hf
  have hr : HRel (Wq E.ng 0) (Xf E.ng gl) w := Zbx (Vy _ _) fun g av hm => by
    have hg : g < E.ng := by
      have := List.all_eq_true.1 hgl _ hm
      simpa using this
    exact ⟨hg, by rw [Ko _ 0 g hg]; simp, hw g av hm⟩
  have kp : Kept gl w (Wq E.ng 0) (Xf E.ng gl) w := ⟨hw, Keeps.refl w, fun b _ ⟨id, o, m, e, r, _⟩ => by rw [J3 _ _ id o e] at r; cases r⟩
  refine ⟨Jn hF _, callsIn_of_wp_marks hF.at_ hF.body trivial ?_⟩
  refine wpIn_mono (h w hw _ w _ ⟨hr, Zbu E, kp⟩ (Kr hF ha)) ?_
  rintro ex a1 w1 ⟨e, fr, H1, M1, ⟨he, v, H2, hl, hR⟩, s1, er, f1⟩
  have key : ∀ {en : Ending} {w' : World}, X2 M1 H1 w1 (.ret v H2) en w' → ∃ cv v H' M', en = .returned cv ∧ HRel M' H' w' ∧ Kept gl w M' H' w' ∧ Zj M' v cv ∧ R v H' := fun {en w'} hp => by
    cases en with
    | outgrown => exact hp.elim
    | panicked ch => obtain ⟨_, _, _, _, e, _⟩ := hp; cases e
    | returned cv =>
      obtain ⟨v', H3, M3, e3, x3, x4, x5⟩ := hp
      cases e3
      exact ⟨cv, _, _, M3, rfl, x4, (hE w hw).carry _ _ _ _ _ _ s1.i x3, x5, hR⟩
  have fin := Kj (hE w hw) (Xv (hE w hw) 0) hF fr.df none H1 M1 w1 a1.defers .returning hl (Ext.refl _ _ _) s1 f1.t f1.df rfl
  have fin2 := Q5 (fun en w' hp => key hp) _ _ _ fin
  rcases he with rfl | rfl
  · simp only [Xr] at er; subst er
    exact fin2
  · simp only [Xr] at er; subst er
    exact fin2
end
end
end Go.Vai
end
