/- Ranges over functions whose rounds need an invariant: triples that keep the first names as they are. -/
import Derived.Test.YthlcgkebfodnmaaGreatDoorVaiLoop
import Derived.Shelf.LaysM
import Derived.Test.YthlcgkebfodnmaaGreatDoorProg
import Derived.KernelRfl
section
namespace Go.Vai
noncomputable section
def PinM (I : List MEnt → AHeap → World → Prop) (M0 : List MEnt) (M : List MEnt) (H : AHeap) (w : World) : Prop := I M H w ∧ M0 <+: M
structure CarriedN (N : Nat) (I : List MEnt → AHeap → World → Prop) : Prop where
  ext : ∀ M H w M' H' w', I M H w → Ext M H w M' H' w' → I M' H' w'
  ren : ∀ M H w keep H', I M H w → HRel M H w → HRel (renM keep M) H' w → List.range N <+: keep → (∀ b, Wr (renM keep M) H' b → Wr M H b) → I (renM keep M) H' w
theorem renM_pre {M0 M : List MEnt} {keep : List Nat} (h : M0 <+: M) (hk : List.range M0.length <+: keep) : M0 <+: renM keep M := by
  obtain ⟨r, rfl⟩ := hk
  refine ⟨renM r M, ?_⟩
  unfold renM
  rw [List.map_append]
  congr 1
  apply List.ext_getElem?
  intro i
  rw [List.getElem?_map]
  by_cases hi : i < M0.length
  · have e : M0[i]? = some M0[i] := List.getElem?_eq_getElem hi
    rw [List.getElem?_range hi, Option.map_some, pre_get h e, e]; rfl
  · rw [List.getElem?_eq_none (by omega), List.getElem?_eq_none (by rw [List.length_range]; omega)]; rfl
theorem Carried.pin {I : List MEnt → AHeap → World → Prop} (hI : Carried I) (M0 : List MEnt) : CarriedN M0.length (PinM I M0) where
  ext := fun M H w M' H' w' h x => ⟨hI.ext _ _ _ _ _ _ h.1 x, h.2.trans x.pre⟩
  ren := fun M H w keep _ h h1 h2 hk hw => ⟨hI.ren _ _ _ _ _ h.1 h1 h2 hw, renM_pre h.2 hk⟩
theorem EnvOk.pin {E : Env} {P : Program} {I : List MEnt → AHeap → World → Prop} (hE : EnvOk E P I) (hI : Carried I) (M0 : List MEnt) : EnvOk E P (PinM I M0) where
  tys := hE.tys
  fns := hE.fns
  carry := (hI.pin M0).ext
  mixed := hE.mixed
  sm := fun f args H v H' M w cargs h1 h2 st ha => hE.sm f args H v H' M w cargs h1 h2 ⟨st.hr, st.g, st.i.1⟩ ha
section
variable {E : Env} {P : Program} {I : List MEnt → AHeap → World → Prop} {ih : Task → Option TRes} {ro : Option Nat} {N : Nat}
theorem Ren.toN (hI : CarriedN N I) {keep : List Nat} {fr fr' : AFr} {H H' : AHeap} (r : Ren E.ng keep fr H fr' H') (hk : List.range N <+: keep) {M : List MEnt} {w : World} {a : Act} (st : St E I M H w) (hf : FRel ro M fr a) : St E I (renM keep M) H' w ∧ FRel ro (renM keep M) fr' a := by
  have hlt : ∀ i ∈ keep, i < M.length := fun i hi => by rw [st.hr.len]; exact r.lt i hi
  have hM := renM_ren hlt
  have at_ : ∀ k i, keep[k]? = some i → (renM keep M)[k]? = M[i]? := fun k i h => by have := hM k i h; rwa [Nat.zero_add] at this
  have inj : ∀ k l i : Nat, keep[k]? = some i → keep[l]? = some i → k = l := fun k l i hk hl => by
    have hk' := (List.getElem?_eq_some_iff.1 hk)
    have hl' := (List.getElem?_eq_some_iff.1 hl)
    exact (List.getElem?_inj hk'.1 r.nodup).1 (hk.trans hl.symm)
  have hr : HRel (renM keep M) H' w := by
    refine ⟨by simp [renM, r.next], fun k u hu => ?_, fun k l u v m p hu hv hm hp hkl hb => ?_⟩
    · obtain ⟨i, o, e1, e2, e3⟩ := r.obj k u hu
      obtain ⟨m, hm, ho⟩ := st.hr.obj i o e2
      exact ⟨m, by rw [at_ k i e1]; exact hm, e3.rel hM ho⟩
    · obtain ⟨i, o, e1, e2, e3⟩ := r.obj k u hu
      obtain ⟨j, q, f1, f2, f3⟩ := r.obj l v hv
      rw [at_ k i e1] at hm
      rw [at_ l j f1] at hp
      have hij : i ≠ j := fun e => by subst e; exact hkl (inj k l i e1 f1)
      obtain ⟨z1, z2⟩ := st.hr.inj i j o q m p e2 f2 hm hp hij hb
      exact ⟨by rw [e3.ro]; exact z1, by rw [f3.ro]; exact z2⟩
  refine ⟨⟨hr, fun g hg => ?_, hI.ren _ _ _ _ _ st.i st.hr hr hk fun b hb => ?_⟩, ⟨by rw [r.rd]; exact hf.rd, by rw [r.n]; exact hf.n, fun i y hy => ?_, ?_⟩⟩
  · obtain ⟨m, hm, h2⟩ := st.g g hg
    exact ⟨m, by rw [at_ g g (r.glob g hg)]; exact hm, h2⟩
  · obtain ⟨k, u, m, e, hro, hm, rfl⟩ := hb
    obtain ⟨i, o, e1, e2, e3⟩ := r.obj k u e
    rw [at_ k i e1] at hm
    exact ⟨i, o, m, e2, by rw [← e3.ro]; exact hro, hm, rfl⟩
  · obtain ⟨x, hx, hxy⟩ := r.t i y hy
    obtain ⟨cv, hc, hv⟩ := hf.t i x hx
    exact ⟨cv, hc, rnV_rel hM _ _ _ hxy hv⟩
  · have := hf.df
    rw [r.df.1] at this
    rw [r.df.2]
    generalize a.defers = l at this ⊢
    cases this
    exact .nil
theorem Tri.renN (hI : CarriedN N I) {c : Code} {keep : List Nat} {fr fr' : AFr} {H H' : AHeap} {Q : TQ} (r : Ren E.ng keep fr H fr' H') (hk : List.range N <+: keep) (h : Tri E P I ro c fr' H' Q) : Tri E P I ro c fr H Q := fun M w a st hf => by
  obtain ⟨s, f⟩ := r.toN hI hk st hf
  exact h _ w a s f
theorem TriL.renN (hI : CarriedN N I) {l : List Code} {keep : List Nat} {fr fr' : AFr} {H H' : AHeap} {Q : TQ} (r : Ren E.ng keep fr H fr' H') (hk : List.range N <+: keep) (h : TriL E P I ro l fr' H' Q) : TriL E P I ro l fr H Q := by
  cases l with
  | nil =>
    intro M w a st hf
    obtain ⟨s, f⟩ := r.toN hI hk st hf
    exact h _ w a s f
  | cons c l =>
    intro M w a st hf
    obtain ⟨s, f⟩ := r.toN hI hk st hf
    exact h _ w a s f
theorem Tri.loopN {X : Type} {c : Code} {fr : X → AFr} {H : X → AHeap} {Inv : X → Prop} (meas : X → Nat) {Q : TQ} (hI : CarriedN N I)
    (body : ∀ x, Inv x → Tri E P I ro c (fr x) (H x) fun e fr' H' => (e = .normal ∧ ∃ x' keep, Inv x' ∧ meas x' < meas x ∧ List.range N <+: keep ∧ Ren E.ng keep fr' H' (fr x') (H x')) ∨ (e ≠ .normal ∧ Q e fr' H')) :
    ∀ x, Inv x → Tri E P I ro (.loop c) (fr x) (H x) Q := by
  intro x hx M w a st hf
  refine loopWp_loop ?_
  have main : ∀ (n : Nat) (x : X), meas x = n → Inv x → ∀ M w a, St E I M (H x) w → FRel ro M (fr x) a → LoopWp (FF ro) P c (TPost E I ro Q) a w := by
    intro n
    induction n using Nat.strongRecOn with
    | _ n ihn =>
      intro x hn hx M w a st hf
      refine loopWp_of (wpIn_mono (body x hx M w a st hf) ?_)
      rintro ex a1 w1 ⟨e, fr1, H1, M1, q, s1, er, f1⟩
      rcases q with ⟨rfl, x', keep, i', hm, hk, hr⟩ | ⟨hne, q⟩
      · simp only [ERel] at er; subst er
        obtain ⟨s2, f2⟩ := hr.toN hI hk s1 f1
        exact ihn (meas x') (by omega) x' rfl i' _ w1 a1 s2 f2
      · have post : TPost E I ro Q ex a1 w1 := ⟨e, fr1, H1, M1, q, s1, er, f1⟩
        cases e with
        | normal => exact absurd rfl hne
        | exit i => simp only [ERel] at er; subst er; exact post
        | ret => simp only [ERel] at er; subst er; exact post
        | panic v => obtain ⟨cv, rfl, _⟩ := er; exact post
  exact main _ x rfl hx M w a st hf
theorem TriL.appendI : ∀ {l m : List Code} {fr : AFr} {H : AHeap} {Q1 Q : TQ}, TriL E P I ro l fr H Q1 → (∀ e fr' H', Q1 e fr' H' → (e = .normal ∧ TriL E P I ro m fr' H' Q) ∨ (e ≠ .normal ∧ Q e fr' H')) → TriL E P I ro (l ++ m) fr H Q
  | [], m, fr, H, Q1, Q, h, hq => by
    have key : ∀ M w a, St E I M H w → FRel ro M fr a → ∃ fr' H' M', TriL E P I ro m fr' H' Q ∧ St E I M' H' w ∧ FRel ro M' fr' a := fun M w a st hf => by
      obtain ⟨e, fr', H', M', q, s1, er, f1⟩ := h M w a st hf
      have he : e = .normal := ERel.normal er |>.2 rfl
      rcases hq e fr' H' q with ⟨_, t⟩ | ⟨hne, _⟩
      · exact ⟨fr', H', M', t, s1, f1⟩
      · exact absurd he hne
    cases m with
    | nil =>
      intro M w a st hf
      obtain ⟨fr', H', M', t, s1, f1⟩ := key M w a st hf
      exact t M' w a s1 f1
    | cons c m =>
      intro M w a st hf
      obtain ⟨fr', H', M', t, s1, f1⟩ := key M w a st hf
      exact t M' w a s1 f1
  | _ :: _, _, _, _, _, _, h, hq => Tri.mono h fun e fr' H' q => by
    rcases q with ⟨a, b⟩ | ⟨a, b⟩
    · exact .inl ⟨a, TriL.appendI b hq⟩
    · rcases hq e fr' H' b with ⟨c, _⟩ | ⟨_, d⟩
      · exact absurd c a
      · exact .inr ⟨a, d⟩
def inKf (ng : Nat) (kf : List (Nat × List Nat)) (keep : List Nat) : Prop := keep = List.range ng ∨ ∃ m, (m, keep) ∈ kf
theorem ren_of_leafM {ng n : Nat} {S : List Nat} {kf : List (Nat × List Nat)} {e e0 : AExit} {fr : AFr} {H : AHeap} {vs : List AV} {os os2 : List AObj} (h : leafF ng S kf e fr H = some ⟨e0, n, false, true, true, vs.map some, os.map some⟩) (hk : kfOk ng kf = true) (hl : os2.length = os.length)
    (hr : ∀ keep, inKf ng kf keep → keep.length = ng + os.length → ∀ (j : Nat) o o2, os[j]? = some o → os2[j]? = some o2 → RObj 0 keep o o2) : e = e0 ∧ ∃ keep, inKf ng kf keep ∧ keep.length = ng + os.length ∧ Ren ng keep fr H (mkFr n S vs) (mkH ng os2) := by
  unfold leafF at h
  unfold kfOk at hk
  rw [Bool.and_eq_true] at hk
  have hin : inKf ng kf (kfind (List.range ng) H.next kf) := kfind_mem
  have hk2 : keepOk ng (kfind (List.range ng) H.next kf) = true := by
    rcases hin with e | ⟨m, e⟩
    · rw [e]; exact hk.1
    · exact List.all_eq_true.1 hk.2 _ e
  generalize kfind (List.range ng) H.next kf = keep at h hk2 hin
  have hkl : keep.length = ng + os.length := by
    have h2 := h
    simp only [leafK, Option.some.injEq, Leaf.mk.injEq] at h2
    obtain ⟨_, _, _, _, _, _, h6⟩ := h2
    have h7 := congrArg List.length h6
    simp only [List.length_map, List.length_drop] at h7
    have : ng ≤ keep.length := by
      have hk3 := hk2
      simp only [keepOk, Bool.and_eq_true, List.all_eq_true, List.mem_range, beq_iff_eq] at hk3
      cases hn : ng with
      | zero => exact Nat.zero_le _
      | succ m =>
        have := hk3.1 m (by omega)
        have := (List.getElem?_eq_some_iff.1 this).1
        omega
    omega
  obtain ⟨rfl, ren⟩ := ren_of_leaf h hk2 hl hkl (hr keep hin hkl)
  exact ⟨rfl, keep, hin, hkl, ren⟩
theorem TriL.leafMC (hE : EnvOk E P I) {cl : PCl Leaf} {d : Nat} (hc : POk cl (Go.Vai.run E d)) {l : List Code} {fr : AFr} {H : AHeap} {o : Orc} {S : List Nat} {kf : List (Nat × List Nat)} {e : AExit} {n : Nat} {vs : List AV} {os os2 : List AObj} {Q : TQ}
    (h : codesP E cl l (leafP E.ng S kf) fr H o = lf e n (vs.map some) (os.map some)) (hk : kfOk E.ng kf = true) (hl : os2.length = os.length)
    (hr : ∀ keep, inKf E.ng kf keep → keep.length = E.ng + os.length → ∀ (j : Nat) o o2, os[j]? = some o → os2[j]? = some o2 → RObj 0 keep o o2) (hm : ∀ fr' H' keep, inKf E.ng kf keep → keep.length = E.ng + os.length → Ren E.ng keep fr' H' (mkFr n S vs) (mkH E.ng os2) → Q e fr' H') : TriL E P I ro l fr H Q := by
  obtain ⟨e1, fr', H', o', e2, e3⟩ := codesP_some hc l _ fr H o _ h
  obtain ⟨rfl, keep, hin, hkl, ren⟩ := ren_of_leafM e3 hk hl hr
  have := TriL.run (m := []) hE (sound_run hE _) (ro := ro) (Q := Q) e2 (by
    cases e1 with
    | normal => exact .inl ⟨rfl, TriL.nil (hm _ _ _ hin hkl ren)⟩
    | _ => exact .inr ⟨(by intro h; cases h), hm _ _ _ hin hkl ren⟩)
  rwa [List.append_nil] at this
def exitOf : Option AExit → AExit
  | none => .normal
  | some e => e
def pendOk : Option AExit → Bool
  | none => true
  | some .ret => true
  | some (.exit _) => true
  | _ => false
theorem Tri.rangeFunc (hE : EnvOk E P I) (hI : Carried I) {f : Operand} {ps : Array Nat} {assign body : Code} {fr : AFr} {H : AHeap} {Q : TQ} {g : Nat} {first cap : List AV} {fn : AFunc}
    (hop : opd E fr.t f = some (.fn g first cap)) (hfn : E.fn g = some fn) (_hrd : fr.rd = false)
    (h : ∀ M0 : List MEnt, M0.length = H.next + 2 → Tri E P (PinM I M0) none fn.body (newFr fn (first ++ (.yld (H.next + 1) :: cap))) ((H.new .dfr).new (.loop .ready none fr.n fr.t ps.toList assign body H.next)) fun e fr' H' =>
      (e = .normal ∨ e = .ret) ∧ fr'.df = [] ∧ (∃ l, resA E fr'.t H' fn.results = some l) ∧ ∃ keep fr2 H2 st pend n t p a b d, Ren E.ng keep fr' H' fr2 H2 ∧ List.range (H.next + 2) <+: keep ∧ H2.get (H.next + 1) = some (.loop st pend n t p a b d) ∧ st ≠ .busy ∧ pendOk pend = true ∧
        Q (exitOf pend) { fr with df := .mark H.next :: fr.df } (H2.put (H.next + 1) (.loop .exhausted pend n t p a b d))) : Tri E P I none (.rangeFunc f ps assign body) fr H Q := by
  intro M w a st hf
  obtain ⟨fs, cs, hev, r1, r2⟩ := opd_rel st.g hf.t hop
  refine wpIn_rangeFunc fun fnr _ => ?_
  obtain ⟨n1, n2⟩ := st.hr.new (World.grownBy_alloc w (.deferred (some [])) none) .dfr ⟨w.heap.size, 0, 0, 0⟩ (Nat.le_refl _) (World.alloc_heap_new w _)
  have sz : (w.alloc (.deferred (some []))).heap.size = w.heap.size + 1 := by rw [World.size_alloc]
  have at1 : (M ++ [(⟨w.heap.size, 0, 0, 0⟩ : MEnt)])[H.next]? = some ⟨w.heap.size, 0, 0, 0⟩ := by rw [← st.hr.len]; simp
  have l1 : (M ++ [(⟨w.heap.size, 0, 0, 0⟩ : MEnt)]).length = H.next + 1 := by simp [st.hr.len]
  have at1' : (M ++ [(⟨w.heap.size, 0, 0, 0⟩ : MEnt)] ++ [(⟨w.heap.size + 1, 0, 0, 0⟩ : MEnt)])[H.next]? = some ⟨w.heap.size, 0, 0, 0⟩ := pre_get (List.prefix_append _ _) at1
  have at2 : (M ++ [(⟨w.heap.size, 0, 0, 0⟩ : MEnt)] ++ [(⟨w.heap.size + 1, 0, 0, 0⟩ : MEnt)])[H.next + 1]? = some ⟨w.heap.size + 1, 0, 0, 0⟩ := by
    rw [List.getElem?_append_right (by omega), l1]; simp
  have heapL := World.alloc_heap_new (w.alloc (.deferred (some []))) (.loop { state := .ready, pending := none, fn := fnr, tmps := a.tmps, params := ps, assign, body, defers := w.heap.size })
  obtain ⟨n3, n4⟩ := n1.new (World.grownBy_alloc (w.alloc (.deferred (some []))) (.loop { state := .ready, pending := none, fn := fnr, tmps := a.tmps, params := ps, assign, body, defers := w.heap.size }) none)
    (.loop .ready none fr.n fr.t ps.toList assign body H.next) ⟨w.heap.size + 1, 0, 0, 0⟩ (by rw [sz]; exact Nat.le_refl _)
    ⟨{ state := .ready, pending := none, fn := fnr, tmps := a.tmps, params := ps, assign, body, defers := w.heap.size }, by rw [sz] at heapL; exact heapL, rfl, rfl, rfl, rfl, rfl, hf.n, hf.t.mono ((List.prefix_append _ _).trans (List.prefix_append _ _)), _, at1', rfl⟩
  have x12 := n2.trans n4
  have pre : M <+: M ++ [(⟨w.heap.size, 0, 0, 0⟩ : MEnt)] ++ [(⟨w.heap.size + 1, 0, 0, 0⟩ : MEnt)] := x12.pre
  generalize hM0 : M ++ [(⟨w.heap.size, 0, 0, 0⟩ : MEnt)] ++ [(⟨w.heap.size + 1, 0, 0, 0⟩ : MEnt)] = M0 at at1' at2 n3 x12 pre
  have hlen : M0.length = H.next + 2 := by rw [← hM0]; simp [st.hr.len]
  have hargs : VRels M0 (first ++ (.yld (H.next + 1) :: cap)) (fs ++ (.func (.yield (w.heap.size + 1)) #[] #[] :: cs)) := (r1.mono pre).append ⟨⟨_, at2, rfl⟩, r2.mono pre⟩
  have s0 := st.next hE x12 n3
  obtain ⟨Fn, hF⟩ := hE.fns g fn hfn
  refine ⟨w.heap.size + 1, [{ target := .collected w.heap.size, args := #[] }], _, { target := .fn (.func g) cs.toArray, args := (fs ++ [Value.func (.yield (w.heap.size + 1)) #[] #[]]).toArray }, ((w.alloc (.deferred (some []))).alloc (.loop { state := .ready, pending := none, fn := fnr, tmps := a.tmps, params := ps, assign, body, defers := w.heap.size })), g, (fs ++ (Value.func (.yield (w.heap.size + 1)) #[] #[] :: cs)).toArray, ((w.alloc (.deferred (some []))).alloc (.loop { state := .ready, pending := none, fn := fnr, tmps := a.tmps, params := ps, assign, body, defers := w.heap.size })), run_enterLoop_outer _ _ _ _ _, ?_, fun _ _ => trivial, ?_, fun h => (by cases h), ?_⟩
  · have hk : ∀ v, a.eval (.const v) = v := fun _ => rfl
    simp [resolve, hev, Deferred.ofValue, hk]
  · simp only [invoke]
    have : (fs ++ [Value.func (.yield (w.heap.size + 1)) #[] #[]]).toArray ++ cs.toArray = (fs ++ (Value.func (.yield (w.heap.size + 1)) #[] #[] :: cs)).toArray := by simp
    rw [this]
    exact enter_run hF _
  · refine CallsIn.mono (F := FF none) (callsIn_of_wp hF.at_ hF.body trivial (wpIn_mono (h M0 hlen M0 _ _ ⟨s0.hr, s0.g, s0.i, List.prefix_refl _⟩ (newFr_rel hF hargs)) ?_)) (R := fun en w3 => ∃ cv, en = .returned cv ∧ ∃ e fr1 H1 M1 keep fr2 H2 st pend n t p a1 b d, Ren E.ng keep fr1 H1 fr2 H2 ∧ List.range (H.next + 2) <+: keep ∧ H2.get (H.next + 1) = some (.loop st pend n t p a1 b d) ∧ st ≠ .busy ∧ pendOk pend = true ∧ Q (exitOf pend) { fr with df := .mark H.next :: fr.df } (H2.put (H.next + 1) (.loop .exhausted pend n t p a1 b d)) ∧ St E (PinM I M0) M1 H1 w3 ∧ (∃ a1, FRel none M1 fr1 a1) ∧ e = AExit.normal) ?_
    · rintro ex a1 w1 ⟨e, fr1, H1, M1, ⟨he, hd, ⟨l, hl⟩, keep, fr2, H2, s2, pend, n, t, p, aa, b, d, q⟩, s1, er, f1⟩
      have hdf : a1.defers = [] := by
        have := f1.df
        rw [hd] at this
        generalize a1.defers = x at this ⊢
        cases this; rfl
      rw [← hF.res] at hl
      obtain ⟨cv, z1, z2⟩ := results_sound hE.tys s1.hr f1.t hl
      obtain ⟨q1, q2, q3, q4, q5, q6⟩ := q
      rcases he with rfl | rfl
      · simp only [ERel] at er; subst er
        exact ⟨hdf, cv, z1, cv, rfl, .normal, fr1, H1, M1, keep, fr2, H2, s2, pend, n, t, p, aa, b, d, q1, q2, q3, q4, q5, q6, s1, ⟨a1, f1⟩, rfl⟩
      · simp only [ERel] at er; subst er
        exact ⟨hdf, cv, z1, cv, rfl, .normal, fr1, H1, M1, keep, fr2, H2, s2, pend, n, t, p, aa, b, d, q1, q2, q3, q4, q5, q6, s1, ⟨a1, f1⟩, rfl⟩
    · rintro en w3 ⟨cv, rfl, e, fr1, H1, M1, keep, fr2, H2, s2, pend, n, t, p, aa, b, d, q1, q2, q3, q4, q5, q6, s1, ⟨a1, f1⟩, _⟩
      have hcn := hI.pin M0
      rw [hlen] at hcn
      obtain ⟨s4, _⟩ := q1.toN hcn q2 s1 f1
      have pr : M0 <+: renM keep M1 := s4.i.2
      have a1' := pre_get pr at1'
      have a2' := pre_get pr at2
      have ff : FRel none (renM keep M1) { fr with df := .mark H.next :: fr.df } { a with defers := { target := .collected w.heap.size, args := #[] } :: a.defers } :=
        ⟨hf.rd, hf.n, hf.t.mono (pre.trans pr), .cons ⟨_, a1', rfl⟩ (hf.df.mono (pre.trans pr))⟩
      obtain ⟨L, e1, e2, e3, _⟩ := getLoop_rel s4.hr a2' q3
      obtain ⟨y1, y2⟩ := putLoop s4.hr a2' q3 e1 (st' := .exhausted) (pend' := pend) (cst := .exhausted) (cp := L.pending) rfl e3
      have k1 := run_endLoop (P := P) e1 (by rw [e2]; cases s2 <;> simp_all [lstOf])
      have s4' : St E I (renM keep M1) H2 w3 := ⟨s4.hr, s4.g, s4.i.1⟩
      have s5 := s4'.next hE y2 y1
      cases pend with
      | none =>
        simp only [PRel] at e3
        rw [e3] at k1 s5
        exact ⟨none, _, k1, ⟨.normal, _, _, _, q6, s5, rfl, ff⟩⟩
      | some e =>
        cases e with
        | normal => cases q5
        | panic v => cases q5
        | ret =>
          simp only [PRel] at e3
          rw [e3] at k1 s5
          exact ⟨some .ret, _, k1, wpIn_ret ⟨.ret, _, _, _, q6, s5, rfl, ff⟩⟩
        | exit i =>
          simp only [PRel] at e3
          rw [e3] at k1 s5
          exact ⟨some (.exit i), _, k1, wpIn_exit ⟨.exit i, _, _, _, q6, s5, rfl, ff⟩⟩
theorem body_toM {gl : List (Nat × List AV)} {f : FuncId} {args : List AV} {cargs : List Value} {R : AV → AHeap → Prop} (hE : ∀ w, GlobOk gl w → EnvOk E P (Kept gl w)) (hgl : (gl.all fun x => Nat.blt x.1 E.ng) = true) {fn : AFunc} (hf : E.fn f = some fn)
    (ha : VRels (mGlob E.ng 0) args cargs)
    (h : ∀ w, GlobOk gl w → Tri E P (Kept gl w) none fn.body (newFr fn args) (gHeap E.ng gl) fun e fr H => (e = .normal ∨ e = .ret) ∧ ∃ v H2, leaveA E (Go.Vai.run E 0) fn.results fr.t fr.df none H = some (.call (.ret v H2)) ∧ R v H2) : BodyTo P gl f cargs R := by
  intro w hw
  obtain ⟨Fn, hF⟩ := (hE w hw).fns f fn hf
  have hr : HRel (mGlob E.ng 0) (gHeap E.ng gl) w := gHeap_rel (mGlob_len _ _) fun g av hm => by
    have hg : g < E.ng := by
      have := List.all_eq_true.1 hgl _ hm
      simpa using this
    exact ⟨hg, by rw [mGlob_get _ 0 g hg]; simp, hw g av hm⟩
  have kp : Kept gl w (mGlob E.ng 0) (gHeap E.ng gl) w := ⟨hw, Keeps.refl w, fun b _ ⟨id, o, m, e, r, _⟩ => by rw [gHeap_ro _ _ id o e] at r; cases r⟩
  refine ⟨enter_run hF _, callsIn_of_wp_marks hF.at_ hF.body trivial ?_⟩
  refine wpIn_mono (h w hw _ w _ ⟨hr, grel_glob E, kp⟩ (newFr_rel hF ha)) ?_
  rintro ex a1 w1 ⟨e, fr, H1, M1, ⟨he, v, H2, hl, hR⟩, s1, er, f1⟩
  have key : ∀ {en : Ending} {w' : World}, CallPost M1 H1 w1 (.ret v H2) en w' → ∃ cv v H' M', en = .returned cv ∧ HRel M' H' w' ∧ Kept gl w M' H' w' ∧ VRel M' v cv ∧ R v H' := fun {en w'} hp => by
    cases en with
    | outgrown => exact hp.elim
    | panicked ch => obtain ⟨_, _, _, _, e, _⟩ := hp; cases e
    | returned cv =>
      obtain ⟨v', H3, M3, e3, x3, x4, x5⟩ := hp
      cases e3
      exact ⟨cv, _, _, M3, rfl, x4, (hE w hw).carry _ _ _ _ _ _ s1.i x3, x5, hR⟩
  have fin := leaveA_sound (hE w hw) (sound_run (hE w hw) 0) hF fr.df none H1 M1 w1 a1.defers .returning hl (Ext.refl _ _ _) s1 f1.t f1.df rfl
  have fin2 := leavesInM_mono (fun en w' hp => key hp) _ _ _ fin
  rcases he with rfl | rfl
  · simp only [ERel] at er; subst er
    exact fin2
  · simp only [ERel] at er; subst er
    exact fin2
end
end
end Go.Vai
end
namespace Go.Proofs.YthlcgkebfodnmaaGreatDoor
open Go Go.Vai Go.Shelf
set_option maxRecDepth 100000
def lays144_ren : Go.Shelf.Ren := ⟨fun | 144 => 127 | 143 => 117 | 219 => 215 | 217 => 292 | 225 => 293 | 224 => 294 | 267 => 295 | 266 => 335 | 314 => 336 | n => n, fun | 9 => 9 | 4 => 4 | 3 => 3 | 5 => 5 | 46 => 23 | 146 => 442 | 51 => 207 | n => n, fun | 1 => 0 | n => n⟩
theorem lays144 : Go.Proofs.LaysM.n144 Tryz.prog lays144_ren :=
  {
  mixed := by kernel_rfl,
  f143 := Tryz.func117.trans (congrArg some (by kernel_rfl)),
  f144 := Tryz.func127.trans (congrArg some (by kernel_rfl)),
  f217 := Tryz.func292.trans (congrArg some (by kernel_rfl)),
  f219 := Tryz.func215.trans (congrArg some (by kernel_rfl)),
  f224 := Tryz.func294.trans (congrArg some (by kernel_rfl)),
  f225 := Tryz.func293.trans (congrArg some (by kernel_rfl)),
  f266 := Tryz.func335.trans (congrArg some (by kernel_rfl)),
  f267 := Tryz.func295.trans (congrArg some (by kernel_rfl)),
  f314 := Tryz.func336.trans (congrArg some (by kernel_rfl)),
  t3 := Tryz.underlying3,
  a3 := Tryz.isAgg3,
  z3 := Tryz.sizeOf3,
  v3 := Tryz.zeroValue3,
  t4 := Tryz.underlying4,
  a4 := Tryz.isAgg4,
  z4 := Tryz.sizeOf4,
  v4 := Tryz.zeroValue4,
  t5 := Tryz.underlying5,
  a5 := Tryz.isAgg5,
  z5 := Tryz.sizeOf5,
  v5 := Tryz.zeroValue5,
  t9 := Tryz.underlying9,
  a9 := Tryz.isAgg9,
  z9 := Tryz.sizeOf9,
  v9 := Tryz.zeroValue9,
  t46 := Tryz.underlying23,
  a46 := Tryz.isAgg23,
  z46 := Tryz.sizeOf23,
  v46 := Tryz.zeroValue23,
  t51 := Tryz.underlying207,
  a51 := Tryz.isAgg207,
  z51 := Tryz.sizeOf207,
  v51 := Tryz.zeroValue207,
  t146 := Tryz.underlying442,
  a146 := Tryz.isAgg442,
  z146 := Tryz.sizeOf442,
  v146 := Tryz.zeroValue442,
  g1 := by kernel_rfl,
  i3 := by kernel_rfl,
  i4 := by kernel_rfl,
  i5 := by kernel_rfl,
  i9 := by kernel_rfl,
  i46 := by kernel_rfl,
  i51 := by kernel_rfl,
  i146 := by kernel_rfl,
  m1 := by kernel_rfl,
  s1_3 := fun w h => Go.Proofs.cell_of_shapedOpen_int (zero := #[.int .i64 0]) (t := 3) h (of_decide_eq_true (by kernel_rfl)) (by kernel_rfl) rfl (by kernel_rfl) (by kernel_rfl) Tryz.underlying3 }
def lays146_ren : Go.Shelf.Ren := ⟨fun | 146 => 57 | 221 => 118 | 268 => 216 | 138 => 56 | 143 => 117 | 195 => 115 | 197 => 296 | 218 => 116 | 219 => 215 | 260 => 337 | 217 => 292 | 225 => 293 | 224 => 294 | 267 => 295 | 266 => 335 | 314 => 336 | n => n, fun | 9 => 9 | 31 => 64 | 3 => 3 | 4 => 4 | 0 => 0 | 105 => 409 | 21 => 21 | 5 => 5 | 46 => 23 | 119 => 432 | 139 => 470 | 138 => 469 | 146 => 442 | 51 => 207 | n => n, fun | 1 => 0 | 3 => 4 | 4 => 5 | n => n⟩
theorem lays146 : Go.Proofs.LaysM.n146 Tryz.prog lays146_ren :=
  {
  mixed := by kernel_rfl,
  f138 := Tryz.func56.trans (congrArg some (by kernel_rfl)),
  f143 := Tryz.func117.trans (congrArg some (by kernel_rfl)),
  f146 := Tryz.func57.trans (congrArg some (by kernel_rfl)),
  f195 := Tryz.func115.trans (congrArg some (by kernel_rfl)),
  f197 := Tryz.func296.trans (congrArg some (by kernel_rfl)),
  f217 := Tryz.func292.trans (congrArg some (by kernel_rfl)),
  f218 := Tryz.func116.trans (congrArg some (by kernel_rfl)),
  f219 := Tryz.func215.trans (congrArg some (by kernel_rfl)),
  f221 := Tryz.func118.trans (congrArg some (by kernel_rfl)),
  f224 := Tryz.func294.trans (congrArg some (by kernel_rfl)),
  f225 := Tryz.func293.trans (congrArg some (by kernel_rfl)),
  f260 := Tryz.func337.trans (congrArg some (by kernel_rfl)),
  f266 := Tryz.func335.trans (congrArg some (by kernel_rfl)),
  f267 := Tryz.func295.trans (congrArg some (by kernel_rfl)),
  f268 := Tryz.func216.trans (congrArg some (by kernel_rfl)),
  f314 := Tryz.func336.trans (congrArg some (by kernel_rfl)),
  t0 := Tryz.underlying0,
  a0 := Tryz.isAgg0,
  z0 := Tryz.sizeOf0,
  v0 := Tryz.zeroValue0,
  t3 := Tryz.underlying3,
  a3 := Tryz.isAgg3,
  z3 := Tryz.sizeOf3,
  v3 := Tryz.zeroValue3,
  t4 := Tryz.underlying4,
  a4 := Tryz.isAgg4,
  z4 := Tryz.sizeOf4,
  v4 := Tryz.zeroValue4,
  t5 := Tryz.underlying5,
  a5 := Tryz.isAgg5,
  z5 := Tryz.sizeOf5,
  v5 := Tryz.zeroValue5,
  t9 := Tryz.underlying9,
  a9 := Tryz.isAgg9,
  z9 := Tryz.sizeOf9,
  v9 := Tryz.zeroValue9,
  t21 := Tryz.underlying21,
  a21 := Tryz.isAgg21,
  z21 := Tryz.sizeOf21,
  v21 := Tryz.zeroValue21,
  t31 := Tryz.underlying64,
  a31 := Tryz.isAgg64,
  z31 := Tryz.sizeOf64,
  v31 := Tryz.zeroValue64,
  t46 := Tryz.underlying23,
  a46 := Tryz.isAgg23,
  z46 := Tryz.sizeOf23,
  v46 := Tryz.zeroValue23,
  t51 := Tryz.underlying207,
  a51 := Tryz.isAgg207,
  z51 := Tryz.sizeOf207,
  v51 := Tryz.zeroValue207,
  t105 := Tryz.underlying409,
  a105 := Tryz.isAgg409,
  z105 := Tryz.sizeOf409,
  v105 := Tryz.zeroValue409,
  t119 := Tryz.underlying432,
  a119 := Tryz.isAgg432,
  z119 := Tryz.sizeOf432,
  t138 := Tryz.underlying469,
  a138 := Tryz.isAgg469,
  z138 := Tryz.sizeOf469,
  v138 := Tryz.zeroValue469,
  t139 := Tryz.underlying470,
  a139 := Tryz.isAgg470,
  z139 := Tryz.sizeOf470,
  v139 := Tryz.zeroValue470,
  t146 := Tryz.underlying442,
  a146 := Tryz.isAgg442,
  z146 := Tryz.sizeOf442,
  v146 := Tryz.zeroValue442,
  g1 := by kernel_rfl,
  g3 := by kernel_rfl,
  g4 := by kernel_rfl,
  i0 := by kernel_rfl,
  i3 := by kernel_rfl,
  i4 := by kernel_rfl,
  i5 := by kernel_rfl,
  i9 := by kernel_rfl,
  i21 := by kernel_rfl,
  i31 := by kernel_rfl,
  i46 := by kernel_rfl,
  i51 := by kernel_rfl,
  i105 := by kernel_rfl,
  i138 := by kernel_rfl,
  i139 := by kernel_rfl,
  i146 := by kernel_rfl,
  m1 := by kernel_rfl,
  s1_3 := fun w h => Go.Proofs.cell_of_shapedOpen_int (zero := #[.int .i64 0]) (t := 3) h (of_decide_eq_true (by kernel_rfl)) (by kernel_rfl) rfl (by kernel_rfl) (by kernel_rfl) Tryz.underlying3,
  m3 := by kernel_rfl,
  m4 := by kernel_rfl }
def lays138_ren : Go.Shelf.Ren := ⟨fun | 138 => 56 | 195 => 115 | 218 => 116 | 143 => 117 | 219 => 215 | 217 => 292 | 225 => 293 | 224 => 294 | 267 => 295 | 266 => 335 | 314 => 336 | n => n, fun | 9 => 9 | 3 => 3 | 4 => 4 | 5 => 5 | 0 => 0 | 46 => 23 | 146 => 442 | 51 => 207 | n => n, fun | 1 => 0 | n => n⟩
theorem lays138 : Go.Proofs.LaysM.n138 Tryz.prog lays138_ren :=
  {
  mixed := by kernel_rfl,
  f138 := Tryz.func56.trans (congrArg some (by kernel_rfl)),
  f143 := Tryz.func117.trans (congrArg some (by kernel_rfl)),
  f195 := Tryz.func115.trans (congrArg some (by kernel_rfl)),
  f217 := Tryz.func292.trans (congrArg some (by kernel_rfl)),
  f218 := Tryz.func116.trans (congrArg some (by kernel_rfl)),
  f219 := Tryz.func215.trans (congrArg some (by kernel_rfl)),
  f224 := Tryz.func294.trans (congrArg some (by kernel_rfl)),
  f225 := Tryz.func293.trans (congrArg some (by kernel_rfl)),
  f266 := Tryz.func335.trans (congrArg some (by kernel_rfl)),
  f267 := Tryz.func295.trans (congrArg some (by kernel_rfl)),
  f314 := Tryz.func336.trans (congrArg some (by kernel_rfl)),
  t0 := Tryz.underlying0,
  a0 := Tryz.isAgg0,
  z0 := Tryz.sizeOf0,
  v0 := Tryz.zeroValue0,
  t3 := Tryz.underlying3,
  a3 := Tryz.isAgg3,
  z3 := Tryz.sizeOf3,
  v3 := Tryz.zeroValue3,
  t4 := Tryz.underlying4,
  a4 := Tryz.isAgg4,
  z4 := Tryz.sizeOf4,
  v4 := Tryz.zeroValue4,
  t5 := Tryz.underlying5,
  a5 := Tryz.isAgg5,
  z5 := Tryz.sizeOf5,
  v5 := Tryz.zeroValue5,
  t9 := Tryz.underlying9,
  a9 := Tryz.isAgg9,
  z9 := Tryz.sizeOf9,
  v9 := Tryz.zeroValue9,
  t46 := Tryz.underlying23,
  a46 := Tryz.isAgg23,
  z46 := Tryz.sizeOf23,
  v46 := Tryz.zeroValue23,
  t51 := Tryz.underlying207,
  a51 := Tryz.isAgg207,
  z51 := Tryz.sizeOf207,
  v51 := Tryz.zeroValue207,
  t146 := Tryz.underlying442,
  a146 := Tryz.isAgg442,
  z146 := Tryz.sizeOf442,
  v146 := Tryz.zeroValue442,
  g1 := by kernel_rfl,
  i0 := by kernel_rfl,
  i3 := by kernel_rfl,
  i4 := by kernel_rfl,
  i5 := by kernel_rfl,
  i9 := by kernel_rfl,
  i46 := by kernel_rfl,
  i51 := by kernel_rfl,
  i146 := by kernel_rfl,
  m1 := by kernel_rfl,
  s1_3 := fun w h => Go.Proofs.cell_of_shapedOpen_int (zero := #[.int .i64 0]) (t := 3) h (of_decide_eq_true (by kernel_rfl)) (by kernel_rfl) rfl (by kernel_rfl) (by kernel_rfl) Tryz.underlying3 }
def kinds : List (Nat × Nat × Nat) := [(335, 1, 0), (116, 2, 0), (354, 3, 0), (355, 4, 5)]
def ascL : List AV := (List.range 256).map fun i => .int .u8 (if i = 32 ∨ (9 ≤ i ∧ i ≤ 13) then 1 else 0)
def gl : List (Nat × List AV) := [(0, [.opq (some .i64)]), (7, [.opq none]), (1, ascL)]
theorem ext_ok : extOk Tryz.prog kinds = true := by kernel_rfl
theorem mixed_ok : Tryz.prog.follows .mixedOrders = true := by kernel_rfl
theorem gl_ok : (gl.all fun x => Nat.blt x.1 12) = true := by kernel_rfl
theorem cont_ok1 : SmOk Tryz.prog gl (contSm 127) := cont_ok lays144.ton144 (by rw [show lays144_ren.g 1 = 0 by kernel_rfl]; exact .head _)
theorem split_ok1 : SmOk Tryz.prog gl (splitSm 57 9) := split_ok lays146.ton146 (by kernel_rfl) (by rw [show lays146_ren.g 1 = 0 by kernel_rfl]; exact .head _)
theorem count_ok1 : SmOk Tryz.prog gl (countSm 56) := count_ok lays138.ton138
theorem names_ok0 : namesOk [] Tryz.prog.funcs.toList 0 = true := by kernel_rfl
noncomputable def E1 : Env := envOf Tryz.prog 12 [] (extSm kinds)
theorem e1_ok (w : World) (hw : GlobOk gl w) : EnvOk E1 Tryz.prog (Kept gl w) := envOk_sm names_ok0 (smOk_ext ext_ok) mixed_ok (fun _ _ _ h => h.1) (kept_carried hw).ext
end Go.Proofs.YthlcgkebfodnmaaGreatDoor
