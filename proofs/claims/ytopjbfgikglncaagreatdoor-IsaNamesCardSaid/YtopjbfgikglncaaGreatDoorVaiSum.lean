/- What a function's body is shown to do from known memory, as a summary of its call in whatever memory. -/
import Derived.Test.YtopjbfgikglncaaGreatDoorVaiTri
namespace Go.Vai

/-- Since world w0 nothing that was there has been written, nor may be. -/
def Kept (gl : List (Nat × List AV)) (w0 : World) (M : List MEnt) (H : AHeap) (w : World) : Prop := GlobOk gl w ∧ Keeps w0 w ∧ ∀ b, b < w0.heap.size → ¬ Wr M H b
theorem Keeps.refl (w : World) : Keeps w w := ⟨Nat.le_refl _, rfl, rfl, rfl, fun _ _ => rfl⟩
theorem Keeps.trans {a b c : World} (h : Keeps a b) (k : Keeps b c) : Keeps a c := ⟨Nat.le_trans h.size k.size, k.os.trans h.os, k.tape.trans h.tape, k.output.trans h.output, fun i hi => (k.old i (Nat.lt_of_lt_of_le hi h.size)).trans (h.old i hi)⟩
theorem GlobOk.keeps {gl : List (Nat × List AV)} {w w' : World} (h : GlobOk gl w) (k : Keeps w w') : GlobOk gl w' := fun g av hm => by
  obtain ⟨cs, e, lo, hi, h1, h2⟩ := h g av hm
  exact ⟨cs, e, lo, hi, by rw [k.old g (Array.getElem?_eq_some_iff.1 h1).1]; exact h1, h2⟩
theorem kept_carried {gl : List (Nat × List AV)} {w0 : World} (hw : GlobOk gl w0) : Carried (Kept gl w0) where
  ext := fun M H w M' H' w' ⟨_, h2, h3⟩ x => by
    have k : Keeps w0 w' := ⟨Nat.le_trans h2.size x.size, x.os.trans h2.os, x.tape.trans h2.tape, x.output.trans h2.output, fun b hb => ((x.old b (Nat.lt_of_lt_of_le hb h2.size) (h3 b hb)).1).trans (h2.old b hb)⟩
    exact ⟨hw.keeps k, k, fun b hb => (x.old b (Nat.lt_of_lt_of_le hb h2.size) (h3 b hb)).2⟩
  ren := fun _ _ _ _ _ ⟨h1, h2, h3⟩ _ _ hs => ⟨h1, h2, fun b hb hw => h3 b hb (hs b hw)⟩

/-- New objects, one behind the other. -/
noncomputable def news (H : AHeap) : List AObj → AHeap
  | [] => H
  | o :: os => news (H.new o) os
theorem news_next : ∀ (os : List AObj) (H : AHeap), (news H os).next = H.next + os.length
  | [], _ => rfl
  | o :: os, H => by
    show (news (H.new o) os).next = _
    rw [news_next os]
    simp [AHeap.new]; omega
theorem news_get : ∀ {os : List AObj} {H : AHeap} {id : Nat} {o : AObj}, (news H os).get id = some o → (∃ j : Nat, id = H.next + j ∧ os[j]? = some o) ∨ (H.get id = some o ∧ ∀ j, id = H.next + j → os.length ≤ j)
  | [], _, _, _, h => .inr ⟨h, fun _ _ => Nat.zero_le _⟩
  | p :: os, H, id, o, h => by
    rcases news_get (os := os) (H := H.new p) h with ⟨j, e, hj⟩ | ⟨hg, hn⟩
    · refine .inl ⟨j + 1, ?_, by simpa using hj⟩
      simp only [AHeap.new] at e; omega
    · rcases AHeap.get_new hg with ⟨rfl, rfl⟩ | ⟨hne, hg⟩
      · exact .inl ⟨0, rfl, rfl⟩
      · refine .inr ⟨hg, fun j e => ?_⟩
        cases j with
        | zero => exact absurd e hne
        | succ j =>
          have := hn j (by simp only [AHeap.new]; omega)
          simp; omega

/-- What comes out of known memory is laid into the caller's. -/
theorem transplant {gl : List (Nat × List AV)} {M : List MEnt} {H : AHeap} {w : World} (hr : HRel M H w) {M' : List MEnt} {H' : AHeap} {w' : World} (hr' : HRel M' H' w') (kp : Kept gl w M' H' w') {keep : List Nat} {os : List AObj} (hk : keep.Nodup) (hlen : os.length = keep.length)
    (ho : ∀ (j : Nat) (u : AObj), os[j]? = some u → ∃ i o, keep[j]? = some i ∧ H'.get i = some o ∧ RObj H.next keep o u ∧ o.isRo = false) {v u : AV} {cv : Value} (hv : VRel M' v cv) (hu : rnV H.next keep v = some u) :
    CallPost M H w (.ret u (news H os)) (.returned cv) w' := by
  obtain ⟨_, kp, nw⟩ := kp
  have hlt : ∀ i ∈ keep, i < M'.length := fun i hi => by
    obtain ⟨j, hj⟩ := List.getElem?_of_mem hi
    have hjl : j < os.length := by rw [hlen]; exact (List.getElem?_eq_some_iff.1 hj).1
    obtain ⟨i2, o, e1, e2, _⟩ := ho j os[j] (List.getElem?_eq_getElem hjl)
    rw [hj] at e1; cases e1
    exact hr'.lt e2
  have hren := renM_ren hlt
  have hM : MRen H.next keep M' (M ++ renM keep M') := fun k i hki => by
    have := hren k i hki
    rw [Nat.zero_add] at this
    rw [List.getElem?_append_right (by rw [hr.len]; omega), hr.len, show H.next + k - H.next = k by omega]
    exact this
  have pre : M <+: M ++ renM keep M' := List.prefix_append _ _
  have newAt : ∀ j i, keep[j]? = some i → (M ++ renM keep M')[H.next + j]? = M'[i]? := hM
  have inj : ∀ k l i : Nat, keep[k]? = some i → keep[l]? = some i → k = l := fun k l i hk' hl' =>
    (List.getElem?_inj (List.getElem?_eq_some_iff.1 hk').1 hk).1 (hk'.trans hl'.symm)
  have oldAt : ∀ id o, H.get id = some o → ∀ m, (M ++ renM keep M')[id]? = some m → M[id]? = some m ∧ m.block < w.heap.size := fun id o e m hm => by
    obtain ⟨m', hm', r⟩ := hr.obj id o e
    have := pre_get pre hm'
    rw [hm] at this; cases this
    exact ⟨hm', r.lt⟩
  have fresh : ∀ j o, os[j]? = some o → ∃ i p m, keep[j]? = some i ∧ H'.get i = some p ∧ RObj H.next keep p o ∧ (M ++ renM keep M')[H.next + j]? = some m ∧ M'[i]? = some m ∧ ORel M' m w' p ∧ w.heap.size ≤ m.block ∧ o.isRo = false := fun j o hj => by
    obtain ⟨i, p, e1, e2, e3, e4⟩ := ho j o hj
    obtain ⟨m, hm, r⟩ := hr'.obj i p e2
    refine ⟨i, p, m, e1, e2, e3, by rw [newAt j i e1]; exact hm, hm, r, ?_, by rw [e3.ro]; exact e4⟩
    by_cases hb : m.block < w.heap.size
    · exact absurd ⟨i, p, m, e2, e4, hm, rfl⟩ (nw _ hb)
    · omega
  have hr2 : HRel (M ++ renM keep M') (news H os) w' := by
    refine ⟨by rw [news_next, List.length_append, hr.len, hlen]; simp [renM], fun id o h => ?_, fun i j o p m k hi hj hm hk' hij hb => ?_⟩
    · rcases news_get h with ⟨j, rfl, hj⟩ | ⟨hg, _⟩
      · obtain ⟨i, p, m, e1, e2, e3, e4, e5, e6, _⟩ := fresh j o hj
        exact ⟨m, e4, e3.rel hM e6⟩
      · obtain ⟨m, hm, r⟩ := hr.obj id o hg
        exact ⟨m, pre_get pre hm, r.carry pre (kp.old _ r.lt)⟩
    · rcases news_get hi with ⟨a, rfl, ha⟩ | ⟨hi', _⟩ <;> rcases news_get hj with ⟨b, rfl, hb'⟩ | ⟨hj', _⟩
      · obtain ⟨i1, p1, m1, a1, a2, a3, a4, a5, _⟩ := fresh a o ha
        obtain ⟨i2, p2, m2, b1, b2, b3, b4, b5, _⟩ := fresh b p hb'
        rw [hm] at a4; cases a4
        rw [hk'] at b4; cases b4
        have hne : i1 ≠ i2 := fun e => by subst e; exact hij (by rw [inj a b i1 a1 b1])
        obtain ⟨z1, z2⟩ := hr'.inj i1 i2 p1 p2 m k a2 b2 a5 b5 hne hb
        exact ⟨by rw [a3.ro]; exact z1, by rw [b3.ro]; exact z2⟩
      · obtain ⟨i1, p1, m1, a1, a2, a3, a4, a5, a6, a7, _⟩ := fresh a o ha
        rw [hm] at a4; cases a4
        have := (oldAt j p hj' k hk').2
        omega
      · obtain ⟨i2, p2, m2, b1, b2, b3, b4, b5, b6, b7, _⟩ := fresh b p hb'
        rw [hk'] at b4; cases b4
        have := (oldAt i o hi' m hm).2
        omega
      · exact hr.inj i j o p m k hi' hj' (oldAt i o hi' m hm).1 (oldAt j p hj' k hk').1 hij hb
  refine ⟨u, news H os, _, rfl, ⟨pre, kp.size, kp.os, kp.tape, kp.output, fun b hb hn => ⟨kp.old b hb, fun hw => ?_⟩, fun b hb hn hw => ?_⟩, hr2, rnV_rel hM v u cv hu hv⟩
  · obtain ⟨id, o, m, e, hro, em, rfl⟩ := hw
    rcases news_get e with ⟨j, rfl, hj⟩ | ⟨hg, _⟩
    · obtain ⟨i, p, m2, e1, e2, e3, e4, e5, e6, e7, _⟩ := fresh j o hj
      rw [em] at e4; cases e4; omega
    · exact hn ⟨id, o, m, hg, hro, (oldAt id o hg m em).1, rfl⟩
  · obtain ⟨id, o, m, e, em, rfl⟩ := hw
    rcases news_get e with ⟨j, rfl, hj⟩ | ⟨hg, _⟩
    · obtain ⟨i, p, m2, e1, e2, e3, e4, e5, e6, e7, _⟩ := fresh j o hj
      rw [em] at e4; cases e4; omega
    · exact hn ⟨id, o, m, hg, (oldAt id o hg m em).1, rfl⟩

/-- A function without deferred calls, its body shown by a triple from arguments that bear no name, as a call in whatever memory. 'R': what comes out. -/
def BodyTo (P : Program) (gl : List (Nat × List AV)) (f : FuncId) (cargs : List Value) (R : AV → AHeap → Prop) : Prop :=
  ∀ w, GlobOk gl w → (callFunc f cargs.toArray).run P w = .ok (.enter f cargs.toArray) w ∧
    CallsIn Fence.wide 0 P f cargs.toArray w fun e w' => ∃ cv v H' M', e = .returned cv ∧ HRel M' H' w' ∧ Kept gl w M' H' w' ∧ VRel M' v cv ∧ R v H'

section
variable {E : Env} {P : Program}
theorem body_to {gl : List (Nat × List AV)} {f : FuncId} {args : List AV} {cargs : List Value} {R : AV → AHeap → Prop} (hE : ∀ w, GlobOk gl w → EnvOk E P (Kept gl w)) (hgl : (gl.all fun x => Nat.blt x.1 E.ng) = true) {fn : AFunc} (hf : E.fn f = some fn)
    (ha : VRels (mGlob E.ng 0) args cargs)
    (h : ∀ w, GlobOk gl w → Tri E P (Kept gl w) none fn.body (newFr fn args) (gHeap E.ng gl) fun e fr H => (e = .normal ∨ e = .ret) ∧ fr.df = [] ∧ ∃ l, resA E fr.t H fn.results = some l ∧ R (resV l) H) : BodyTo P gl f cargs R := by
  intro w hw
  obtain ⟨Fn, hF⟩ := (hE w hw).fns f fn hf
  have hr : HRel (mGlob E.ng 0) (gHeap E.ng gl) w := gHeap_rel (mGlob_len _ _) fun g av hm => by
    have hg : g < E.ng := by
      have := List.all_eq_true.1 hgl _ hm
      simpa using this
    exact ⟨hg, by rw [mGlob_get _ 0 g hg]; simp, hw g av hm⟩
  have kp : Kept gl w (mGlob E.ng 0) (gHeap E.ng gl) w := ⟨hw, Keeps.refl w, fun b _ ⟨id, o, m, e, r, _⟩ => by rw [gHeap_ro _ _ id o e] at r; cases r⟩
  refine ⟨enter_run hF _, callsIn_of_wp hF.at_ hF.body trivial ?_⟩
  refine wpIn_mono (h w hw _ w _ ⟨hr, grel_glob E, kp⟩ (newFr_rel hF ha)) ?_
  rintro ex a1 w1 ⟨e, fr, H1, M1, ⟨he, hd, l, hl, hR⟩, s1, er, f1⟩
  have hdf : a1.defers = [] := by
    have := f1.df
    rw [hd] at this
    generalize a1.defers = x at this ⊢
    cases this; rfl
  rw [← hF.res] at hl
  obtain ⟨cv, r1, r2⟩ := results_sound (hE w hw).tys s1.hr f1.t hl
  rcases he with rfl | rfl
  · simp only [ERel] at er; subst er
    exact ⟨hdf, cv, r1, cv, _, H1, M1, rfl, s1.hr, s1.i, r2, hR⟩
  · simp only [ERel] at er; subst er
    exact ⟨hdf, cv, r1, cv, _, H1, M1, rfl, s1.hr, s1.i, r2, hR⟩

/-- The summary. -/
theorem BodyTo.calls {gl : List (Nat × List AV)} {f : FuncId} {cargs : List Value} {R : AV → AHeap → Prop} (h : BodyTo P gl f cargs R) {M : List MEnt} {H : AHeap} {w : World} (hw : GlobOk gl w) (hr : HRel M H w) {u : AV} {os : List AObj}
    (hR : ∀ v H', R v H' → ∃ keep : List Nat, keep.Nodup ∧ os.length = keep.length ∧ rnV H.next keep v = some u ∧ ∀ (j : Nat) (x : AObj), os[j]? = some x → ∃ i o, keep[j]? = some i ∧ H'.get i = some o ∧ RObj H.next keep o x ∧ o.isRo = false) :
    CallsA P f cargs M H w (.ret u (news H os)) := by
  obtain ⟨h1, h2⟩ := h w hw
  refine .inr ⟨h1, CallsIn.mono h2 ?_⟩
  rintro e w' ⟨cv, v, H', M', rfl, hr', kp, hv, r⟩
  obtain ⟨keep, k1, k2, k3, k4⟩ := hR v H' r
  exact transplant hr hr' kp k1 k2 k4 hv k3
end
end Go.Vai
