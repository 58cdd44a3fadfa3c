/- A region whose order is open, the last part: the walk through any order. -/
import Derived.Test.YtopjbfgikglncaaGreatDoorVaiDraw2
namespace Go.Vai
section
variable {E : Env} {P : Program} {I : List MEnt → AHeap → World → Prop} {ih : Task → Option TRes} {ro : Option Nat}

def SL (listed : Array Bool) (j : Nat) : Prop := listed[j]? = some true

/-- Run ahead of its place: a loud operation at or behind place c. -/
def PD (E : Env) (T : List TRec) (listed : Array Bool) (c j : Nat) : Prop := SL listed j ∧ c ≤ j ∧ ∃ r, T[j]? = some r ∧ WL E r

/-- A new row that has no name yet. -/
structure Pend (M : List MEnt) (H : AHeap) (w0 w : World) (r : TRec) (a : Act) (m : MEnt) : Prop where
  lo : w0.heap.size ≤ m.block
  kn : ¬ Kn M H m.block
  at0 : m = ⟨m.block, 0, 0, 0⟩
  obj : ∃ e cs vs, r.H' = newRowA r.H e cs ∧ w.heap[m.block]? = some (.cells (List.toArray vs) e) ∧ VRels M cs vs
  slot : ∀ d, r.o.dst = some d → d < a.tmps.size → ∃ cv, a.tmps[d]? = some cv ∧ ∀ M1 : List MEnt, M1.length = r.H.next → VRel (M1 ++ [m]) r.v cv

theorem Pend.hi {M : List MEnt} {H : AHeap} {w0 w : World} {r : TRec} {a : Act} {m : MEnt} (p : Pend M H w0 w r a m) : m.block < w.heap.size := by
  obtain ⟨e, cs, vs, _, h, _⟩ := p.obj
  exact (Array.getElem?_eq_some_iff.1 h).1

structure Mid (E : Env) (P : Program) (ro : Option Nat) (T : List TRec) (He : AHeap) (fr0 : AFr) (M0 : List MEnt) (H0 : AHeap) (w0 : World) (listed : Array Bool) (a : Act) (w : World) (c : Nat) (M : List MEnt) (fS : AFr) (mm : Nat → MEnt) : Prop where
  ext : Ext M0 H0 w0 M (hp T He c) w
  hr : HRel M (hp T He c) w
  fr : FRel ro M fS a
  fs : FS fr0 T (fun j => SL listed j ∧ ¬ PD E T listed c j) (PD E T listed c) fS
  low : ∀ (j : Nat) (r : TRec), T[j]? = some r → WL E r → j < c → SL listed j
  le : c ≤ T.length
  pend : ∀ (j : Nat) (r : TRec), T[j]? = some r → PD E T listed c j → Pend M (hp T He c) w0 w r a (mm j)
  inj : ∀ i j, PD E T listed c i → PD E T listed c j → (mm i).block = (mm j).block → i = j

/-- A row that is there is named. -/
theorem HRel.late {M : List MEnt} {H : AHeap} {w : World} (h : HRel M H w) (o : AObj) (m : MEnt) (hk : ¬ Kn M H m.block) (ho : ORel (M ++ [m]) m w o) : HRel (M ++ [m]) (H.new o) w := by
  have pre : M <+: M ++ [m] := List.prefix_append _ _
  have hnew : (M ++ [m])[H.next]? = some m := by rw [← h.len]; simp
  have old : ∀ id p k, H.get id = some p → (M ++ [m])[id]? = some k → M[id]? = some k := fun id p k e ek => by
    obtain ⟨k', hk', r⟩ := h.obj id p e
    have := pre_get pre hk'
    rw [ek] at this; cases this
    exact hk'
  refine ⟨by simp [AHeap.new, h.len], fun id p e => ?_, fun i j p q k l ei ej ek el hij hb => ?_⟩
  · rcases AHeap.get_new e with ⟨rfl, rfl⟩ | ⟨_, e⟩
    · exact ⟨m, hnew, ho⟩
    · obtain ⟨k, hk, r⟩ := h.obj id p e
      exact ⟨k, pre_get pre hk, r.carry pre rfl⟩
  · rcases AHeap.get_new ei with ⟨rfl, rfl⟩ | ⟨_, ei⟩ <;> rcases AHeap.get_new ej with ⟨rfl, rfl⟩ | ⟨_, ej⟩
    · exact absurd rfl hij
    · rw [hnew] at ek; cases ek
      exact absurd ⟨j, q, l, ej, old _ _ _ ej el, hb.symm⟩ hk
    · rw [hnew] at el; cases el
      exact absurd ⟨i, p, k, ei, old _ _ _ ei ek, hb⟩ hk
    · exact h.inj i j p q k l ei ej (old _ _ _ ei ek) (old _ _ _ ej el) hij hb
theorem Ext.late {M0 M : List MEnt} {H0 H : AHeap} {w0 w : World} (x : Ext M0 H0 w0 M H w) (h : HRel M H w) (o : AObj) (m : MEnt) (hl : w0.heap.size ≤ m.block) : Ext M0 H0 w0 (M ++ [m]) (H.new o) w := by
  have pre : M <+: M ++ [m] := List.prefix_append _ _
  have hnew : (M ++ [m])[H.next]? = some m := by rw [← h.len]; simp
  have old : ∀ id p k, H.get id = some p → (M ++ [m])[id]? = some k → M[id]? = some k := fun id p k e ek => by
    obtain ⟨k', hk', r⟩ := h.obj id p e
    have := pre_get pre hk'
    rw [ek] at this; cases this
    exact hk'
  refine ⟨x.pre.trans pre, x.size, x.os, x.tape, x.output, fun b hb hn => ⟨(x.old b hb hn).1, fun hw => ?_⟩, fun b hb hn hw => ?_⟩
  · obtain ⟨id, p, k, e, hr, ek, rfl⟩ := hw
    rcases AHeap.get_new e with ⟨rfl, rfl⟩ | ⟨_, e⟩
    · rw [hnew] at ek; cases ek; omega
    · exact (x.old _ hb hn).2 ⟨id, p, k, e, hr, old _ _ _ e ek, rfl⟩
  · obtain ⟨id, p, k, e, ek, rfl⟩ := hw
    rcases AHeap.get_new e with ⟨rfl, rfl⟩ | ⟨_, e⟩
    · rw [hnew] at ek; cases ek; omega
    · exact x.kn _ hb hn ⟨id, p, k, e, old _ _ _ e ek, rfl⟩
theorem HRel.grown {M : List MEnt} {H : AHeap} {w w' : World} (h : HRel M H w) (hg : w.grownBy w' none) : HRel M H w' :=
  ⟨h.len, fun id o e => by
    obtain ⟨m, hm, r⟩ := h.obj id o e
    exact ⟨m, hm, r.carry (List.prefix_refl _) (hg.block _ r.lt (by simp))⟩, h.inj⟩
theorem Ext.grown {M0 M : List MEnt} {H0 H : AHeap} {w0 w w' : World} (x : Ext M0 H0 w0 M H w) (hg : w.grownBy w' none) : Ext M0 H0 w0 M H w' :=
  ⟨x.pre, Nat.le_trans x.size hg.size, hg.os.trans x.os, hg.tape.trans x.tape, hg.output.trans x.output, fun b hb hn => ⟨(hg.block b (Nat.lt_of_lt_of_le hb x.size) (by simp)).trans (x.old b hb hn).1, (x.old b hb hn).2⟩, x.kn⟩
theorem row_orel {M : List MEnt} {w : World} {m : MEnt} {e : TypeId} {cs : List AV} {vs : List Value} (h0 : m = ⟨m.block, 0, 0, 0⟩) (hb : w.heap[m.block]? = some (.cells (List.toArray vs) e)) (h : VRels M cs vs) :
    ORel M m w (.cells cs.length (Tr.nil.putAll 0 cs) e none 0 false false) := by
  have hb0 : m.base = 0 := by rw [h0]
  refine ⟨vs.toArray, e, 0, 0, hb, fun _ => ⟨rfl, hb0⟩, by simp [h.length, hb0], fun gs e => (by cases e), fun _ i a b => by omega, fun _ _ => ⟨Nat.zero_le _, Nat.le_refl _⟩, ?_⟩
  intro i v hv
  rcases Tr.get_putAll _ hv with ⟨q, rfl, hq⟩ | ⟨_, hu⟩
  · obtain ⟨x, hx, r⟩ := h.get q v hq
    exact ⟨by simpa using (List.getElem?_eq_some_iff.1 hq).1, x, by rw [hb0]; simpa using hx, r⟩
  · simp [Tr.get_nil] at hu
theorem FRel.late {M : List MEnt} {fr : AFr} {a : Act} (r : FRel ro M fr a) {v : AV} {dst : Option Tmp} (h : ∀ d, dst = some d → d < a.tmps.size → ∃ cv, a.tmps[d]? = some cv ∧ VRel M v cv) : FRel ro M (fr.put dst v) a := by
  cases dst with
  | none => exact r
  | some d =>
    simp only [AFr.put, Bool.cond_eq_ite, Nat.blt_eq]
    split
    · rename_i hd
      refine ⟨r.rd, r.n, fun i v' hi => ?_, r.df⟩
      rcases Tr.get_set hi with ⟨rfl, rfl⟩ | ⟨_, hi⟩
      · exact h _ rfl (by rw [r.n]; exact hd)
      · exact r.t i v' hi
    · exact r
theorem FRel.cut {M : List MEnt} {fr : AFr} {a : Act} (r : FRel ro M fr a) (dst : Option Tmp) (cv : Value) : FRel ro M (fr.cut dst) (a.put dst cv) := by
  cases dst with
  | none => exact r
  | some d =>
    simp only [AFr.cut, Act.put]
    split
    · rename_i hd
      refine ⟨r.rd, by simp [r.n], fun i v' hi => ?_, r.df⟩
      obtain ⟨hne, hi⟩ := Tr.get_del hi
      obtain ⟨c, hc, hv⟩ := r.t i v' hi
      exact ⟨c, by simp only [Array.getElem?_setIfInBounds_ne (Ne.symm hne), hc], hv⟩
    · rename_i hd
      have : a.tmps.setIfInBounds d cv = a.tmps := by
        apply Array.ext'
        simp only [Array.toList_setIfInBounds]
        exact List.set_eq_of_length_le (by simp [r.n]; exact Nat.le_of_not_lt hd)
      refine ⟨r.rd, by simp [r.n], ?_, r.df⟩
      show TRel M fr.t (a.tmps.setIfInBounds d cv)
      rw [this]; exact r.t

structure Inv (E : Env) (P : Program) (ro : Option Nat) (ops : Array Oper) (T : List TRec) (He : AHeap) (fr0 : AFr) (M0 : List MEnt) (H0 : AHeap) (w0 : World) (listed : Array Bool) (a : Act) (w : World) : Prop where
  size : listed.size = ops.size
  low : ∀ j, SL listed j → j < T.length
  closed : Closed ops (SL listed)
  ex : ∃ M fS c mm, Mid E P ro T He fr0 M0 H0 w0 listed a w c M fS mm ∧ ∀ s, T[c]? = some s → WL E s ∧ ¬ SL listed c

/-- What has run ahead is named, as far as it goes. -/
theorem Mid.advance {ops : Array Oper} {an : Tr Nat} (st : Stat E ops an) {T : List TRec} (hat : ∀ (j : Nat) (r : TRec), T[j]? = some r → ops[j]? = some r.o) {He : AHeap} (htr : ∀ (k : Nat) (r : TRec), T[k]? = some r → StepOk E ih ops r ∧ r.H' = hp T He (k + 1))
    {fr0 : AFr} (hn : fr0.n ≤ 1000000) {M0 : List MEnt} {H0 : AHeap} {w0 : World} {listed : Array Bool} {a : Act} {w : World} : ∀ (n c : Nat) (M : List MEnt) (fS : AFr) (mm : Nat → MEnt), T.length - c = n → Mid E P ro T He fr0 M0 H0 w0 listed a w c M fS mm →
      ∃ M fS c mm, Mid E P ro T He fr0 M0 H0 w0 listed a w c M fS mm ∧ ∀ s, T[c]? = some s → WL E s ∧ ¬ SL listed c := by
  intro n
  induction n with
  | zero =>
    intro c M fS mm hc h
    refine ⟨M, fS, c, mm, h, fun s hs => ?_⟩
    have := (List.getElem?_eq_some_iff.1 hs).1
    omega
  | succ n ihn =>
    intro c M fS mm hc h
    obtain ⟨r, hr⟩ : ∃ r, T[c]? = some r := ⟨T[c]'(by omega), List.getElem?_eq_getElem _⟩
    have hcl : c < T.length := (List.getElem?_eq_some_iff.1 hr).1
    by_cases hw : WL E r
    · by_cases hs : SL listed c
      · have hpd : PD E T listed c c := ⟨hs, Nat.le_refl _, r, hr, hw⟩
        have pn := h.pend c r hr hpd
        obtain ⟨e, cs, vs, o1, o2, o3⟩ := pn.obj
        have hH : r.H = hp T He c := by simp [hp, hr]
        have hH' : hp T He (c + 1) = newRowA (hp T He c) e cs := by rw [← (htr c r hr).2, o1, hH]
        have pre : M <+: M ++ [mm c] := List.prefix_append _ _
        have pd' : ∀ j, PD E T listed (c + 1) j ↔ PD E T listed c j ∧ j ≠ c := fun j =>
          ⟨fun ⟨x, y, z⟩ => ⟨⟨x, by omega, z⟩, by omega⟩, fun ⟨⟨x, y, z⟩, k⟩ => ⟨x, by omega, z⟩⟩
        have ho := row_orel (M := M ++ [mm c]) pn.at0 o2 (o3.mono pre)
        have hnew : HRel (M ++ [mm c]) (newRowA (hp T He c) e cs) w := h.hr.late _ _ pn.kn ho
        have hlen : M.length = r.H.next := by rw [hH]; exact h.hr.len
        refine ihn (c + 1) (M ++ [mm c]) (fS.put r.o.dst r.v) mm (by omega) ⟨?_, ?_, ?_, ?_, ?_, by omega, ?_, ?_⟩
        · rw [hH']; exact h.ext.late h.hr _ _ pn.lo
        · rw [hH']; exact hnew
        · refine (h.fr.mono pre).late fun d hd hda => ?_
          obtain ⟨cv, q1, q2⟩ := pn.slot d hd hda
          exact ⟨cv, q1, q2 M hlen⟩
        · refine (FS.put st hat hn h.fs hr).iff (fun j => ?_) (fun j => ?_)
          · rw [pd']
            by_cases e : j = c
            · subst e; simp [hs]
            · simp [e]
          · rw [pd']
            by_cases e : j = c
            · subst e; simp [hs]
            · simp [e]
        · intro j s hs' hws hj
          by_cases e : j = c
          · subst e; exact hs
          · exact h.low j s hs' hws (by omega)
        · intro j s hs' hp'
          obtain ⟨hpj, hne⟩ := (pd' j).1 hp'
          have q := h.pend j s hs' hpj
          obtain ⟨e2, cs2, vs2, u1, u2, u3⟩ := q.obj
          refine ⟨q.lo, fun hk => ?_, q.at0, ⟨e2, cs2, vs2, u1, u2, u3.mono pre⟩, q.slot⟩
          rw [hH'] at hk
          obtain ⟨id, o, k, g1, g2, g3⟩ := hk
          rcases AHeap.get_new g1 with ⟨rfl, _⟩ | ⟨_, g1⟩
          · have : (M ++ [mm c])[(hp T He c).next]? = some (mm c) := by rw [← h.hr.len]; simp
            rw [g2] at this; cases this
            exact hne (h.inj c j hpd hpj g3).symm
          · obtain ⟨k', hk', _⟩ := h.hr.obj id o g1
            have := pre_get pre hk'
            rw [g2] at this; cases this
            exact q.kn ⟨id, o, k, g1, hk', g3⟩
        · intro i j hi hj hb
          exact h.inj i j ((pd' i).1 hi).1 ((pd' j).1 hj).1 hb
      · refine ⟨M, fS, c, mm, h, fun s hs' => ?_⟩
        rw [hr] at hs'; cases hs'
        exact ⟨hw, hs⟩
    · have hH' : hp T He (c + 1) = hp T He c := hp_const htr c 1 fun j s a b ht hw' => by
        obtain rfl : j = c := by omega
        rw [hr] at ht; cases ht; exact hw hw'
      have pd' : ∀ j, PD E T listed (c + 1) j ↔ PD E T listed c j := fun j =>
        ⟨fun ⟨x, y, z⟩ => ⟨x, by omega, z⟩, fun ⟨x, y, r', z, k⟩ => ⟨x, by
          by_cases e : j = c
          · subst e; rw [hr] at z; cases z; exact absurd k hw
          · omega, r', z, k⟩⟩
      refine ihn (c + 1) M fS mm (by omega) ⟨by rw [hH']; exact h.ext, by rw [hH']; exact h.hr, h.fr, h.fs.iff (fun j => by rw [pd']) (fun j => by rw [pd']), fun j s hs hws hj => ?_, by omega, fun j s hs hp' => by rw [hH']; exact h.pend j s hs ((pd' j).1 hp'), fun i j hi hj => h.inj i j ((pd' i).1 hi) ((pd' j).1 hj)⟩
      by_cases e : j = c
      · subst e; rw [hr] at hs; cases hs; exact absurd hws hw
      · exact h.low j s hs hws (by omega)

theorem SL_set {listed : Array Bool} {i j : Nat} (hi : i < listed.size) : SL (listed.setIfInBounds i true) j ↔ SL listed j ∨ j = i := by
  unfold SL
  rw [Array.getElem?_setIfInBounds]
  by_cases h : i = j
  · subst h; simp [hi]
  · rw [if_neg h]
    constructor
    · exact .inl
    · rintro (h' | h')
      · exact h'
      · exact absurd h'.symm h

theorem wantedA_congr {all : Array Oper} {f f' : Tr AV} {o : Oper} (h : ∀ j b d, o.guard = some (j, b) → (all[j]?).bind (·.dst) = some d → f.get d = f'.get d) : wantedA all f o = wantedA all f' o := by
  unfold wantedA
  split
  · rfl
  · rename_i j want hg
    split
    · rfl
    · rename_i d hd
      rw [h j want d hg hd]

theorem count_set {listed : Array Bool} {i n : Nat} (hi : listed[i]? = some false) (hc : listed.toList.count false = n + 1) : (listed.setIfInBounds i true).toList.count false = n := by
  have hlt : i < listed.size := (Array.getElem?_eq_some_iff.1 hi).1
  rw [Array.toList_setIfInBounds]
  rw [List.count_set (by simpa using hlt), hc]
  have : listed.toList[i]'(by simpa using hlt) = false := by
    have := (Array.getElem?_eq_some_iff.1 hi).2
    simpa using this
  simp [this]

theorem fresh_step {P : Program} {M : List MEnt} {H : AHeap} {w : World} (hE : EnvOk E P I) (st : St E I M H w) {fr : AFr} {a : Act} (hf : FRel ro M fr a) {o : Oper} (hfr : freshOp o.op = true) {H1 : AHeap} {r : ARes} (h : execA E H1 fr.t o = some r)
    {next : Act → World → Prop} {Q : Exit → Act → World → Prop}
    (hn : ∀ v cv vs e cs, r = .val v (newRowA H1 e cs) → VRels M cs vs → (∀ M1 : List MEnt, M1.length = H1.next → VRel (M1 ++ [⟨w.heap.size, 0, 0, 0⟩]) v cv) → next (a.put o.dst cv) { w with heap := w.heap.push (.cells (List.toArray vs) e) }) :
    o.wpIn (FF ro) 0 P a w next Q := by
  refine ⟨fun _ _ => trivial, ?_⟩
  obtain ⟨v, cv, vs, e, cs, h1, h2, h3, h4⟩ := fresh_sound hE.tys st.g hf.t hfr h w
  have sem : o.semAt (FF ro).round a.eval = execOp a.eval o := Oper.semAt_eq _ _ _ (execA_defer h (fun _ _ h => by rw [h1] at h; cases h))
  rw [sem, h2]
  exact hn v cv vs e cs h1 h3 h4

theorem walk_any (hE : EnvOk E P I) (hs : Sound E P I ih) {ops : Array Oper} {an : Tr Nat} (st : Stat E ops an) {fr0 : AFr} (hn : fr0.n ≤ 1000000) {T : List TRec} {fe : AFr} {H0 He : AHeap} (tr : Trace E ih ops T 0 fr0 H0 fe He) (sb : Stab E an T 0 [] [])
    {e : AExit} {fr' : AFr} {H' : AHeap} (en : EndOk E ih ops an fr0 0 ops.toList T fe He e fr' H') {M0 : List MEnt} {w0 : World} (st0 : St E I M0 H0 w0) :
    ∀ (fuel : Nat) (listed : Array Bool) (a : Act) (w : World), listed.toList.count false = fuel → Inv E P ro ops T He fr0 M0 H0 w0 listed a w →
      wpAnyIn (FF ro) 0 P .any ops (CPost ro M0 H0 w0 e fr' H') fuel listed a w := by
  have tat := trace_at T 0 fr0 H0 tr
  simp only [Nat.zero_add] at tat
  have hat : ∀ (j : Nat) (r : TRec), T[j]? = some r → ops[j]? = some r.o := fun j r h => (tat j r h).1
  have htr : ∀ (k : Nat) (r : TRec), T[k]? = some r → StepOk E ih ops r ∧ r.H' = hp T He (k + 1) := fun k r h => (tat k r h).2
  have fs0 : FS fr0 T (· < ([] : List TRec).length) (fun _ => False) fr0 := ⟨rfl, rfl, rfl, fun _ _ => rfl, fun _ _ => rfl, fun j r x hj => by simp at hj⟩
  obtain ⟨tfs, tfe⟩ := trace_fs st hat hn T [] fr0 H0 rfl tr fs0
  simp only [List.length_nil, Nat.zero_add] at tfs
  -- all is done
  have done : ∀ (listed : Array Bool) (a : Act) (w : World), Inv E P ro ops T He fr0 M0 H0 w0 listed a w → Region.ready .any ops listed = [] → CPost ro M0 H0 w0 e fr' H' .normal a w := by
    intro listed a w inv hr
    have all := ready_nil st hr inv.size
    obtain ⟨M, fS, c, mm, x, mx⟩ := inv.ex
    rcases en with ⟨h1, rfl, rfl, rfl⟩ | ⟨h1, _⟩
    · have hcT : c = T.length := by
        by_cases hlt : c < T.length
        · exact absurd (all c (by simp at h1; omega)) (mx _ (List.getElem?_eq_getElem hlt)).2
        · have := x.le; omega
      have hc : hp T H' c = H' := by rw [hcT]; simp [hp]
      have npd : ∀ j r, T[j]? = some r → ¬ PD E T listed c j := fun j r hr hp => by
        have := (List.getElem?_eq_some_iff.1 hr).1
        have := hp.2.1
        omega
      have x1 := x.ext
      have x2 := x.hr
      rw [hc] at x1 x2
      refine ⟨M, x1, x2, rfl, ⟨by rw [tfe.rd, ← x.fs.rd]; exact x.fr.rd, by rw [tfe.n, ← x.fs.n]; exact x.fr.n, fun y v hv => ?_, by rw [tfe.df, ← x.fs.df]; exact x.fr.df⟩⟩
      refine x.fr.t y v ?_
      rw [← hv]
      refine x.fs.agree tfe fun j r hr hd => ?_
      have hj : j < T.length := (List.getElem?_eq_some_iff.1 hr).1
      exact ⟨⟨fun _ => hj, fun _ => ⟨all j (by simp at h1; omega), npd j r hr⟩⟩, npd j r hr, fun h => h⟩
    · have := inv.low T.length (all _ (by simpa using h1))
      omega
  intro fuel
  induction fuel with
  | zero =>
    intro listed a w hc inv
    have hr : Region.ready .any ops listed = [] := by
      rw [List.eq_nil_iff_forall_not_mem]
      intro i hi
      obtain ⟨o, _, h, _⟩ := ready_spec hi inv.size
      have : false ∈ listed.toList := by
        obtain ⟨h1, h2⟩ := Array.getElem?_eq_some_iff.1 h
        rw [← h2]; simp
      rw [List.count_eq_zero] at hc
      exact hc this
    exact ⟨hr, done listed a w inv hr⟩
  | succ fuel ihf =>
    intro listed a w hc inv
    refine ⟨done listed a w inv, fun i hi => ?_⟩
    obtain ⟨o, ho, hlf, hedge⟩ := ready_spec hi inv.size
    have hil : i < listed.size := (Array.getElem?_eq_some_iff.1 hlf).1
    have hni : ¬ SL listed i := by unfold SL; rw [hlf]; simp
    have hanc : ∀ j, Anc an i j → SL listed j := fun j ha => st.ancIn inv.closed i ho hedge ha
    have hcl : ∀ j o', ops[j]? = some o' → SL listed j → Anc an j i → SL listed i := fun j o' hj hsj ha => st.ancIn inv.closed j hj (inv.closed j o' hj hsj) ha
    have hcl2 : ∀ j k o', ops[j]? = some o' → SL listed j → Anc an j k → SL listed k := fun j k o' hj hsj ha => st.ancIn inv.closed j hj (inv.closed j o' hj hsj) ha
    obtain ⟨M, fS, c, mm, x, mx⟩ := inv.ex
    have x3 := x.fr
    have x4 := x.fs
    have xst : St E I M (hp T He c) w := st0.next hE x.ext x.hr
    -- whoever is not fresh has run where it stands
    have npd : ∀ j r, T[j]? = some r → freshOp r.o.op = false → ¬ PD E T listed c j := by
      intro j r hr hf ⟨p1, p2, r', p3, p4⟩
      rw [hr] at p3; cases p3
      obtain ⟨s, hsc⟩ : ∃ s, T[c]? = some s := ⟨T[c]'(by have := (List.getElem?_eq_some_iff.1 hr).1; omega), List.getElem?_eq_getElem _⟩
      obtain ⟨m1, m2⟩ := mx s hsc
      have hne : c ≠ j := fun e => by subst e; exact m2 p1
      have := st.loud c j s.o r.o (hat c s hsc) (hat j r hr) (by omega) m1.2 p4.2 hf
      exact m2 (hcl2 j c r.o (hat j r hr) p1 (st.ord (hat c s hsc) (by omega) this))
    -- the slots that an operation at i reads hold what they held in the order of the text
    have agr : ∀ (f : AFr) (S' : Nat → Prop), FS fr0 T S' (fun _ => False) f → (∀ j, S' j ↔ j < i) → ∀ t, reads t o = true → fS.t.get t = f.t.get t := by
      intro f S' hf hS' t ht
      refine x4.agree hf fun j r hr hd => ?_
      rw [hS']
      rcases Nat.lt_trichotomy j i with hlt | heq | hgt
      · have hsj := hanc j (st.ord (hat j r hr) hlt (st.rd1 j i r.o o t (hat j r hr) ho hlt hd ht))
        have hnp : ¬ PD E T listed c j := by
          cases hf : freshOp r.o.op with
          | false => exact npd j r hr hf
          | true =>
            intro ⟨p1, p2, r', p3, p4⟩
            rw [hr] at p3; cases p3
            obtain ⟨s, hsc⟩ : ∃ s, T[c]? = some s := ⟨T[c]'(by have := (List.getElem?_eq_some_iff.1 hr).1; omega), List.getElem?_eq_getElem _⟩
            obtain ⟨m1, m2⟩ := mx s hsc
            exact m2 (hanc c (st.rdf j i r.o o t (hat j r hr) ho hlt hd ht hf c s.o p2 (hat c s hsc) m1.2))
        exact ⟨⟨fun _ => hlt, fun _ => ⟨hsj, hnp⟩⟩, hnp, fun h => h⟩
      · subst heq
        have := hat j r hr
        rw [ho] at this; cases this
        have := st.self j _ t ho hd
        rw [this] at ht; cases ht
      · have hns : ¬ SL listed j := fun h => hni (hcl j r.o (hat j r hr) h (st.ord ho hgt (st.rd2 i j o r.o t ho (hat j r hr) hgt hd ht)))
        exact ⟨⟨fun h => absurd h.1 hns, fun h => by omega⟩, fun h => hns h.1, fun h => h⟩
    have agw : ∀ (f : AFr) (S' : Nat → Prop), FS fr0 T S' (fun _ => False) f → (∀ j, S' j ↔ j < i) → wantedA ops fS.t o = wantedA ops f.t o := by
      intro f S' hf hS'
      refine wantedA_congr fun j b d hg hd => ?_
      obtain ⟨m, hm, hb⟩ := st.guard i o j b ho hg
      have haj : Anc an i j := ⟨m, hm, hb⟩
      have hlt := st.lt i ho haj
      refine x4.agree hf fun k r hr hdk => ?_
      rw [hS']
      have : k = j := by
        cases hoj : ops[j]? with
        | none => rw [hoj] at hd; cases hd
        | some oj =>
          rw [hoj] at hd
          simp only [Option.bind_some] at hd
          rcases Nat.lt_trichotomy k j with h1 | h1 | h1
          · exact absurd hd (st.uniq k j r.o oj d (hat k r hr) hoj h1 hdk)
          · exact h1
          · exact absurd hdk (st.uniq j k oj r.o d hoj (hat k r hr) h1 hd)
      subst this
      have hnp := npd k r hr (st.gf k i r.o o b (hat k r hr) ho hlt hg)
      exact ⟨⟨fun _ => hlt, fun _ => ⟨hanc k haj, hnp⟩⟩, hnp, fun h => h⟩
    -- loud ones that are not fresh run in their place
    have loudc : quietOp E o.op = false → freshOp o.op = false → i ≤ T.length → (∀ r, T[i]? = some r → WL E r) → c = i := by
      intro hq hfr hiT hwl
      by_cases h1 : c < i
      · obtain ⟨s, hsc⟩ : ∃ s, T[c]? = some s := ⟨T[c]'(by omega), List.getElem?_eq_getElem _⟩
        obtain ⟨m1, m2⟩ := mx s hsc
        exact absurd (hanc c (st.ord (hat c s hsc) h1 (st.loud c i s.o o (hat c s hsc) ho h1 m1.2 hq hfr))) m2
      · by_cases h2 : i < c
        · have hl := x.le
          obtain ⟨r, hr⟩ : ∃ r, T[i]? = some r := ⟨T[i]'(by omega), List.getElem?_eq_getElem _⟩
          exact absurd (x.low i r hr (hwl r hr) h2) hni
        · omega
    have npi : ∀ d, ¬ PD E T listed d i := fun d h => hni h.1
    -- the state behind operation i
    have next : ∀ (r : TRec), T[i]? = some r → ∀ (M' : List MEnt) (w' : World) (cv : Value) (c' : Nat), Ext M (hp T He c) w M' (hp T He c') w' → HRel M' (hp T He c') w' → VRel M' r.v cv → c' ≤ T.length →
        (∀ (j : Nat) (s : TRec), T[j]? = some s → WL E s → j < c' → SL listed j ∨ j = i) → (∀ j, PD E T (listed.setIfInBounds i true) c' j ↔ PD E T listed c j) → wpAnyIn (FF ro) 0 P .any ops (CPost ro M0 H0 w0 e fr' H') fuel (listed.setIfInBounds i true) (a.put o.dst cv) w' := by
      intro r hr M' w' cv c' y1 y2 y4 y6 y5 y7
      have hro : r.o = o := by have := hat i r hr; rw [ho] at this; cases this; rfl
      have mid : Mid E P ro T He fr0 M0 H0 w0 (listed.setIfInBounds i true) (a.put o.dst cv) w' c' M' (fS.put r.o.dst r.v) mm := by
        refine ⟨x.ext.trans y1, y2, by rw [hro]; exact (x3.mono y1.pre).put y4 o.dst, ?_, fun j s hs hws hj => (SL_set hil).2 (y5 j s hs hws hj), y6, fun j s hs hpd => ?_, fun j k hj hk => x.inj j k ((y7 j).1 hj) ((y7 k).1 hk)⟩
        · refine (FS.put st hat hn x4 hr).iff (fun j => ?_) (fun j => ?_)
          · rw [y7, SL_set hil]
            by_cases e : j = i
            · subst e; simp [npi]
            · simp [e]
          · rw [y7, SL_set hil]
            by_cases e : j = i
            · subst e; simp [npi]
            · simp [e]
        · have hp' := (y7 j).1 hpd
          have q := x.pend j s hs hp'
          obtain ⟨e2, cs2, vs2, u1, u2, u3⟩ := q.obj
          have nw : ¬ Wr M (hp T He c) (mm j).block := fun ⟨id, o, m, g1, _, g3, g4⟩ => q.kn ⟨id, o, m, g1, g3, g4⟩
          refine ⟨q.lo, y1.kn _ q.hi q.kn, q.at0, ⟨e2, cs2, vs2, u1, by rw [(y1.old _ q.hi nw).1]; exact u2, u3.mono y1.pre⟩, fun d hd hda => ?_⟩
          obtain ⟨cv2, q1, q2⟩ := q.slot d hd (by cases hx : o.dst <;> rw [hx] at hda <;> simpa [Act.put] using hda)
          refine ⟨cv2, ?_, q2⟩
          have hji : j ≠ i := fun e => by subst e; exact hni hp'.1
          cases hod : o.dst with
          | none => exact q1
          | some d' =>
            have hdd : d' ≠ d := fun e => by
              subst e
              rcases Nat.lt_or_gt_of_ne hji with hlt | hgt
              · exact st.uniq j i s.o o d' (hat j s hs) ho hlt hd hod
              · exact st.uniq i j o s.o d' ho (hat j s hs) hgt hod hd
            show (a.tmps.setIfInBounds d' cv)[d]? = _
            rw [Array.getElem?_setIfInBounds_ne hdd]; exact q1
      obtain ⟨M2, fS2, c2, mm2, mid2, mx2⟩ := mid.advance st hat htr hn _ _ _ _ _ rfl
      refine ihf _ _ _ (count_set hlf hc) ⟨by simpa using inv.size, fun j hj => ?_, fun j oj hoj hj e' he' hb' => ?_, M2, fS2, c2, mm2, mid2, mx2⟩
      · rcases (SL_set hil).1 hj with hj | rfl
        · exact inv.low j hj
        · exact (List.getElem?_eq_some_iff.1 hr).1
      · refine (SL_set hil).2 (.inl ?_)
        rcases (SL_set hil).1 hj with hj | rfl
        · exact inv.closed j oj hoj hj e' he' hb'
        · rw [ho] at hoj; cases hoj; exact hedge e' he' hb'
    have heapR : ∀ (r : TRec), T[i]? = some r → hp T He i = r.H := fun r hr => by simp [hp, hr]
    -- quiet ones, and those that are not wanted, leave all that has run as it was
    have same : ∀ (r : TRec), T[i]? = some r → ¬ WL E r → ∀ j, PD E T (listed.setIfInBounds i true) c j ↔ PD E T listed c j := fun r hr hnw j => by
      unfold PD
      rw [SL_set hil]
      by_cases e : j = i
      · subst e
        simp only [hni, or_true, true_and, false_and, iff_false]
        rintro ⟨_, s, hs, hws⟩
        rw [hr] at hs; cases hs; exact hnw hws
      · simp [e]
    unfold wpOpIn
    rw [ho]
    simp only
    rcases Nat.lt_trichotomy i T.length with hiT | hiT | hiT
    · -- an operation that the order of the text carried out
      obtain ⟨r, hr⟩ : ∃ r, T[i]? = some r := ⟨T[i], List.getElem?_eq_getElem hiT⟩
      have hro : r.o = o := by have := hat i r hr; rw [ho] at this; cases this; rfl
      have so := (htr i r hr).1
      have hw : wantedA ops fS.t o = some r.w := by
        rw [agw r.fr _ (tfs i r hr) (fun _ => Iff.rfl), ← hro]; exact so.want
      rw [wanted_sound x3 hw]
      cases hrw : r.w with
      | false =>
        simp only [Bool.false_eq_true, if_false]
        have nw : ¬ WL E r := fun h => by have := h.1; rw [hrw] at this; cases this
        refine ⟨fun _ _ => trivial, next r hr M w undef c (Ext.refl _ _ _) x.hr (by rw [(so.no hrw).1]; exact undef_rel M) x.le (fun j s hs hws hj => .inl (x.low j s hs hws hj)) (same r hr nw)⟩
      | true =>
        simp only [if_true]
        cases hq : quietOp E o.op with
        | true =>
          have hwq : WQ E r := ⟨hrw, by rw [hro]; exact hq⟩
          have nw : ¬ WL E r := fun h => by have := h.2; rw [hwq.2] at this; cases this
          have hv := quiet_at htr sb (S := SL listed) hr hwq x.low mx x.le hanc (fun j s hs hsj ha => hcl j s.o (hat j s hs) hsj ha) hni
          rw [hro] at hv
          have hx : execA E (hp T He c) fS.t o = some (.val r.v (hp T He c)) := by
            rw [execA_congr (reads_opd (agr r.fr _ (tfs i r hr) (fun _ => Iff.rfl)))]
            unfold quietA at hv
            split at hv
            · rename_i v2 H2 he
              cases hv
              rw [he, quiet_same hq he]
            · cases hv
          refine oper_sound hE hs xst x3 hx (r2 := .val r.v (hp T He c)) rfl ?_
          intro cv w' M' y1 y2 y3
          exact next r hr M' w' cv c y1 y2 y3 x.le (fun j s hs hws hj => .inl (x.low j s hs hws hj)) (same r hr nw)
        | false =>
          have hwl : WL E r := ⟨hrw, by rw [hro]; exact hq⟩
          obtain ⟨y, hy, hcy⟩ := so.loud hrw (by rw [hro]; exact hq)
          rw [hro] at hy
          have hy0 := hy
          rw [← execA_congr (reads_opd (agr r.fr _ (tfs i r hr) (fun _ => Iff.rfl)))] at hy
          cases hfo : freshOp o.op with
          | true =>
            -- a new row: where it stands or ahead of it
            have hci : c ≤ i := by
              by_cases h : i < c
              · exact absurd (x.low i r hr hwl h) hni
              · omega
            refine fresh_step hE xst x3 hfo hy ?_
            intro v cv vs et cs e1 e2 e3
            subst e1
            simp only [callsA, Option.some.injEq, ARes.val.injEq, reduceCtorEq, false_and, or_false] at hcy
            obtain ⟨rfl, hcy⟩ := hcy
            have hg := grown_push w (.cells (List.toArray vs) et)
            have pd' : ∀ j, PD E T (listed.setIfInBounds i true) c j ↔ PD E T listed c j ∨ j = i := fun j => by
              unfold PD
              rw [SL_set hil]
              by_cases e : j = i
              · subst e; simp only [or_true, iff_true, true_and]; exact ⟨hci, r, hr, hwl⟩
              · simp [e]
            have mid : Mid E P ro T He fr0 M0 H0 w0 (listed.setIfInBounds i true) (a.put o.dst cv) { w with heap := w.heap.push (.cells (List.toArray vs) et) } c M (fS.cut o.dst) (fun j => if j = i then ⟨w.heap.size, 0, 0, 0⟩ else mm j) := by
              refine ⟨x.ext.grown hg, x.hr.grown hg, x3.cut o.dst cv, ?_, fun j s hs hws hj => (SL_set hil).2 (.inl (x.low j s hs hws hj)), x.le, fun j s hs hpd => ?_, fun j k hj hk => ?_⟩
              · have := FS.cut st hat hn x4 hr (fun h => hni h.1)
                rw [hro] at this
                refine this.iff (fun j => ?_) (fun j => ?_)
                · rw [pd', SL_set hil]
                  by_cases e : j = i
                  · subst e; simp [hni]
                  · simp [e]
                · rw [pd', SL_set hil]
                  by_cases e : j = i
                  · subst e; simp
                  · simp [e]
              · by_cases hji : j = i
                · subst hji
                  rw [hr] at hs; cases hs
                  rw [if_pos rfl]
                  refine ⟨x.ext.size, fun ⟨id, ob, m, g1, g2, g3⟩ => ?_, rfl, ⟨et, cs, vs, hcy.symm, by simp, e2⟩, fun d hd hda => ⟨cv, ?_, fun M1 hM1 => e3 M1 hM1⟩⟩
                  · have := (x.hr.blk g1 g2).lt
                    simp only at g3; omega
                  · rw [hro] at hd
                    rw [hd] at hda ⊢
                    simp only [Act.put, Array.size_setIfInBounds] at hda
                    simp [Act.put, hda]
                · rw [if_neg hji]
                  have hp' := ((pd' j).1 hpd).resolve_right hji
                  have q := x.pend j s hs hp'
                  obtain ⟨f2, cs2, vs2, u1, u2, u3⟩ := q.obj
                  refine ⟨q.lo, q.kn, q.at0, ⟨f2, cs2, vs2, u1, by rw [hg.block _ q.hi (by simp)]; exact u2, u3⟩, fun d hd hda => ?_⟩
                  obtain ⟨cv2, q1, q2⟩ := q.slot d hd (by cases hx : o.dst <;> rw [hx] at hda <;> simpa [Act.put] using hda)
                  refine ⟨cv2, ?_, q2⟩
                  cases hod : o.dst with
                  | none => exact q1
                  | some d' =>
                    have hdd : d' ≠ d := fun e => by
                      subst e
                      rcases Nat.lt_or_gt_of_ne hji with hlt | hgt
                      · exact st.uniq j i s.o o d' (hat j s hs) ho hlt hd hod
                      · exact st.uniq i j o s.o d' ho (hat j s hs) hgt hod hd
                    show (a.tmps.setIfInBounds d' cv)[d]? = _
                    rw [Array.getElem?_setIfInBounds_ne hdd]; exact q1
              · have low : ∀ j, PD E T listed c j → (mm j).block < w.heap.size := fun j hpd => by
                  have hpd2 := hpd
                  obtain ⟨_, _, s, hs, _⟩ := hpd
                  exact (x.pend j s hs hpd2).hi
                intro hb
                by_cases h1 : j = i <;> by_cases h2 : k = i
                · rw [h1, h2]
                · rw [if_pos h1, if_neg h2] at hb
                  have := low k (((pd' k).1 hk).resolve_right h2)
                  simp only at hb; omega
                · rw [if_neg h1, if_pos h2] at hb
                  have := low j (((pd' j).1 hj).resolve_right h1)
                  simp only at hb; omega
                · rw [if_neg h1, if_neg h2] at hb
                  exact x.inj j k (((pd' j).1 hj).resolve_right h1) (((pd' k).1 hk).resolve_right h2) hb
            obtain ⟨M2, fS2, c2, mm2, mid2, mx2⟩ := mid.advance st hat htr hn _ _ _ _ _ rfl
            refine ihf _ _ _ (count_set hlf hc) ⟨by simpa using inv.size, fun j hj => ?_, fun j oj hoj hj e' he' hb' => ?_, M2, fS2, c2, mm2, mid2, mx2⟩
            · rcases (SL_set hil).1 hj with hj | rfl
              · exact inv.low j hj
              · exact (List.getElem?_eq_some_iff.1 hr).1
            · refine (SL_set hil).2 (.inl ?_)
              rcases (SL_set hil).1 hj with hj | rfl
              · exact inv.closed j oj hoj hj e' he' hb'
              · rw [ho] at hoj; cases hoj; exact hedge e' he' hb'
          | false =>
            have hci := loudc hq hfo (Nat.le_of_lt hiT) (fun r' hr' => by rw [hr] at hr'; cases hr'; exact hwl)
            subst hci
            have hc1 : hp T He c = r.H := heapR r hr
            rw [← hc1] at hy
            rw [← hc1, (htr c r hr).2] at hcy
            have lc : ∀ (j : Nat) (s : TRec), T[j]? = some s → WL E s → j < c + 1 → SL listed j ∨ j = c := fun j s hs hws hj => by
              by_cases e : j = c
              · exact .inr e
              · exact .inl (x.low j s hs hws (by omega))
            have pc : ∀ j, PD E T (listed.setIfInBounds c true) (c + 1) j ↔ PD E T listed c j := fun j => by
              unfold PD
              rw [SL_set hil]
              by_cases e : j = c
              · subst e; exact ⟨fun h => by have := h.2.1; omega, fun h => absurd h.1 hni⟩
              · simp only [e, or_false]
                constructor
                · rintro ⟨p, q, r⟩; exact ⟨p, by omega, r⟩
                · rintro ⟨p, q, r⟩; exact ⟨p, by omega, r⟩
            rcases hcy with hcy | ⟨hcy, hv⟩
            · refine oper_sound hE hs xst x3 hy hcy ?_
              intro cv w' M' y1 y2 y3
              exact next r hr M' w' cv (c + 1) y1 y2 y3 hiT lc pc
            · refine oper_sound hE hs xst x3 hy hcy ?_
              intro w' M' y1 y2
              exact next r hr M' w' undef (c + 1) y1 y2 (by rw [hv]; exact undef_rel M') hiT lc pc
    · -- the operation that panics
      rcases en with ⟨h1, _⟩ | ⟨h1, o', y, v, h2, h3, h4, h5, h6, h7, h8, h9⟩
      · have : i < ops.size := (Array.getElem?_eq_some_iff.1 ho).1
        simp at h1; omega
      · simp only [Nat.zero_add] at h2 h9
        rw [← hiT, ho] at h2; cases h2
        have hfe : ∀ j, j < T.length ↔ j < i := fun j => by rw [hiT]
        have hw : wantedA ops fS.t o = some true := by rw [agw fe _ tfe hfe]; exact h3
        rw [wanted_sound x3 hw]
        simp only [if_true]
        rw [← execA_congr (reads_opd (agr fe _ tfe hfe))] at h5
        have hfo : freshOp o.op = false := by
          cases hfo : freshOp o.op with
          | false => rfl
          | true =>
            obtain ⟨_, _, _, _, _, e1, _⟩ := fresh_sound hE.tys xst.g x3.t hfo h5 w
            subst e1
            simp [callsA] at h6
        have hci := loudc h4 hfo (by omega) (fun r hr => by have := (List.getElem?_eq_some_iff.1 hr).1; omega)
        have hc1 : hp T He c = He := by rw [hci, hiT]; simp [hp]
        rw [← hc1] at h5 h6
        refine oper_sound hE hs xst x3 h5 h6 ?_
        intro cv w' M' y1 y2 y3
        subst h7; subst h8
        have npd' : ∀ j r, T[j]? = some r → ¬ PD E T listed c j := fun j r hr hp => by
          have := (List.getElem?_eq_some_iff.1 hr).1
          have := hp.2.1
          omega
        refine ⟨M', x.ext.trans y1, y2, ⟨cv, rfl, y3⟩, ⟨by rw [← x3.rd]; exact x4.rd.symm, by rw [x3.n]; exact x4.n, fun y u hu => ?_, ?_⟩⟩
        · obtain ⟨g1, g2⟩ := delDsts_get _ hu
          refine (x3.mono y1.pre).t y u ?_
          rw [← g1]
          refine x4.no y fun j r _ hr => g2 r.o ?_
          have := hat j r hr
          exact Array.mem_toList_iff.2 (Array.mem_of_getElem? this)
        · show DfRels M' fr0.df a.defers
          rw [← x4.df]; exact x3.df.mono y1.pre
    · rcases en with ⟨h1, _⟩ | ⟨h1, o', y, v, h2, h3, h4, h5, h6, h7, h8, h9⟩
      · have : i < ops.size := (Array.getElem?_eq_some_iff.1 ho).1
        simp at h1; omega
      · simp only [Nat.zero_add] at h9
        have := inv.low T.length (hanc _ (h9 i hiT (by simpa using (Array.getElem?_eq_some_iff.1 ho).1)))
        omega

theorem draw_sound (hE : EnvOk E P I) (hs : Sound E P I ih) {id : Nat} {ops : Array Oper} {an : Tr Nat} (han : ancs ops.toList 0 .nil = some an) (hall : allOk E an ops.toList = true)
    {fr fr' : AFr} {H H' : AHeap} {e : AExit} {M : List MEnt} {w : World} {a : Act} (hn : fr.n ≤ 1000000) (hz : ops.size ≤ 1000000) (h : opsD E ih ops an fr ops.toList 0 [] [] fr H = some (.code e fr' H')) (st : St E I M H w) (hf : FRel ro M fr a) :
    (Code.region id ops true).wpIn (FF ro) 0 P (CPost ro M H w e fr' H') a w := by
  obtain ⟨T, fe, He, t1, t2, t3⟩ := opsD_trace ops.toList 0 [] [] fr H rfl h
  refine wpIn_region_any hE.mixed ?_
  have d1 : Ext M H w M H { w with drawn := w.drawn + 1 } := Ext.drew rfl rfl rfl rfl
  have d2 : HRel M H { w with drawn := w.drawn + 1 } := st.hr.drew rfl
  have z := trace_zero t1
  have tat := trace_at T 0 fr H t1
  simp only [Nat.zero_add] at tat
  have no : ∀ j, ¬ SL (Array.replicate ops.size false) j := fun j hj => by
    unfold SL at hj; rw [Array.getElem?_replicate] at hj; split at hj <;> simp at hj
  have mid : Mid E P ro T He fr M H w (Array.replicate ops.size false) a { w with drawn := w.drawn + 1 } 0 M fr (fun _ => ⟨0, 0, 0, 0⟩) := by
    refine ⟨by rw [z]; exact d1, by rw [z]; exact d2, hf, ⟨rfl, rfl, rfl, fun _ _ => rfl, fun _ _ => rfl, fun j r x hj => absurd hj.1 (no j)⟩, fun j r _ _ hj => by omega, Nat.zero_le _, fun j r _ hp => absurd hp.1 (no j), fun i j hi => absurd hi.1 (no i)⟩
  have sta := stat_of hz han hall
  obtain ⟨M2, fS2, c2, mm2, mid2, mx2⟩ := mid.advance (ih := ih) sta (fun j r h => (tat j r h).1) (fun k r h => (tat k r h).2) hn _ _ _ _ _ rfl
  refine walk_any hE hs sta hn t1 t2 t3 st ops.size _ a _ (by simp) ⟨by simp, fun j hj => absurd hj (no j), fun j o _ hj => absurd hj (no j), M2, fS2, c2, mm2, mid2, mx2⟩
end
end Go.Vai
