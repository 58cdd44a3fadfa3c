/- A region whose order is open, the second half: every order comes to where the order of the text comes. -/
import Derived.Test.YtopjbfgikglncaaGreatDoorVaiDraw
namespace Go.Vai
theorem Tr.get_del_ne {α : Type} (t : Tr α) (i j : Nat) (hi : i < 1000001) (h : j ≠ i) : (t.del i).get j = t.get j := by
  unfold Tr.del
  rw [Tr.getF_eq 48 t i j none (by omega), if_neg h]
section
variable {E : Env} {P : Program} {I : List MEnt → AHeap → World → Prop} {ih : Task → Option TRes} {ro : Option Nat}

noncomputable def hp (T : List TRec) (He : AHeap) (c : Nat) : AHeap := match T[c]? with
  | some r => r.H
  | none => He

theorem trace_zero {ops : Array Oper} {T : List TRec} {i : Nat} {fr fe : AFr} {H He : AHeap} (h : Trace E ih ops T i fr H fe He) : hp T He 0 = H := by
  cases T with
  | nil => exact h.2
  | cons r T => exact h.2.2.1
theorem trace_at {ops : Array Oper} {He : AHeap} {fe : AFr} : ∀ (T : List TRec) (i : Nat) (fr : AFr) (H : AHeap), Trace E ih ops T i fr H fe He → ∀ (k : Nat) (r : TRec), T[k]? = some r →
    ops[i + k]? = some r.o ∧ StepOk E ih ops r ∧ r.H' = hp T He (k + 1) := by
  intro T
  induction T with
  | nil => intro i fr H _ k r h; simp at h
  | cons s T iht =>
    intro i fr H h k r hk
    obtain ⟨h1, h2, h3, h4, h5⟩ := h
    cases k with
    | zero =>
      simp at hk; subst hk
      refine ⟨h1, h4, ?_⟩
      have := trace_zero h5
      rw [← this]
      unfold hp; simp
    | succ k =>
      obtain ⟨a, b, c⟩ := iht (i + 1) _ _ h5 k r (by simpa using hk)
      refine ⟨by rw [show i + (k + 1) = i + 1 + k by omega]; exact a, b, ?_⟩
      rw [c]; unfold hp; simp

/-- What the slots of a frame hold when the operations of S have run; of the slots of those of D nothing is said. -/
structure FS (fr0 : AFr) (T : List TRec) (S D : Nat → Prop) (fr : AFr) : Prop where
  n : fr.n = fr0.n
  df : fr.df = fr0.df
  rd : fr.rd = fr0.rd
  big : ∀ x, fr0.n ≤ x → fr.t.get x = fr0.t.get x
  no : ∀ x, (∀ (j : Nat) (r : TRec), S j ∨ D j → T[j]? = some r → r.o.dst ≠ some x) → fr.t.get x = fr0.t.get x
  yes : ∀ (j : Nat) (r : TRec) (x : Nat), S j → T[j]? = some r → r.o.dst = some x → x < fr0.n → fr.t.get x = some r.v

theorem FS.iff {fr0 fr : AFr} {T : List TRec} {S S' D D' : Nat → Prop} (h : FS fr0 T S D fr) (hs : ∀ j, S j ↔ S' j) (hd : ∀ j, S j ∨ D j ↔ S' j ∨ D' j) : FS fr0 T S' D' fr :=
  ⟨h.n, h.df, h.rd, h.big, fun x hx => h.no x fun j r hj => hx j r ((hd j).1 hj), fun j r x hj => h.yes j r x ((hs j).2 hj)⟩

theorem FS.agree {fr0 f f' : AFr} {T : List TRec} {S S' D D' : Nat → Prop} (h : FS fr0 T S D f) (h' : FS fr0 T S' D' f') {x : Nat} (hx : ∀ (j : Nat) (r : TRec), T[j]? = some r → r.o.dst = some x → (S j ↔ S' j) ∧ ¬ D j ∧ ¬ D' j) : f.t.get x = f'.t.get x := by
  by_cases hw : ∃ (j : Nat) (r : TRec), S j ∧ T[j]? = some r ∧ r.o.dst = some x
  · obtain ⟨j, r, hj, hr, hd⟩ := hw
    by_cases hn : x < fr0.n
    · rw [h.yes j r x hj hr hd hn, h'.yes j r x ((hx j r hr hd).1.1 hj) hr hd hn]
    · rw [h.big x (by omega), h'.big x (by omega)]
  · rw [h.no x (fun j r hj hr hd => ?_), h'.no x (fun j r hj hr hd => ?_)]
    · rcases hj with hj | hj
      · exact hw ⟨j, r, (hx j r hr hd).1.2 hj, hr, hd⟩
      · exact (hx j r hr hd).2.2 hj
    · rcases hj with hj | hj
      · exact hw ⟨j, r, hj, hr, hd⟩
      · exact (hx j r hr hd).2.1 hj

variable {ops : Array Oper} {an : Tr Nat} {fr0 : AFr} {T : List TRec}

theorem FS.put (st : Stat E ops an) (hat : ∀ (j : Nat) (r : TRec), T[j]? = some r → ops[j]? = some r.o) (hn : fr0.n ≤ 1000000) {S D : Nat → Prop} {fr : AFr} (h : FS fr0 T S D fr) {i : Nat} {r : TRec} (hr : T[i]? = some r) :
    FS fr0 T (fun j => S j ∨ j = i) (fun j => D j ∧ j ≠ i) (fr.put r.o.dst r.v) := by
  have wid : ∀ j, S j ∨ D j → (S j ∨ j = i) ∨ (D j ∧ j ≠ i) := fun j h => by
    by_cases e : j = i
    · exact .inl (.inr e)
    · exact h.elim (fun a => .inl (.inl a)) (fun a => .inr ⟨a, e⟩)
  have uq : ∀ (j : Nat) (s : TRec) (x : Nat), T[j]? = some s → r.o.dst = some x → s.o.dst = some x → j = i := by
    intro j s x hs h1 h2
    rcases Nat.lt_trichotomy j i with hlt | heq | hgt
    · exact absurd h1 (st.uniq j i s.o r.o x (hat _ _ hs) (hat _ _ hr) hlt h2)
    · exact heq
    · exact absurd h2 (st.uniq i j r.o s.o x (hat _ _ hr) (hat _ _ hs) hgt h1)
  cases hd : r.o.dst with
  | none =>
    refine ⟨h.n, h.df, h.rd, h.big, fun x hx => h.no x fun j s hj => hx j s (wid j hj), fun j s x hj hs hsx hxn => ?_⟩
    rcases hj with hj | rfl
    · exact h.yes j s x hj hs hsx hxn
    · rw [hr] at hs; cases hs; rw [hd] at hsx; cases hsx
  | some d =>
    simp only [AFr.put, Bool.cond_eq_ite, Nat.blt_eq]
    split
    · rename_i hlt
      have hlt' : d < fr0.n := by rw [← h.n]; exact hlt
      have get : ∀ x, (fr.t.set d r.v).get x = if x = d then some r.v else fr.t.get x := fun x => Tr.get_set_eq _ _ _ (Nat.lt_succ_of_le (Nat.le_of_lt (Nat.lt_of_lt_of_le hlt' hn)))
      refine ⟨h.n, h.df, h.rd, fun x hx => ?_, fun x hx => ?_, fun j s x hj hs hsx hxn => ?_⟩
      · show (fr.t.set d r.v).get x = _
        have hxd : x ≠ d := fun e => by rw [e] at hx; exact absurd hlt' (Nat.not_lt.2 hx)
        rw [get, if_neg hxd]; exact h.big x hx
      · show (fr.t.set d r.v).get x = _
        have : x ≠ d := fun e => hx i r (.inl (.inr rfl)) hr (by rw [hd, e])
        rw [get, if_neg this]
        exact h.no x fun j s hj => hx j s (wid j hj)
      · show (fr.t.set d r.v).get x = _
        rw [get]
        by_cases hx : x = d
        · rw [if_pos hx]
          have := uq j s x hs (by rw [hd, hx]) hsx
          subst this
          rw [hr] at hs; cases hs; rfl
        · rw [if_neg hx]
          rcases hj with hj | rfl
          · exact h.yes j s x hj hs hsx hxn
          · rw [hr] at hs; cases hs; rw [hd] at hsx; cases hsx; exact absurd rfl hx
    · rename_i hge
      have hge' : fr0.n ≤ d := by rw [← h.n]; omega
      refine ⟨h.n, h.df, h.rd, h.big, fun x hx => h.no x fun j s hj => hx j s (wid j hj), fun j s x hj hs hsx hxn => ?_⟩
      rcases hj with hj | rfl
      · exact h.yes j s x hj hs hsx hxn
      · rw [hr] at hs; cases hs; rw [hd] at hsx; cases hsx; omega

/-- Nothing is said any more of a slot. -/
noncomputable def _root_.Go.Vai.AFr.cut (fr : AFr) (d : Option Tmp) : AFr :=
  match d with
  | some d => if d < fr.n then { fr with t := fr.t.del d } else fr
  | none => fr
theorem FS.cut (st : Stat E ops an) (hat : ∀ (j : Nat) (r : TRec), T[j]? = some r → ops[j]? = some r.o) (hn : fr0.n ≤ 1000000) {S D : Nat → Prop} {fr : AFr} (h : FS fr0 T S D fr) {i : Nat} {r : TRec} (hr : T[i]? = some r) (hi : ¬ S i) :
    FS fr0 T S (fun j => D j ∨ j = i) (fr.cut r.o.dst) := by
  have uq : ∀ (j : Nat) (s : TRec) (x : Nat), T[j]? = some s → r.o.dst = some x → s.o.dst = some x → j = i := by
    intro j s x hs h1 h2
    rcases Nat.lt_trichotomy j i with hlt | heq | hgt
    · exact absurd h1 (st.uniq j i s.o r.o x (hat _ _ hs) (hat _ _ hr) hlt h2)
    · exact heq
    · exact absurd h2 (st.uniq i j r.o s.o x (hat _ _ hr) (hat _ _ hs) hgt h1)
  have plain : FS fr0 T S (fun j => D j ∨ j = i) fr :=
    ⟨h.n, h.df, h.rd, h.big, fun x hx => h.no x fun j s hj => hx j s (hj.elim .inl (fun a => .inr (.inl a))), h.yes⟩
  cases hd : r.o.dst with
  | none => exact plain
  | some d =>
    simp only [AFr.cut]
    split
    · rename_i hlt
      have hlt' : d < fr0.n := by rw [← h.n]; exact hlt
      have get : ∀ x, x ≠ d → (fr.t.del d).get x = fr.t.get x := fun x hx => Tr.get_del_ne _ _ _ (Nat.lt_succ_of_le (Nat.le_of_lt (Nat.lt_of_lt_of_le hlt' hn))) hx
      refine ⟨h.n, h.df, h.rd, fun x hx => ?_, fun x hx => ?_, fun j s x hj hs hsx hxn => ?_⟩
      · show (fr.t.del d).get x = _
        have hxd : x ≠ d := fun e => by rw [e] at hx; exact absurd hlt' (Nat.not_lt.2 hx)
        rw [get x hxd]; exact h.big x hx
      · show (fr.t.del d).get x = _
        have : x ≠ d := fun e => hx i r (.inr (.inr rfl)) hr (by rw [hd, e])
        rw [get x this]
        exact h.no x fun j s hj => hx j s (hj.elim .inl (fun a => .inr (.inl a)))
      · show (fr.t.del d).get x = _
        have : x ≠ d := fun e => by
          have := uq j s x hs (by rw [hd, e]) hsx
          subst this; exact hi hj
        rw [get x this]; exact h.yes j s x hj hs hsx hxn
    · exact plain

theorem trace_fs (st : Stat E ops an) (hat : ∀ (j : Nat) (r : TRec), T[j]? = some r → ops[j]? = some r.o) (hn : fr0.n ≤ 1000000) {fe : AFr} {He : AHeap} : ∀ (T2 T1 : List TRec) (fr : AFr) (H : AHeap), T = T1 ++ T2 → Trace E ih ops T2 T1.length fr H fe He → FS fr0 T (· < T1.length) (fun _ => False) fr →
    (∀ (k : Nat) (r : TRec), T2[k]? = some r → FS fr0 T (· < T1.length + k) (fun _ => False) r.fr) ∧ FS fr0 T (· < T.length) (fun _ => False) fe := by
  intro T2
  induction T2 with
  | nil =>
    intro T1 fr H hT h hf
    refine ⟨fun k r h => by simp at h, ?_⟩
    rw [h.1]
    exact hf.iff (fun j => by rw [hT]; simp) (fun j => by rw [hT]; simp)
  | cons r T2 iht =>
    intro T1 fr H hT h hf
    obtain ⟨h1, h2, h3, h4, h5⟩ := h
    have hr : T[T1.length]? = some r := by rw [hT]; simp
    have := (FS.put st hat hn hf hr).iff (S' := (· < (T1 ++ [r]).length)) (D' := fun _ => False) (fun j => by simp; omega) (fun j => by simp; omega)
    obtain ⟨a, b⟩ := iht (T1 ++ [r]) _ _ (by simp [hT]) (by simpa using h5) this
    refine ⟨fun k s hk => ?_, b⟩
    cases k with
    | zero => simp at hk; subst hk; rw [h2]; exact hf
    | succ k =>
      have := a k s (by simpa using hk)
      exact this.iff (fun j => by simp; omega) (fun j => by simp; omega)

theorem hp_const {He : AHeap} (htr : ∀ (k : Nat) (r : TRec), T[k]? = some r → StepOk E ih ops r ∧ r.H' = hp T He (k + 1)) (c : Nat) : ∀ (n : Nat), (∀ (j : Nat) (r : TRec), c ≤ j → j < c + n → T[j]? = some r → ¬ WL E r) → hp T He (c + n) = hp T He c := by
  intro n
  induction n with
  | zero => intro _; rfl
  | succ n ihn =>
    intro h
    have h1 := ihn fun j r a b => h j r a (by omega)
    rw [← h1]
    show hp T He (c + n + 1) = _
    cases ht : T[c + n]? with
    | none =>
      have : T[c + n + 1]? = none := by rw [List.getElem?_eq_none_iff] at ht ⊢; omega
      simp [hp, ht, this]
    | some r =>
      obtain ⟨so, e⟩ := htr _ r ht
      have nw := h (c + n) r (by omega) (by omega) ht
      rw [← e]
      have : hp T He (c + n) = r.H := by simp [hp, ht]
      rw [this]
      cases hw : r.w with
      | false => exact (so.no hw).2
      | true =>
        cases hq : quietOp E r.o.op with
        | true => exact (so.quiet hw hq).1
        | false => exact absurd ⟨hw, hq⟩ nw

theorem least {p : Nat → Prop} : ∀ n, p n → ∃ j, j ≤ n ∧ p j ∧ ∀ k, k < j → ¬ p k := by
  intro n
  induction n using Nat.strongRecOn with
  | _ n ihn =>
    intro h
    by_cases hk : ∃ k, k < n ∧ p k
    · obtain ⟨k, hk, hp⟩ := hk
      obtain ⟨j, a, b, c⟩ := ihn k hk hp
      exact ⟨j, by omega, b, c⟩
    · exact ⟨n, Nat.le_refl _, h, fun k hkn hpk => hk ⟨k, hkn, hpk⟩⟩
theorem most {p : Nat → Prop} : ∀ n, (∃ k, k < n ∧ p k) → ∃ j, j < n ∧ p j ∧ ∀ k, j < k → k < n → ¬ p k := by
  intro n
  induction n with
  | zero => rintro ⟨k, h, _⟩; omega
  | succ n ihn =>
    rintro ⟨k, hk, hpk⟩
    by_cases hn : p n
    · exact ⟨n, by omega, hn, fun k a b => by omega⟩
    · by_cases hkn : k = n
      · subst hkn; exact absurd hpk hn
      · obtain ⟨j, a, b, c⟩ := ihn ⟨k, by omega, hpk⟩
        refine ⟨j, by omega, b, fun m x y => ?_⟩
        by_cases hm : m = n
        · subst hm; exact hn
        · exact c m x (by omega)

/-- Between two places where the same loud operations have run, memory is the same. -/
theorem hp_same {He : AHeap} (htr : ∀ (k : Nat) (r : TRec), T[k]? = some r → StepOk E ih ops r ∧ r.H' = hp T He (k + 1)) {c d : Nat} (h : ∀ (j : Nat) (r : TRec), T[j]? = some r → WL E r → (j < c ↔ j < d)) : hp T He c = hp T He d := by
  rcases Nat.le_total c d with hcd | hcd
  · have := hp_const htr c (d - c) (fun j r a b ht hw => by have := (h j r ht hw); omega)
    rw [show c + (d - c) = d by omega] at this
    exact this.symm
  · have := hp_const htr d (c - d) (fun j r a b ht hw => by have := (h j r ht hw); omega)
    rw [show d + (c - d) = c by omega] at this
    exact this

/-- A quiet operation's value, at any place where it may run. -/
theorem quiet_at {He : AHeap} (htr : ∀ (k : Nat) (r : TRec), T[k]? = some r → StepOk E ih ops r ∧ r.H' = hp T He (k + 1)) (sb : Stab E an T 0 [] []) {S : Nat → Prop} {c i : Nat} {r : TRec} (hr : T[i]? = some r) (hw : WQ E r)
    (hc : ∀ (j : Nat) (s : TRec), T[j]? = some s → WL E s → j < c → S j) (hm : ∀ (s : TRec), T[c]? = some s → WL E s ∧ ¬ S c) (hcT : c ≤ T.length) (hanc : ∀ j, Anc an i j → S j) (hcl : ∀ (j : Nat) (s : TRec), T[j]? = some s → S j → Anc an j i → S i) (hni : ¬ S i) :
    quietA E (hp T He c) r.fr.t r.o = some r.v := by
  have here : hp T He i = r.H := by simp [hp, hr]
  have own := ((htr i r hr).1.quiet hw.1 hw.2).2
  rcases Nat.le_total c i with hci | hci
  · by_cases hx : ∃ j, c ≤ j ∧ j < i ∧ ∃ s, T[j]? = some s ∧ WL E s
    · obtain ⟨j0, hj0⟩ := hx
      obtain ⟨j, _, ⟨h1, h2, s, hs, hws⟩, hl⟩ := least (p := fun j => c ≤ j ∧ j < i ∧ ∃ s, T[j]? = some s ∧ WL E s) j0 hj0
      have e1 : hp T He j = hp T He c := by
        have := hp_const htr c (j - c) (fun k s' a b ht hw' => hl k (by omega) ⟨a, by omega, s', ht, hw'⟩)
        rw [show c + (j - c) = j by omega] at this
        exact this
      have e2 : hp T He j = s.H := by simp [hp, hs]
      rw [← e1, e2]
      rcases sb.eq j i s r hs hr h2 hws hw with ha | ha
      · simp only [Nat.zero_add] at ha
        obtain ⟨sc, hsc⟩ : ∃ sc, T[c]? = some sc := ⟨T[c]'(by have := (List.getElem?_eq_some_iff.1 hr).1; omega), List.getElem?_eq_getElem _⟩
        obtain ⟨m1, m2⟩ := hm sc hsc
        by_cases e : c = j
        · subst e; exact absurd (hanc c ha) m2
        · exact absurd ⟨Nat.le_refl c, by omega, sc, hsc, m1⟩ (hl c (by omega))
      · exact ha
    · have e1 : hp T He i = hp T He c := by
        have := hp_const htr c (i - c) (fun k s' a b ht hw' => hx ⟨k, a, by omega, s', ht, hw'⟩)
        rw [show c + (i - c) = i by omega] at this
        exact this
      rw [← e1, here]; exact own
  · by_cases hx : ∃ j, j < c ∧ (i ≤ j ∧ ∃ s, T[j]? = some s ∧ WL E s)
    · obtain ⟨j, h1, ⟨h2, s, hs, hws⟩, hl⟩ := most c hx
      have hij : i ≠ j := by
        intro e; subst e
        rw [hr] at hs; cases hs
        have := hw.2; rw [hws.2] at this; cases this
      have e1 : hp T He c = hp T He (j + 1) := by
        have := hp_const htr (j + 1) (c - (j + 1)) (fun k s' a b ht hw' => hl k (by omega) (by omega) ⟨by omega, s', ht, hw'⟩)
        rw [show j + 1 + (c - (j + 1)) = c by omega] at this
        exact this
      rw [e1, ← (htr j s hs).2]
      rcases sb.qe i j r s hr hs (by omega) hw hws with ha | ha
      · simp only [Nat.zero_add] at ha
        exact absurd (hcl j s hs (hc j s hs hws h1) ha) hni
      · exact ha
    · have e1 : hp T He c = hp T He i := by
        have := hp_const htr i (c - i) (fun k s' a b ht hw' => hx ⟨k, by omega, a, s', ht, hw'⟩)
        rw [show i + (c - i) = c by omega] at this
        exact this
      rw [e1, here]; exact own

theorem delDsts_get : ∀ (os : List Oper) {t : Tr AV} {x : Nat} {v : AV}, (delDsts t os).get x = some v → t.get x = some v ∧ ∀ o ∈ os, o.dst ≠ some x := by
  intro os
  induction os with
  | nil => intro t x v h; exact ⟨h, fun o ho => by cases ho⟩
  | cons o os iho =>
    intro t x v h
    simp only [delDsts] at h
    obtain ⟨a, b⟩ := iho h
    cases hd : o.dst with
    | none =>
      rw [hd] at a
      refine ⟨a, fun p hp => ?_⟩
      simp only [List.mem_cons] at hp
      rcases hp with rfl | hp
      · rw [hd]; simp
      · exact b p hp
    | some d =>
      rw [hd] at a
      obtain ⟨c, e⟩ := Tr.get_del a
      refine ⟨e, fun p hp => ?_⟩
      simp only [List.mem_cons] at hp
      rcases hp with rfl | hp
      · rw [hd]; simp only [ne_eq, Option.some.injEq]; exact fun e => c e.symm
      · exact b p hp

theorem reads_opd {f f' : Tr AV} {o : Oper} (h : ∀ t, reads t o = true → f.get t = f'.get t) : ∀ x ∈ o.op.operands.toList, opd E f x = opd E f' x := fun x hx => opd_congr fun t ht => h t (by
  simp only [reads, List.any_eq_true]; exact ⟨x, hx, ht⟩)

theorem ready_spec {listed : Array Bool} {i : Nat} (h : i ∈ Region.ready .any ops listed) (hsz : listed.size = ops.size) :
    ∃ o, ops[i]? = some o ∧ listed[i]? = some false ∧ ∀ e ∈ o.after.toList, Region.binds .any e = true → listed[e.on]? = some true := by
  simp only [Region.ready, List.mem_filter, List.mem_range, Bool.and_eq_true, Bool.not_eq_true'] at h
  obtain ⟨h1, h2, h3⟩ := h
  have ho : ops[i]? = some ops[i] := Array.getElem?_eq_getElem h1
  rw [ho] at h3
  simp only [Option.map_some, Option.getD_some] at h3
  refine ⟨ops[i], ho, ?_, fun e he hb => ?_⟩
  · have hl : listed[i]? = some listed[i] := Array.getElem?_eq_getElem (by omega)
    rw [Array.getD_eq_getD_getElem?, hl, Option.getD_some] at h2
    rw [hl, h2]
  · rw [Array.all_eq_true_iff_forall_mem] at h3
    have := h3 e (by simpa using he)
    simp only [hb, Bool.not_true, Bool.false_or, Array.getD_eq_getD_getElem?] at this
    cases hx : listed[e.on]? with
    | none => rw [hx] at this; cases this
    | some b => rw [hx] at this; simp at this; rw [this]

theorem ready_nil (st : Stat E ops an) {listed : Array Bool} (h : Region.ready .any ops listed = []) (hsz : listed.size = ops.size) : ∀ i, i < ops.size → listed[i]? = some true := by
  intro i
  induction i using Nat.strongRecOn with
  | _ i ihi =>
    intro hi
    have hl : listed[i]? = some listed[i] := Array.getElem?_eq_getElem (by omega)
    cases hb : listed[i] with
    | true => rw [hl, hb]
    | false =>
      exfalso
      have ho : ops[i]? = some ops[i] := Array.getElem?_eq_getElem hi
      have : i ∈ Region.ready .any ops listed := by
        simp only [Region.ready, List.mem_filter, List.mem_range, Bool.and_eq_true, Bool.not_eq_true']
        refine ⟨hi, ?_, ?_⟩
        · rw [Array.getD_eq_getD_getElem?, hl, hb]; rfl
        · rw [ho]
          simp only [Option.map_some, Option.getD_some]
          rw [Array.all_eq_true_iff_forall_mem]
          intro e he
          cases hbb : Region.binds .any e with
          | false => rfl
          | true =>
            have hlt := st.low i _ ho e (by simpa using he) hbb
            have := ihi e.on hlt (by omega)
            simp [Array.getD_eq_getD_getElem?, this]
      rw [h] at this
      cases this
end
end Go.Vai
