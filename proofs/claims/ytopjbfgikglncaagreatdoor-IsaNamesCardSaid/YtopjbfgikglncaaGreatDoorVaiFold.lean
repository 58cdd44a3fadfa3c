/- Names for what trees bear: leaves, places, a step up or down. -/
import Derived.Test.YtopjbfgikglncaaGreatDoorVaiLeaf
namespace Go.Vai
noncomputable section
def lf (e : AExit) (n : Nat) (vs : List (Option AV)) (os : List (Option AObj)) : Option Leaf := some ⟨e, n, false, true, true, vs, os⟩
def at1 (k : Nat) : Nat := Nat.add 0 (Nat.mul k 1)
theorem at1_eq (k : Nat) : at1 k = k := by simp [at1]
def pr (k : Nat) : Int := wrapR .i64 ((Int.ofNat k).sub (Int.ofNat 1))
def up (k : Nat) : Int := wrapR .i64 (Int.ofNat k.succ)
theorem wrapR_small {k : Nat} (h : k < 2 ^ 62) : wrapR .i64 (.ofNat k) = .ofNat k := by
  have : inR .i64 (.ofNat k) = true := by
    show Nat.blt k _ = true
    rw [Nat.blt_eq]
    refine Nat.lt_of_lt_of_le h ?_
    decide
  unfold wrapR
  rw [this]; rfl
theorem up_eq {k : Nat} (h : k < 2 ^ 61) : up k = .ofNat (k + 1) := wrapR_small (by omega)
theorem pr_eq {k : Nat} (h : k < 2 ^ 61) : pr (k + 1) = .ofNat k := by
  have : (Int.ofNat (k + 1)).sub (Int.ofNat 1) = .ofNat k := by
    show (Int.ofNat (k + 1)) - (Int.ofNat 1) = _
    simp
  unfold pr
  rw [this]
  exact wrapR_small (by omega)
theorem blt_t {a b : Nat} (h : a < b) : Nat.blt a b = true := by rw [Nat.blt_eq]; exact h
theorem blt_f {a b : Nat} (h : ¬ a < b) : Nat.blt a b = false := by
  cases e : Nat.blt a b with
  | false => rfl
  | true => rw [Nat.blt_eq] at e; exact absurd e h
theorem ble_t {a b : Nat} (h : a ≤ b) : Nat.ble a b = true := by rw [Nat.ble_eq]; exact h
theorem ble_f {a b : Nat} (h : ¬ a ≤ b) : Nat.ble a b = false := by
  cases e : Nat.ble a b with
  | false => rfl
  | true => rw [Nat.ble_eq] at e; exact absurd e h
theorem beq_t {a b : Nat} (h : a = b) : Nat.beq a b = true := by rw [Nat.beq_eq]; exact h
theorem beq_f {a b : Nat} (h : ¬ a = b) : Nat.beq a b = false := by
  cases e : Nat.beq a b with
  | false => rfl
  | true => rw [Nat.beq_eq] at e; exact absurd e h

section
variable {E : Env} {P : Program} {I : List MEnt → AHeap → World → Prop} {ro : Option Nat}
/-- A whole row by its tree's leaf. -/
theorem TriL.leafC (hE : EnvOk E P I) {cl : Cl Leaf} {d : Nat} (hc : ClOk cl (Go.Vai.run E d)) {l : List Code} {fr : AFr} {H : AHeap} {S keep : List Nat} {e : AExit} {n : Nat} {vs : List AV} {os os2 : List AObj} {Q : TQ}
    (h : codesKK E cl l (leafK E.ng S keep) fr H = lf e n (vs.map some) (os.map some)) (hk : keepOk E.ng keep = true) (hl : os2.length = os.length) (hkl : keep.length = E.ng + os.length)
    (hr : ∀ (j : Nat) o o2, os[j]? = some o → os2[j]? = some o2 → RObj 0 keep o o2) (hm : ∀ fr' H', Ren E.ng keep fr' H' (mkFr n S vs) (mkH E.ng os2) → Q e fr' H') : TriL E P I ro l fr H Q := by
  obtain ⟨e1, fr', H', e2, e3⟩ := codesKK_some hc l _ fr H _ h
  obtain ⟨rfl, ren⟩ := ren_of_leaf e3 hk hl hkl hr
  have := TriL.run (m := []) hE (sound_run hE _) (ro := ro) (Q := Q) e2 (by
    cases e1 with
    | normal => exact .inl ⟨rfl, TriL.nil (hm _ _ ren)⟩
    | _ => exact .inr ⟨(by intro h; cases h), hm _ _ ren⟩)
  rwa [List.append_nil] at this
/-- The front of a row by its tree's leaf: the rest from the leaf's state, or left. -/
theorem TriL.leafXC (hE : EnvOk E P I) (hI : Carried I) {cl : Cl Leaf} {d : Nat} (hc : ClOk cl (Go.Vai.run E d)) {l m : List Code} {fr : AFr} {H : AHeap} {S keep : List Nat} {e : AExit} {n : Nat} {vs : List AV} {os os2 : List AObj} {Q : TQ}
    (h : codesKK E cl l (leafK E.ng S keep) fr H = lf e n (vs.map some) (os.map some)) (hk : keepOk E.ng keep = true) (hl : os2.length = os.length) (hkl : keep.length = E.ng + os.length)
    (hr : ∀ (j : Nat) o o2, os[j]? = some o → os2[j]? = some o2 → RObj 0 keep o o2)
    (hm : (e = .normal ∧ TriL E P I ro m (mkFr n S vs) (mkH E.ng os2) Q) ∨ (e ≠ .normal ∧ ∀ fr' H', Ren E.ng keep fr' H' (mkFr n S vs) (mkH E.ng os2) → Q e fr' H')) : TriL E P I ro (l ++ m) fr H Q := by
  obtain ⟨e1, fr', H', e2, e3⟩ := codesKK_some hc l _ fr H _ h
  obtain ⟨rfl, ren⟩ := ren_of_leaf e3 hk hl hkl hr
  refine TriL.run hE (sound_run hE _) e2 ?_
  rcases hm with ⟨rfl, hm⟩ | ⟨hne, hm⟩
  · exact .inl ⟨rfl, TriL.ren hI ren hm⟩
  · exact .inr ⟨hne, hm _ _ ren⟩
/-- One piece by its tree's leaf. -/
theorem Tri.leafC (hE : EnvOk E P I) {cl : Cl Leaf} {d : Nat} (hc : ClOk cl (Go.Vai.run E d)) {c : Code} {fr : AFr} {H : AHeap} {S keep : List Nat} {e : AExit} {n : Nat} {vs : List AV} {os os2 : List AObj} {Q : TQ}
    (h : codeKK E cl c (leafK E.ng S keep) fr H = lf e n (vs.map some) (os.map some)) (hk : keepOk E.ng keep = true) (hl : os2.length = os.length) (hkl : keep.length = E.ng + os.length)
    (hr : ∀ (j : Nat) o o2, os[j]? = some o → os2[j]? = some o2 → RObj 0 keep o o2) (hm : ∀ fr' H', Ren E.ng keep fr' H' (mkFr n S vs) (mkH E.ng os2) → Q e fr' H') : Tri E P I ro c fr H Q := by
  obtain ⟨e1, fr', H', e2, e3⟩ := codeKK_some hc c _ fr H _ h
  obtain ⟨rfl, ren⟩ := ren_of_leaf e3 hk hl hkl hr
  exact Tri.run hE (sound_run hE _) e2 (hm _ _ ren)
/-- The same, calls within by their code. -/
theorem TriL.leafE (hE : EnvOk E P I) {d : Nat} {l : List Code} {fr : AFr} {H : AHeap} {S keep : List Nat} {e : AExit} {n : Nat} {vs : List AV} {os os2 : List AObj} {Q : TQ}
    (h : codesKK E (callKK E d) l (leafK E.ng S keep) fr H = lf e n (vs.map some) (os.map some)) (hk : keepOk E.ng keep = true) (hl : os2.length = os.length) (hkl : keep.length = E.ng + os.length)
    (hr : ∀ (j : Nat) o o2, os[j]? = some o → os2[j]? = some o2 → RObj 0 keep o o2) (hm : ∀ fr' H', Ren E.ng keep fr' H' (mkFr n S vs) (mkH E.ng os2) → Q e fr' H') : TriL E P I ro l fr H Q := TriL.leafC hE (callKK_ok E d) h hk hl hkl hr hm
theorem TriL.leafX (hE : EnvOk E P I) (hI : Carried I) {d : Nat} {l m : List Code} {fr : AFr} {H : AHeap} {S keep : List Nat} {e : AExit} {n : Nat} {vs : List AV} {os os2 : List AObj} {Q : TQ}
    (h : codesKK E (callKK E d) l (leafK E.ng S keep) fr H = lf e n (vs.map some) (os.map some)) (hk : keepOk E.ng keep = true) (hl : os2.length = os.length) (hkl : keep.length = E.ng + os.length)
    (hr : ∀ (j : Nat) o o2, os[j]? = some o → os2[j]? = some o2 → RObj 0 keep o o2)
    (hm : (e = .normal ∧ TriL E P I ro m (mkFr n S vs) (mkH E.ng os2) Q) ∨ (e ≠ .normal ∧ ∀ fr' H', Ren E.ng keep fr' H' (mkFr n S vs) (mkH E.ng os2) → Q e fr' H')) : TriL E P I ro (l ++ m) fr H Q := TriL.leafXC hE hI (callKK_ok E d) h hk hl hkl hr hm
theorem Tri.leafE (hE : EnvOk E P I) {d : Nat} {c : Code} {fr : AFr} {H : AHeap} {S keep : List Nat} {e : AExit} {n : Nat} {vs : List AV} {os os2 : List AObj} {Q : TQ}
    (h : codeKK E (callKK E d) c (leafK E.ng S keep) fr H = lf e n (vs.map some) (os.map some)) (hk : keepOk E.ng keep = true) (hl : os2.length = os.length) (hkl : keep.length = E.ng + os.length)
    (hr : ∀ (j : Nat) o o2, os[j]? = some o → os2[j]? = some o2 → RObj 0 keep o o2) (hm : ∀ fr' H', Ren E.ng keep fr' H' (mkFr n S vs) (mkH E.ng os2) → Q e fr' H') : Tri E P I ro c fr H Q := Tri.leafC hE (callKK_ok E d) h hk hl hkl hr hm
end

/-! ### Rows of truth values -/
/-- Every cell that is known bears a truth value. -/
def BT (T : Tr AV) : Prop := ∀ i v, T.get i = some v → ∃ b, v = .bool b
theorem BT.plain {T : Tr AV} (h : BT T) : PlainT T := fun i v hv => by
  obtain ⟨b, rfl⟩ := h i v hv
  intro _ _; rfl
def RowIs (N : Nat) (T : Tr AV) (F : Nat → Bool) : Prop := BT T ∧ ∀ k, k < N → T.get k = some (.bool (F k))
theorem RowIs.put {N : Nat} {T : Tr AV} {F G : Nat → Bool} {k : Nat} {b : Bool} (h : RowIs N T F) (hN : N ≤ 1000000) (hk : k < N) (hb : b = G k) (hG : ∀ j, j < N → j ≠ k → F j = G j) : RowIs N (T.putAll k [.bool b]) G := by
  have e : T.putAll k [.bool b] = T.set k (.bool b) := by rw [Tr.putAll_cons, Tr.putAll_nil]
  rw [e]
  refine ⟨fun i v hv => ?_, fun j hj => ?_⟩
  · rcases Tr.get_set hv with ⟨_, rfl⟩ | ⟨_, h2⟩
    · exact ⟨b, rfl⟩
    · exact h.1 i v h2
  · rw [Tr.get_set_eq T j _ (by omega)]
    split
    · rename_i e; subst e; rw [hb]
    · rename_i e; rw [h.2 j hj, hG j hj e]
theorem rep_one_get (v : AV) : ∀ (n i : Nat), i < n → (rep [v] n)[i]? = some v
  | 0, i, h => by omega
  | n + 1, 0, _ => by simp [rep]
  | n + 1, i + 1, h => by
    simp only [rep, List.cons_append, List.nil_append, List.getElem?_cons_succ]
    exact rep_one_get v n i (by omega)
theorem Tr.get_putAll_eq : ∀ (vs : List AV) (t : Tr AV) (k j : Nat), k + vs.length ≤ 1000000 → (t.putAll k vs).get j = if k ≤ j ∧ j < k + vs.length then vs[j - k]? else t.get j
  | [], t, k, j, _ => by
    rw [Tr.putAll_nil, if_neg]
    simp only [List.length_nil]; omega
  | v :: vs, t, k, j, h => by
    rw [Tr.putAll_cons, Tr.get_putAll_eq vs _ _ _ (by simp at h; omega), Tr.get_set_eq _ _ _ (by simp at h; omega)]
    by_cases e : j = k
    · subst e
      rw [if_neg (by omega), if_pos rfl, if_pos (by simp)]
      simp
    · by_cases e2 : k + 1 ≤ j ∧ j < k + 1 + vs.length
      · rw [if_pos e2, if_pos (by simp; omega)]
        rw [show j - k = (j - (k + 1)) + 1 by omega]
        simp
      · rw [if_neg e2, if_neg e, if_neg (by simp; omega)]
theorem rowIs_rep {N : Nat} (hN : N ≤ 1000000) : RowIs N (Tr.nil.putAll 0 (rep [.bool false] N)) fun _ => false := by
  have hl : (rep [AV.bool false] N).length = N := by rw [rep_len]; simp
  refine ⟨fun i v hv => ?_, fun k hk => ?_⟩
  · rw [Tr.get_putAll_eq _ _ _ _ (by rw [hl]; omega)] at hv
    split at hv
    · rename_i h
      rw [hl] at h
      rw [rep_one_get _ _ _ (by omega)] at hv
      simp only [Option.some.injEq] at hv
      exact ⟨_, hv.symm⟩
    · rw [Tr.get_nil] at hv; cases hv
  · rw [Tr.get_putAll_eq _ _ _ _ (by rw [hl]; omega), if_pos (by rw [hl]; omega), rep_one_get _ _ _ (by omega)]
end
end Go.Vai
