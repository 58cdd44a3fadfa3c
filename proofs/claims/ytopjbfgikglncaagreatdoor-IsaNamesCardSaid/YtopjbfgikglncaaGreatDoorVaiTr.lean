/- Plain facts about the interpreter's tries, numbers and strings. -/
import Derived.Test.YtopjbfgikglncaaGreatDoorVaiDefs
namespace Go.Vai
namespace Tr
variable {α : Type}

theorem setF_zero (t : Tr α) (i : Nat) (v : Option α) : setF 0 t i v = .nil := rfl
theorem setF_nz (f : Nat) (v : Option α) : setF (f + 1) (.nil : Tr α) 0 v = .node v .nil .nil := rfl
theorem setF_tz (f : Nat) (x : Option α) (l r : Tr α) (v : Option α) : setF (f + 1) (.node x l r) 0 v = .node v l r := rfl
theorem setF_ns (f i : Nat) (v : Option α) : setF (f + 1) (.nil : Tr α) (i + 1) v = bif Nat.beq (i % 2) 0 then .node none (setF f .nil (i / 2) v) .nil else .node none .nil (setF f .nil (i / 2) v) := by
  show Bool.rec (motive := fun _ => Tr α) _ _ (Nat.beq (i % 2) 0) = _
  cases Nat.beq (i % 2) 0 <;> rfl
theorem setF_ts (f : Nat) (x : Option α) (l r : Tr α) (i : Nat) (v : Option α) : setF (f + 1) (.node x l r) (i + 1) v = bif Nat.beq (i % 2) 0 then .node x (setF f l (i / 2) v) r else .node x l (setF f r (i / 2) v) := by
  show Bool.rec (motive := fun _ => Tr α) _ _ (Nat.beq (i % 2) 0) = _
  cases Nat.beq (i % 2) 0 <;> rfl
theorem putAll_nil (t : Tr α) (k : Nat) : t.putAll k [] = t := rfl
theorem putAll_cons (t : Tr α) (k : Nat) (v : α) (vs : List α) : t.putAll k (v :: vs) = putAll (t.set k v) (k + 1) vs := rfl
theorem getAll_zero (t : Tr α) (k : Nat) : t.getAll k 0 = some [] := rfl
theorem getAll_succ (t : Tr α) (k n : Nat) : t.getAll k (n + 1) = (match t.get k with
    | none => none
    | some v => match getAll t (k + 1) n with
      | none => none
      | some vs => some (v :: vs)) := by
  show Option.rec (motive := fun _ => Option (List α)) none (fun v => Option.rec (motive := fun _ => Option (List α)) none (fun vs => some (v :: vs)) (getAll t (k + 1) n)) (t.get k) = _
  cases t.get k with
  | none => rfl
  | some v => cases getAll t (k + 1) n <;> rfl
theorem get_nil (i : Nat) : (Tr.nil : Tr α).get i = none := rfl
theorem get_zero (v : Option α) (l r : Tr α) : (Tr.node v l r).get 0 = v := rfl
theorem get_succ (v : Option α) (l r : Tr α) (i : Nat) : (Tr.node v l r).get (i + 1) = bif Nat.beq (i % 2) 0 then l.get (i / 2) else r.get (i / 2) := by
  show Bool.rec (motive := fun _ => Option α) _ _ (Nat.beq (i % 2) 0) = _
  cases Nat.beq (i % 2) 0 <;> rfl

theorem get_setF : ∀ (f : Nat) (t : Tr α) (i j : Nat) (v : Option α) (x : α), (setF f t i v).get j = some x → (j = i ∧ v = some x) ∨ (j ≠ i ∧ t.get j = some x) := by
  intro f
  induction f with
  | zero => intro t i j v x h; simp [setF_zero, get_nil] at h
  | succ f ih =>
    intro t i j v x h
    cases i with
    | zero =>
      cases t with
      | nil =>
        cases j with
        | zero => simp only [setF_nz, get_zero] at h; exact .inl ⟨rfl, h⟩
        | succ j => simp only [setF_nz, get_succ, get_nil] at h; cases hb : Nat.beq (j % 2) 0 <;> rw [hb] at h <;> simp at h
      | node y l r =>
        cases j with
        | zero => simp only [setF_tz, get_zero] at h; exact .inl ⟨rfl, h⟩
        | succ j => simp only [setF_tz, get_succ] at h; exact .inr ⟨by omega, by simp only [get_succ]; exact h⟩
    | succ i =>
      have par : ∀ j, Nat.beq (i % 2) 0 = Nat.beq (j % 2) 0 → j / 2 = i / 2 → j = i := by
        intro j hp hd
        cases h1 : Nat.beq (i % 2) 0
        · rw [h1] at hp
          have a := Nat.ne_of_beq_eq_false h1
          have b := Nat.ne_of_beq_eq_false hp.symm
          omega
        · rw [h1] at hp
          have a := Nat.eq_of_beq_eq_true h1
          have b := Nat.eq_of_beq_eq_true hp.symm
          omega
      cases t with
      | nil =>
        cases hi : Nat.beq (i % 2) 0 <;> simp only [setF_ns, hi, cond_true, cond_false] at h
        all_goals
          cases j with
          | zero => simp [get_zero] at h
          | succ j =>
            simp only [get_succ, get_nil] at h
            cases hj : Nat.beq (j % 2) 0 <;> simp only [hj, cond_true, cond_false] at h
            all_goals first
              | (cases h; done)
              | (rcases ih _ _ _ _ _ h with ⟨h1, h2⟩ | ⟨_, h2⟩
                 · exact .inl ⟨by rw [par j (hi.trans hj.symm) h1], h2⟩
                 · simp [get_nil] at h2)
      | node y l r =>
        cases hi : Nat.beq (i % 2) 0 <;> simp only [setF_ts, hi, cond_true, cond_false] at h
        all_goals
          cases j with
          | zero => simp only [get_zero] at h ⊢; exact .inr ⟨by omega, h⟩
          | succ j =>
            simp only [get_succ] at h ⊢
            cases hj : Nat.beq (j % 2) 0 <;> simp only [hj, cond_true, cond_false] at h ⊢
            all_goals first
              | (rcases ih _ _ _ _ _ h with ⟨h1, h2⟩ | ⟨h1, h2⟩
                 · exact .inl ⟨by rw [par j (hi.trans hj.symm) h1], h2⟩
                 · exact .inr ⟨by intro e; apply h1; have : j = i := by omega
                                  rw [this], h2⟩)
              | (refine .inr ⟨?_, h⟩
                 intro e
                 have : j = i := by omega
                 subst this
                 rw [hi] at hj
                 cases hj)

theorem getF_eq : ∀ (f : Nat) (t : Tr α) (i j : Nat) (v : Option α), i + 1 < 2 ^ f → (setF f t i v).get j = if j = i then v else t.get j := by
  intro f
  induction f with
  | zero => intro t i j v h; omega
  | succ f ih =>
    intro t i j v h
    cases i with
    | zero =>
      cases t with
      | nil =>
        cases j with
        | zero => rfl
        | succ j => simp only [setF_nz, get_succ, get_nil]; cases Nat.beq (j % 2) 0 <;> simp
      | node y l r =>
        cases j with
        | zero => rfl
        | succ j => simp only [setF_tz, get_succ]; simp
    | succ i =>
      have hi : i / 2 + 1 < 2 ^ f := by rw [Nat.pow_succ] at h; omega
      have par : j ≠ 0 → Nat.beq (i % 2) 0 = Nat.beq ((j - 1) % 2) 0 → (j - 1) / 2 = i / 2 → j = i + 1 := by
        intro hj hp hd
        have : (i % 2 = 0) ↔ ((j - 1) % 2 = 0) := by rw [← Nat.beq_eq, ← Nat.beq_eq, hp]
        omega
      cases t with
      | nil =>
        cases j with
        | zero => simp only [setF_ns]; cases Nat.beq (i % 2) 0 <;> simp [get_zero, get_nil]
        | succ j =>
          simp only [Nat.add_sub_cancel, ne_eq, Nat.succ_ne_zero, not_false_eq_true, forall_const] at par
          simp only [setF_ns]
          cases hb : Nat.beq (i % 2) 0 <;> simp only [cond_true, cond_false, get_succ] <;> cases hc : Nat.beq (j % 2) 0 <;> simp only [cond_true, cond_false]
          · rw [ih _ _ _ _ hi]
            rw [hb, hc] at par
            simp only [get_nil, Nat.add_right_cancel_iff] at par ⊢
            by_cases e : j / 2 = i / 2
            · rw [if_pos e, if_pos (par trivial e)]
            · rw [if_neg e, if_neg (fun x => e (by rw [x]))]
          · rw [get_nil, get_nil, if_neg]
            intro x; simp only [Nat.add_right_cancel_iff] at x; rw [x, hb] at hc; cases hc
          · rw [get_nil, get_nil, if_neg]
            intro x; simp only [Nat.add_right_cancel_iff] at x; rw [x, hb] at hc; cases hc
          · rw [ih _ _ _ _ hi]
            rw [hb, hc] at par
            simp only [get_nil, Nat.add_right_cancel_iff] at par ⊢
            by_cases e : j / 2 = i / 2
            · rw [if_pos e, if_pos (par trivial e)]
            · rw [if_neg e, if_neg (fun x => e (by rw [x]))]
      | node y l r =>
        cases j with
        | zero => simp only [setF_ts]; cases Nat.beq (i % 2) 0 <;> simp [get_zero]
        | succ j =>
          simp only [Nat.add_sub_cancel, ne_eq, Nat.succ_ne_zero, not_false_eq_true, forall_const] at par
          simp only [setF_ts]
          cases hb : Nat.beq (i % 2) 0 <;> simp only [cond_true, cond_false, get_succ] <;> cases hc : Nat.beq (j % 2) 0 <;> simp only [cond_true, cond_false]
          · rw [ih _ _ _ _ hi]
            rw [hb, hc] at par
            simp only [Nat.add_right_cancel_iff] at par ⊢
            by_cases e : j / 2 = i / 2
            · rw [if_pos e, if_pos (par trivial e)]
            · rw [if_neg e, if_neg (fun x => e (by rw [x]))]
          · rw [if_neg]
            intro x; simp only [Nat.add_right_cancel_iff] at x; rw [x, hb] at hc; cases hc
          · rw [if_neg]
            intro x; simp only [Nat.add_right_cancel_iff] at x; rw [x, hb] at hc; cases hc
          · rw [ih _ _ _ _ hi]
            rw [hb, hc] at par
            simp only [Nat.add_right_cancel_iff] at par ⊢
            by_cases e : j / 2 = i / 2
            · rw [if_pos e, if_pos (par trivial e)]
            · rw [if_neg e, if_neg (fun x => e (by rw [x]))]
theorem get_set_eq (t : Tr α) {i : Nat} (j : Nat) (v : α) (h : i < 1000001) : (t.set i v).get j = if j = i then some v else t.get j := getF_eq 48 t i j (some v) (by omega)

theorem get_set {t : Tr α} {i j : Nat} {v x : α} (h : (t.set i v).get j = some x) : (j = i ∧ v = x) ∨ (j ≠ i ∧ t.get j = some x) := by
  rcases get_setF _ _ _ _ _ _ h with ⟨a, b⟩ | b
  · exact .inl ⟨a, by simpa using b⟩
  · exact .inr b
theorem get_del {t : Tr α} {i j : Nat} {x : α} (h : (t.del i).get j = some x) : j ≠ i ∧ t.get j = some x := by
  rcases get_setF _ _ _ _ _ _ h with ⟨_, b⟩ | b
  · cases b
  · exact b

theorem get_putAll : ∀ (vs : List α) {t : Tr α} {k j : Nat} {x : α}, (t.putAll k vs).get j = some x →
    (∃ i, j = k + i ∧ vs[i]? = some x) ∨ ((j < k ∨ k + vs.length ≤ j) ∧ t.get j = some x) := by
  intro vs
  induction vs with
  | nil => intro t k j x h; exact .inr ⟨by simp; omega, h⟩
  | cons v vs ih =>
    intro t k j x h
    rcases ih h with ⟨i, hi, hx⟩ | ⟨hj, hx⟩
    · exact .inl ⟨i + 1, by omega, by simpa using hx⟩
    · rcases get_set hx with ⟨a, b⟩ | ⟨a, b⟩
      · exact .inl ⟨0, by omega, by simp [b]⟩
      · refine .inr ⟨?_, b⟩
        simp only [List.length_cons]
        omega

theorem getAll_spec : ∀ (n : Nat) {t : Tr α} {k : Nat} {vs : List α}, t.getAll k n = some vs → vs.length = n ∧ ∀ i, i < n → t.get (k + i) = vs[i]? := by
  intro n
  induction n with
  | zero => intro t k vs h; simp only [getAll_zero, Option.some.injEq] at h; subst h; exact ⟨rfl, fun i hi => absurd hi (Nat.not_lt_zero _)⟩
  | succ n ih =>
    intro t k vs h
    simp only [getAll_succ] at h
    cases hg : t.get k with
    | none => simp [hg] at h
    | some v =>
      simp only [hg] at h
      cases ha : getAll t (k + 1) n with
      | none => simp [ha] at h
      | some us =>
        simp only [ha, Option.some.injEq] at h
        subst h
        obtain ⟨hl, hv⟩ := ih ha
        refine ⟨by simp [hl], fun i hi => ?_⟩
        cases i with
        | zero => simpa using hg
        | succ i =>
          have := hv i (by omega)
          rw [show k + (i + 1) = k + 1 + i from by omega]
          simpa using this
end Tr

/-! ### Numbers -/
theorem ieq_iff (a b : Int) : ieq a b = decide (a = b) := by
  cases a with
  | ofNat a => cases b with
    | ofNat b => simp only [ieq]; rw [Bool.eq_iff_iff]; simp [Nat.beq_eq]; omega
    | negSucc b => simp [ieq]
  | negSucc a => cases b with
    | ofNat b => simp [ieq]
    | negSucc b => simp only [ieq]; rw [Bool.eq_iff_iff]; simp [Nat.beq_eq]
theorem blt_iff (a b : Nat) : Nat.blt a b = decide (a < b) := by
  rw [Bool.eq_iff_iff]; simp [Nat.blt, Nat.ble_eq]; omega
theorem ilt_iff (a b : Int) : ilt a b = decide (a < b) := by
  cases a with
  | ofNat a => cases b with
    | ofNat b => simp only [ilt, blt_iff]; rw [Bool.eq_iff_iff]; simp
    | negSucc b => simp only [ilt]; rw [Bool.eq_iff_iff]; simp; omega
  | negSucc a => cases b with
    | ofNat b => simp only [ilt]; rw [Bool.eq_iff_iff]; simp; omega
    | negSucc b => simp only [ilt, blt_iff]; rw [Bool.eq_iff_iff]; simp; omega
theorem u8beq (a b : UInt8) : Nat.beq a.toNat b.toNat = decide (a = b) := by
  rw [Bool.eq_iff_iff]; simp [Nat.beq_eq, UInt8.toNat_inj]
theorem leq_iff : ∀ (a b : List UInt8), leq a b = decide (a = b)
  | [], [] => rfl
  | [], _ :: _ => by simp [leq]
  | _ :: _, [] => by simp [leq]
  | a :: as, b :: bs => by
    simp only [leq, u8beq, leq_iff as bs]
    by_cases h : a = b <;> simp [h]
theorem llt_iff : ∀ (a b : List UInt8), llt a b = Op.bytesLess a b
  | [], [] => rfl
  | [], _ :: _ => rfl
  | _ :: _, [] => rfl
  | a :: as, b :: bs => by
    simp only [llt, Op.bytesLess, u8beq, llt_iff as bs, blt_iff]
    by_cases h : a.toNat < b.toNat
    · simp [h, UInt8.lt_iff_toNat_lt]
    · by_cases e : a = b <;> simp [h, e, UInt8.lt_iff_toNat_lt]
theorem nth_eq : ∀ (l : List UInt8) (i : Nat), nth l i = l[i]?
  | [], _ => by simp [nth]
  | _ :: _, 0 => by simp [nth]
  | _ :: as, i + 1 => by simp [nth, nth_eq as i]
theorem nthF_eq : ∀ (l : List (Nat × Nat)) (i : Nat), nthF l i = l[i]?
  | [], _ => by simp [nthF]
  | _ :: _, 0 => by simp [nthF]
  | _ :: as, i + 1 => by simp [nthF, nthF_eq as i]
theorem sameKind_iff (j k : IntKind) : sameKind j k = true ↔ j = k := by simp [sameKind]
theorem ble_iff (a b : Nat) : Nat.ble a b = decide (a ≤ b) := by rw [Bool.eq_iff_iff]; simp [Nat.ble_eq]
theorem beq_iff (a b : Nat) : Nat.beq a b = decide (a = b) := by rw [Bool.eq_iff_iff]; simp [Nat.beq_eq]
theorem bitsOf_eq (k : IntKind) (x : Int) : bitsOf k x = (BitVec.ofInt k.bits x).toNat := by
  simp [bitsOf, BitVec.toNat_ofInt]
end Go.Vai
