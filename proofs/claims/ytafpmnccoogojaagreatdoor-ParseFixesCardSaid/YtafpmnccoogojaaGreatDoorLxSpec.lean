/- What a line's words are. -/
import Derived.Test.YtafpmnccoogojaaGreatDoorLxWord
namespace Go.Proofs.YtafpmnccoogojaaGreatDoor
open Go Go.Vai
noncomputable section
def blP (c : UInt8) : Bool := cBlB (cI c)
def preW (L : List (Wd × Nat)) (r : List (Wd × Nat) × Nat × Nat) : List (Wd × Nat) × Nat × Nat := bif Nat.beq r.2.2 0 then (L ++ r.1, 0, 0) else ([], r.2.1, r.2.2)
def lexF : Nat → List UInt8 → Nat → List (Wd × Nat) × Nat × Nat
  | 0, _, _ => ([], 0, 0)
  | n + 1, s, j => bif !(Nat.blt j s.length) || Nat.beq (byteAt s j).toNat 35 then ([], 0, 0) else
    bif blP (byteAt s j) then lexF n s (j + 1) else
    bif Nat.beq (wordR (s.drop j)).2.2 0 then preW [((wordR (s.drop j)).1, j)] (lexF n s (j + (wordR (s.drop j)).2.1)) else ([], j, (wordR (s.drop j)).2.2)
def lexR (s : List UInt8) : List (Wd × Nat) × Nat × Nat := lexF (s.length + 1) s 0
theorem preW_nil (r : List (Wd × Nat) × Nat × Nat) (h : r.2.2 = 0 → r.2.1 = 0) (h2 : r.2.2 ≠ 0 → r.1 = []) : preW [] r = r := by
  obtain ⟨a, b, c⟩ := r
  unfold preW
  cases c with
  | zero => obtain rfl : b = 0 := h rfl; rfl
  | succ c => obtain rfl : a = [] := h2 (by intro h; cases h); rfl
theorem preW_preW (L M : List (Wd × Nat)) (r : List (Wd × Nat) × Nat × Nat) : preW L (preW M r) = preW (L ++ M) r := by
  unfold preW
  cases h : Nat.beq r.2.2 0 with
  | true => simp
  | false => simp [h]
theorem lexF_shape : ∀ (n : Nat) (s : List UInt8) (j : Nat), ((lexF n s j).2.2 = 0 → (lexF n s j).2.1 = 0) ∧ ((lexF n s j).2.2 ≠ 0 → (lexF n s j).1 = [])
  | 0, _, _ => ⟨fun _ => rfl, fun _ => rfl⟩
  | n + 1, s, j => by
    unfold lexF
    cases (!(Nat.blt j s.length) || Nat.beq (byteAt s j).toNat 35) with
    | true => exact ⟨fun _ => rfl, fun _ => rfl⟩
    | false =>
      simp only [cond_false]
      cases blP (byteAt s j) with
      | true => exact lexF_shape n s (j + 1)
      | false =>
        simp only [cond_false]
        cases h : Nat.beq (wordR (s.drop j)).2.2 0 with
        | true =>
          simp only [cond_true]
          unfold preW
          cases h2 : Nat.beq (lexF n s (j + (wordR (s.drop j)).2.1)).2.2 0 with
          | true => exact ⟨fun _ => rfl, fun h => absurd rfl h⟩
          | false =>
            refine ⟨fun h3 => ?_, fun _ => rfl⟩
            simp only [cond_false] at h3
            rw [h3] at h2; cases h2
        | false =>
          refine ⟨fun h3 => ?_, fun _ => rfl⟩
          simp only [cond_false] at h3
          rw [h3] at h; cases h
theorem textL_len : ∀ (s : List UInt8) (p : List UInt8 × Nat), textL s = some p → 1 ≤ p.2 ∧ p.2 ≤ s.length
  | [], p, h => by rw [textL.eq_def] at h; cases h
  | c :: r, p, h => by
    rw [textL.eq_def] at h
    simp only at h
    cases h1 : Nat.beq c.toNat 34 with
    | true =>
      rw [h1] at h
      simp only [cond_true, Option.some.injEq] at h
      subst h
      exact ⟨Nat.le_refl _, Nat.succ_le_succ (Nat.zero_le _)⟩
    | false =>
      rw [h1] at h
      simp only [cond_false] at h
      cases h2 : Nat.beq c.toNat 92 with
      | true =>
        rw [h2] at h
        simp only [cond_true] at h
        cases r with
        | nil => cases h
        | cons d q =>
          simp only at h
          cases h3 : escP d with
          | false => rw [h3] at h; cases h
          | true =>
            rw [h3] at h
            simp only [cond_true] at h
            cases h4 : textL q with
            | none => rw [h4] at h; cases h
            | some x =>
              rw [h4] at h
              simp only [Option.map_some, Option.some.injEq] at h
              subst h
              have := textL_len q x h4
              simp only [List.length_cons]
              omega
      | false =>
        rw [h2] at h
        simp only [cond_false] at h
        cases h3 : (Nat.blt c.toNat 32 || Nat.blt 126 c.toNat) with
        | true => rw [h3] at h; cases h
        | false =>
          rw [h3] at h
          simp only [cond_false] at h
          cases h4 : textL r with
          | none => rw [h4] at h; cases h
          | some x =>
            rw [h4] at h
            simp only [Option.map_some, Option.some.injEq] at h
            subst h
            have := textL_len r x h4
            simp only [List.length_cons]
            omega
theorem beg_go {c : UInt8} (h : begP c = true) : goP c = true := by
  have e : cGoT (cI c) = some (.bool true) := by
    unfold cGoT
    rw [show cBegB (cI c) = true from h]; rfl
  have := cGoT_val (cI c)
  rw [e] at this
  simp only [Option.some.injEq, AV.bool.injEq] at this
  exact this.symm
theorem dig_go {c : UInt8} (h : digP c = true) : goP c = true := by
  have e : cGoT (cI c) = some (.bool true) := by
    unfold cGoT
    rw [show cDigB (cI c) = true from h]
    cases cBegB (cI c) <;> rfl
  have := cGoT_val (cI c)
  rw [e] at this
  simp only [Option.some.injEq, AV.bool.injEq] at this
  exact this.symm
theorem runL_pos {p : UInt8 → Bool} {s : List UInt8} (h1 : 1 ≤ s.length) (h : p (byteAt s 0) = true) : 1 ≤ runL p s := by
  cases s with
  | nil => simp at h1
  | cons c s =>
    unfold runL
    rw [show p c = true from h]
    exact Nat.le_add_left _ _
theorem numB_len {b fr most : Nat} {p : UInt8 → Bool} {s : List UInt8} (h : (numB b fr most p s).2.2 = 0) : (numB b fr most p s).2.1 = fr + runL p (s.drop fr) := by
  unfold numB at h ⊢
  generalize ((Nat.blt (fr + runL p (s.drop fr)) s.length && goP (byteAt s (fr + runL p (s.drop fr)))) || (Nat.beq b 10 && (Nat.blt 1 (runL p (s.drop fr)) && Nat.beq (byteAt s 0).toNat 48))) = x at h ⊢
  cases x with
  | true => simp at h
  | false =>
    simp only [cond_false] at h ⊢
    cases h2 : Nat.blt most (runL p (s.drop fr)) with
    | true => rw [h2] at h; simp at h
    | false =>
      rw [h2] at h
      simp only [cond_false] at h ⊢
      cases h3 : Nat.blt (valD b ((s.drop fr).take (runL p (s.drop fr)))) 18446744073709551616 with
      | false => rw [h3] at h; simp at h
      | true => rfl
theorem numR_len {s : List UInt8} (h1 : 1 ≤ s.length) (hd : digP (byteAt s 0) = true) (h : (numR s).2.2 = 0) : 1 ≤ (numR s).2.1 ∧ (numR s).2.1 ≤ s.length := by
  unfold numR at h ⊢
  cases hx : hexm s with
  | true =>
    rw [hx] at h
    simp only [cond_true] at h ⊢
    rw [numB_len h]
    have := runL_le hexP (s.drop 2)
    rw [List.length_drop] at this
    unfold hexm at hx
    rw [Bool.and_eq_true, Nat.ble_eq] at hx
    omega
  | false =>
    rw [hx] at h
    simp only [cond_false] at h ⊢
    rw [numB_len h]
    have := runL_le digP (s.drop 0)
    have := runL_pos h1 hd
    rw [List.drop_zero] at *
    omega
theorem textR_len {s : List UInt8} (h1 : 1 ≤ s.length) (h : (textR s).2.2 = 0) : 1 ≤ (textR s).2.1 ∧ (textR s).2.1 ≤ s.length := by
  unfold textR at h ⊢
  cases hx : textL (s.drop 1) with
  | none => rw [hx] at h; simp at h
  | some p =>
    have := textL_len _ p hx
    rw [List.length_drop] at this
    simp only
    omega
theorem wordR_len {s : List UInt8} (h1 : 1 ≤ s.length) (h : (wordR s).2.2 = 0) : 1 ≤ (wordR s).2.1 ∧ (wordR s).2.1 ≤ s.length := by
  unfold wordR at h ⊢
  cases hb : begP (byteAt s 0) with
  | true =>
    rw [hb] at h
    simp only [cond_true] at h ⊢
    cases h2 : Nat.blt 128 (runL goP s) with
    | true => rw [h2] at h; simp at h
    | false => exact ⟨runL_pos h1 (beg_go hb), runL_le goP s⟩
  | false =>
    rw [hb] at h
    simp only [cond_false] at h ⊢
    cases hd : digP (byteAt s 0) with
    | true =>
      rw [hd] at h
      exact numR_len h1 hd h
    | false =>
      rw [hd] at h
      simp only [cond_false] at h ⊢
      cases hq : Nat.beq (byteAt s 0).toNat 34 with
      | true =>
        rw [hq] at h
        exact textR_len h1 h
      | false =>
        rw [hq] at h
        simp only [cond_false] at h ⊢
        cases hg : signP (byteAt s 0) with
        | true => exact ⟨Nat.le_refl _, h1⟩
        | false => rw [hg] at h; simp at h
theorem lexF_fuel (s : List UInt8) : ∀ (n m j : Nat), s.length + 1 ≤ n + j → s.length + 1 ≤ m + j → lexF n s j = lexF m s j
  | 0, 0, _, _, _ => rfl
  | 0, m + 1, j, h, _ => by
    unfold lexF
    rw [blt_f (show ¬ j < s.length by omega)]; rfl
  | n + 1, 0, j, _, h => by
    unfold lexF
    rw [blt_f (show ¬ j < s.length by omega)]; rfl
  | n + 1, m + 1, j, h1, h2 => by
    unfold lexF
    by_cases h : j < s.length
    · rw [lexF_fuel s n m (j + 1) (by omega) (by omega)]
      cases he : Nat.beq (wordR (s.drop j)).2.2 0 with
      | false => rfl
      | true =>
        have := (wordR_len (s := s.drop j) (by rw [List.length_drop]; omega) (Nat.eq_of_beq_eq_true he)).1
        rw [lexF_fuel s n m (j + (wordR (s.drop j)).2.1) (by omega) (by omega)]
    · rw [blt_f h]; rfl
end
end Go.Proofs.YtafpmnccoogojaaGreatDoor
