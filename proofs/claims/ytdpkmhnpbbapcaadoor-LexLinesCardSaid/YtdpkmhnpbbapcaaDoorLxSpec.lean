/- What a line's words are. -/
import Derived.Test.YtdpkmhnpbbapcaaDoorLxWord
namespace Go.Proofs.YtdpkmhnpbbapcaaDoor
open Go Go.Vai
noncomputable section
def blP (c : UInt8) : Bool := Zf9 (cI c)
def Zc4 (L : List (Wd × Nat)) (r : List (Wd × Nat) × Nat × Nat) : List (Wd × Nat) × Nat × Nat := bif Nat.beq r.2.2 0 then (L ++ r.1, 0, 0) else ([], r.2.1, r.2.2)
def Vx : Nat → List UInt8 → Nat → List (Wd × Nat) × Nat × Nat
  | 0, _, _ => ([], 0, 0)
  | n + 1, s, j => bif !(Nat.blt j s.length) || Nat.beq (Za s j).toNat 35 then ([], 0, 0) else
    bif blP (Za s j) then Vx n s (j + 1) else
    bif Nat.beq (Z3 (s.drop j)).2.2 0 then Zc4 [((Z3 (s.drop j)).1, j)] (Vx n s (j + (Z3 (s.drop j)).2.1)) else ([], j, (Z3 (s.drop j)).2.2)
def Ye (s : List UInt8) : List (Wd × Nat) × Nat × Nat := Vx (s.length + 1) s 0
theorem Zq8 (r : List (Wd × Nat) × Nat × Nat) (h : r.2.2 = 0 → r.2.1 = 0) (h2 : r.2.2 ≠ 0 → r.1 = []) : Zc4 [] r = r := by
  obtain ⟨a, b, c⟩ := r
  unfold Zc4
  cases c with
  | zero => obtain rfl : b = 0 := h rfl; rfl
  | succ c => obtain rfl : a = [] := h2 (by intro h; cases h); rfl
theorem Zln (L M : List (Wd × Nat)) (r : List (Wd × Nat) × Nat × Nat) : Zc4 L (Zc4 M r) = Zc4 (L ++ M) r := by
  unfold Zc4
  cases h : Nat.beq r.2.2 0 with
  | true => simp
  | false => simp [h]
theorem Qo : ∀ (n : Nat) (s : List UInt8) (j : Nat), ((Vx n s j).2.2 = 0 → (Vx n s j).2.1 = 0) ∧ ((Vx n s j).2.2 ≠ 0 → (Vx n s j).1 = [])
  | 0, _, _ => ⟨fun _ => rfl, fun _ => rfl⟩
  | n + 1, s, j => by
    unfold Vx
    cases (!(Nat.blt j s.length) || Nat.beq (Za s j).toNat 35) with
    | true => exact ⟨fun _ => rfl, fun _ => rfl⟩
    | false =>
      simp only [cond_false]
      cases blP (Za s j) with
      | true => exact Qo n s (j + 1)
      | false =>
        simp only [cond_false]
        cases h : Nat.beq (Z3 (s.drop j)).2.2 0 with
        | true =>
          simp only [cond_true]
          unfold Zc4
          cases h2 : Nat.beq (Vx n s (j + (Z3 (s.drop j)).2.1)).2.2 0 with
          | true => exact ⟨fun _ => rfl, fun h => absurd rfl h⟩
          | false =>
            refine ⟨fun h3 => ?_, fun _ => rfl⟩
            simp only [cond_false] at h3
            rw [h3] at h2; cases h2
        | false =>
          refine ⟨fun h3 => ?_, fun _ => rfl⟩
          simp only [cond_false] at h3
          rw [h3] at h; cases h
theorem Zhd : ∀ (s : List UInt8) (p : List UInt8 × Nat), X8 s = some p → 1 ≤ p.2 ∧ p.2 ≤ s.length
  | [], p, h => by rw [X8.eq_def] at h; cases h
  | c :: r, p, h => by
    rw [X8.eq_def] at h
    simp only at h
    cases h1 : Nat.beq c.toNat 34 with
    | true =>
      rw [h1] at h
      simp only [cond_true, Option.some.injEq] at h
      subst h
      exact ⟨Nat.le_refl _, Nat.succ_le_succ (Nat.zero_le _)⟩
    | false =>
      rw [h1] at h
      simp only [cond_false] at h
      cases h2 : Nat.beq c.toNat 92 with
      | true =>
        rw [h2] at h
        simp only [cond_true] at h
        cases r with
        | nil => cases h
        | cons d q =>
          simp only at h
          cases h3 : Zef d with
          | false => rw [h3] at h; cases h
          | true =>
            rw [h3] at h
            simp only [cond_true] at h
            cases h4 : X8 q with
            | none => rw [h4] at h; cases h
            | some x =>
              rw [h4] at h
              simp only [Option.map_some, Option.some.injEq] at h
              subst h
              have := Zhd q x h4
              simp only [List.length_cons]
              omega
      | false =>
        rw [h2] at h
        simp only [cond_false] at h
        cases h3 : (Nat.blt c.toNat 32 || Nat.blt 126 c.toNat) with
        | true => rw [h3] at h; cases h
        | false =>
          rw [h3] at h
          simp only [cond_false] at h
          cases h4 : X8 r with
          | none => rw [h4] at h; cases h
          | some x =>
            rw [h4] at h
            simp only [Option.map_some, Option.some.injEq] at h
            subst h
            have := Zhd r x h4
            simp only [List.length_cons]
            omega
theorem Ydo {c : UInt8} (h : Zh6 c = true) : Qq c = true := by
  have e : Zpx (cI c) = some (.bool true) := by
    unfold Zpx
    rw [show Zeo (cI c) = true from h]; rfl
  have := Zpr (cI c)
  rw [e] at this
  simp only [Option.some.injEq, AV.bool.injEq] at this
  exact this.symm
theorem Zo8 {p : UInt8 → Bool} {s : List UInt8} (h1 : 1 ≤ s.length) (h : p (Za s 0) = true) : 1 ≤ Zi p s := by
  cases s with
  | nil => simp at h1
  | cons c s =>
    unfold Zi
    rw [show p c = true from h]
    exact Nat.le_add_left _ _
theorem Zqs {b fr most : Nat} {p : UInt8 → Bool} {s : List UInt8} (h : (Zbl b fr most p s).2.2 = 0) : (Zbl b fr most p s).2.1 = fr + Zi p (s.drop fr) := by
  unfold Zbl at h ⊢
  generalize ((Nat.blt (fr + Zi p (s.drop fr)) s.length && Qq (Za s (fr + Zi p (s.drop fr)))) || (Nat.beq b 10 && (Nat.blt 1 (Zi p (s.drop fr)) && Nat.beq (Za s 0).toNat 48))) = x at h ⊢
  cases x with
  | true => simp at h
  | false =>
    simp only [cond_false] at h ⊢
    cases h2 : Nat.blt most (Zi p (s.drop fr)) with
    | true => rw [h2] at h; simp at h
    | false =>
      rw [h2] at h
      simp only [cond_false] at h ⊢
      cases h3 : Nat.blt (Ym b ((s.drop fr).take (Zi p (s.drop fr)))) 18446744073709551616 with
      | false => rw [h3] at h; simp at h
      | true => rfl
theorem Z1q {s : List UInt8} (h1 : 1 ≤ s.length) (hd : Z1 (Za s 0) = true) (h : (Qy s).2.2 = 0) : 1 ≤ (Qy s).2.1 ∧ (Qy s).2.1 ≤ s.length := by
  unfold Qy at h ⊢
  cases hx : Zew s with
  | true =>
    rw [hx] at h
    simp only [cond_true] at h ⊢
    rw [Zqs h]
    have := X4 Z9 (s.drop 2)
    rw [List.length_drop] at this
    unfold Zew at hx
    rw [Bool.and_eq_true, Nat.ble_eq] at hx
    omega
  | false =>
    rw [hx] at h
    simp only [cond_false] at h ⊢
    rw [Zqs h]
    have := X4 Z1 (s.drop 0)
    have := Zo8 h1 hd
    rw [List.drop_zero] at *
    omega
theorem Zwj {s : List UInt8} (h1 : 1 ≤ s.length) (h : (Y9 s).2.2 = 0) : 1 ≤ (Y9 s).2.1 ∧ (Y9 s).2.1 ≤ s.length := by
  unfold Y9 at h ⊢
  cases hx : X8 (s.drop 1) with
  | none => rw [hx] at h; simp at h
  | some p =>
    have := Zhd _ p hx
    rw [List.length_drop] at this
    simp only
    omega
theorem Ks {s : List UInt8} (h1 : 1 ≤ s.length) (h : (Z3 s).2.2 = 0) : 1 ≤ (Z3 s).2.1 ∧ (Z3 s).2.1 ≤ s.length := by
  unfold Z3 at h ⊢
  cases hb : Zh6 (Za s 0) with
  | true =>
    rw [hb] at h
    simp only [cond_true] at h ⊢
    cases h2 : Nat.blt 128 (Zi Qq s) with
    | true => rw [h2] at h; simp at h
    | false => exact ⟨Zo8 h1 (Ydo hb), X4 Qq s⟩
  | false =>
    rw [hb] at h
    simp only [cond_false] at h ⊢
    cases hd : Z1 (Za s 0) with
    | true =>
      rw [hd] at h
      exact Z1q h1 hd h
    | false =>
      rw [hd] at h
      simp only [cond_false] at h ⊢
      cases hq : Nat.beq (Za s 0).toNat 34 with
      | true =>
        rw [hq] at h
        exact Zwj h1 h
      | false =>
        rw [hq] at h
        simp only [cond_false] at h ⊢
        cases hg : Zkg (Za s 0) with
        | true => exact ⟨Nat.le_refl _, h1⟩
        | false => rw [hg] at h; simp at h
theorem Zea (s : List UInt8) : ∀ (n m j : Nat), s.length + 1 ≤ n + j → s.length + 1 ≤ m + j → Vx n s j = Vx m s j
  | 0, 0, _, _, _ => rfl
  | 0, m + 1, j, h, _ => by
    unfold Vx
    rw [Yg (show ¬ j < s.length by omega)]; rfl
  | n + 1, 0, j, _, h => by
    unfold Vx
    rw [Yg (show ¬ j < s.length by omega)]; rfl
  | n + 1, m + 1, j, h1, h2 => by
    unfold Vx
    by_cases h : j < s.length
    · rw [Zea s n m (j + 1) (by omega) (by omega)]
      cases he : Nat.beq (Z3 (s.drop j)).2.2 0 with
      | false => rfl
      | true =>
        have := (Ks (s := s.drop j) (by rw [List.length_drop]; omega) (Nat.eq_of_beq_eq_true he)).1
        rw [Zea s n m (j + (Z3 (s.drop j)).2.1) (by omega) (by omega)]
    · rw [Yg h]; rfl
end
end Go.Proofs.YtdpkmhnpbbapcaaDoor
