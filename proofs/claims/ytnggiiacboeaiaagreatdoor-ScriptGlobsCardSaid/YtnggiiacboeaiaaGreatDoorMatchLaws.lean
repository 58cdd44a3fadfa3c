/- Laws of what Match answers: a star fits anything, a name without signs just itself, globs of parts the whole. -/
import Derived.Test.YtnggiiacboeaiaaGreatDoorMatchRows
namespace Go.Proofs.YtnggiiacboeaiaaGreatDoor
open Go Go.Vai
theorem nth_get : ∀ (s : List UInt8) (i : Nat), nth s i = s[i]?
  | [], _ => by simp [nth]
  | _ :: _, 0 => rfl
  | _ :: s, i + 1 => by simpa [nth] using nth_get s i
theorem byteAt_left {a b : List UInt8} {i : Nat} (h : i < a.length) : byteAt (a ++ b) i = byteAt a i := by
  unfold byteAt; rw [nth_get, nth_get, List.getElem?_append_left h]
theorem byteAt_right {a b : List UInt8} (i : Nat) : byteAt (a ++ b) (a.length + i) = byteAt b i := by
  unfold byteAt; rw [nth_get, nth_get, List.getElem?_append_right (by omega)]; congr 2; omega
theorem byteAt_eq {a : List UInt8} {i : Nat} (h : i < a.length) : byteAt a i = a[i] := by
  unfold byteAt; rw [nth_get, List.getElem?_eq_getElem h]; rfl
theorem lenU_eq (a : List UInt8) : lenU a = a.length := rfl

/-- A star: whatever fitted a shorter front. -/
theorem row_star {g s : List UInt8} {i : Nat} (h : byteAt g i = 42) {j : Nat} (hj : rowsB g s i j = true) : ∀ {k : Nat}, j ≤ k → rowsB g s (i + 1) k = true := by
  intro k hk
  have hs : Nat.beq (byteAt g i).toNat 42 = true := by rw [h]; rfl
  induction k with
  | zero =>
    obtain rfl : j = 0 := by omega
    show stepB (byteAt g i) s (rowsB g s i) 0 = true
    simp only [stepB, hs, cond_true, hj]
  | succ k ih =>
    show stepB (byteAt g i) s (rowsB g s i) (k + 1) = true
    simp only [stepB, hs, cond_true]
    by_cases e : j = k + 1
    · rw [← e, hj]; rfl
    · have : stepB (byteAt g i) s (rowsB g s i) k = true := ih (by omega)
      rw [this, Bool.or_true]
/-- A letter that stands in both. -/
theorem row_letter {g s : List UInt8} {i k : Nat} (hc : byteAt g i = byteAt s k) (h : rowsB g s i k = true) : rowsB g s (i + 1) (k + 1) = true := by
  cases hs : Nat.beq (byteAt g i).toNat 42 with
  | true =>
    rw [Nat.beq_eq] at hs
    exact row_star (UInt8.toNat_inj.1 hs) h (by omega)
  | false =>
    show stepB (byteAt g i) s (rowsB g s i) (k + 1) = true
    simp only [stepB, hs, cond_false, h, ← hc, beq_t rfl, Bool.or_true, Bool.and_self]
/-- A run of letters. -/
theorem row_run {g s : List UInt8} {i k : Nat} : ∀ {n : Nat}, (∀ m, m < n → byteAt g (i + m) = byteAt s (k + m)) → rowsB g s i k = true → rowsB g s (i + n) (k + n) = true
  | 0, _, h => h
  | n + 1, hc, h => row_letter (hc n (by omega)) (row_run (fun m hm => hc m (by omega)) h)

theorem row_start (g s : List UInt8) : rowsB g s 0 0 = true := rfl
theorem match_star (a : List UInt8) : matchB [42] a = true := row_star (i := 0) rfl (row_start _ _) (Nat.zero_le _)
theorem match_self (a : List UInt8) : matchB a a = true := by
  have := row_run (g := a) (s := a) (i := 0) (k := 0) (n := a.length) (fun _ _ => rfl) (row_start a a)
  simpa [matchB, lenU_eq] using this
theorem match_front (a b : List UInt8) : matchB (a ++ [42]) (a ++ b) = true := by
  have h := row_run (g := a ++ [42]) (s := a ++ b) (i := 0) (k := 0) (n := a.length) (fun m hm => by
    rw [Nat.zero_add, byteAt_left hm, byteAt_left hm]) (row_start _ _)
  have := row_star (k := (a ++ b).length) (by have := byteAt_right (a := a) (b := [42]) 0; rw [Nat.add_zero] at this; rw [Nat.zero_add, this]; rfl) h (by simp)
  simpa [matchB, lenU_eq] using this
theorem match_back (a b : List UInt8) : matchB (42 :: a) (b ++ a) = true := by
  have h := row_star (g := 42 :: a) (s := b ++ a) (i := 0) (k := b.length) rfl (row_start _ _) (Nat.zero_le _)
  have := row_run (n := a.length) (fun m hm => by
    rw [byteAt_right]
    have := byteAt_right (a := [(42 : UInt8)]) (b := a) m
    simpa [Nat.add_comm] using this) h
  rw [matchB, lenU_eq, lenU_eq]
  simpa [Nat.add_comm] using this
theorem match_mid (a b c : List UInt8) : matchB (42 :: (a ++ [42])) (b ++ a ++ c) = true := by
  have h := row_star (g := 42 :: (a ++ [42])) (s := b ++ a ++ c) (i := 0) (k := b.length) rfl (row_start _ _) (Nat.zero_le _)
  have h2 := row_run (n := a.length) (fun m hm => by
    rw [List.append_assoc, byteAt_right, byteAt_left hm]
    have := byteAt_right (a := [(42 : UInt8)]) (b := a ++ [42]) m
    rw [byteAt_left hm] at this
    simpa [Nat.add_comm] using this) h
  have h3 := row_star (k := (b ++ a ++ c).length) (by
    have := byteAt_right (a := 42 :: a) (b := [(42 : UInt8)]) 0
    simp only [List.length_cons, Nat.add_zero, List.cons_append] at this
    rw [Nat.add_comm 0 1, Nat.add_comm 1, this]; rfl) h2 (by simp)
  rw [matchB, lenU_eq, lenU_eq]
  simpa [Nat.add_comm, Nat.add_assoc, Nat.add_left_comm] using h3
/-- A glob without signs. -/
def plainB (a : List UInt8) (n : Nat) : Prop := ∀ i, i < n → byteAt a i ≠ 42 ∧ byteAt a i ≠ 63
theorem row_plain {a s : List UInt8} : ∀ {n : Nat}, plainB a n → ∀ k, rowsB a s n k = decide (k = n ∧ ∀ i, i < n → byteAt a i = byteAt s i)
  | 0, _, k => by
    show Nat.beq k 0 = _
    by_cases h : k = 0
    · subst h; rw [beq_t rfl]; simp
    · rw [beq_f h]; simp [h]
  | n + 1, hp, k => by
    have ih := row_plain (s := s) (n := n) (fun i hi => hp i (by omega))
    obtain ⟨h1, h2⟩ := hp n (by omega)
    have e1 : Nat.beq (byteAt a n).toNat 42 = false := beq_f fun h => h1 (UInt8.toNat_inj.1 h)
    have e2 : Nat.beq (byteAt a n).toNat 63 = false := beq_f fun h => h2 (UInt8.toNat_inj.1 h)
    show stepB (byteAt a n) s (rowsB a s n) k = _
    cases k with
    | zero => simp [stepB, e1]
    | succ k =>
      simp only [stepB, e1, e2, cond_false, Bool.false_or, ih k]
      by_cases hk : k = n
      · subst hk
        by_cases hl : byteAt a k = byteAt s k
        · rw [beq_t (by rw [hl]), Bool.and_true]
          congr 1
          refine propext ⟨fun ⟨_, h⟩ => ⟨rfl, fun i hi => ?_⟩, fun ⟨_, h⟩ => ⟨rfl, fun i hi => h i (by omega)⟩⟩
          by_cases e : i = k
          · subst e; exact hl
          · exact h i (by omega)
        · rw [beq_f fun h => hl (UInt8.toNat_inj.1 h), Bool.and_false]
          symm
          simp only [decide_eq_false_iff_not]
          rintro ⟨_, h⟩
          exact hl (h k (by omega))
      · simp [hk]
theorem match_plain {a b : List UInt8} (hp : plainB a a.length) : matchB a b = leq a b := by
  rw [matchB, lenU_eq, lenU_eq, row_plain hp, leq_iff]
  congr 1
  refine propext ⟨fun ⟨hl, h⟩ => ?_, fun h => ?_⟩
  · refine List.ext_getElem hl.symm fun i h1 h2 => ?_
    have := h i h1
    rwa [byteAt_eq h1, byteAt_eq h2] at this
  · subst h; exact ⟨rfl, fun _ _ => rfl⟩
end Go.Proofs.YtnggiiacboeaiaaGreatDoor
