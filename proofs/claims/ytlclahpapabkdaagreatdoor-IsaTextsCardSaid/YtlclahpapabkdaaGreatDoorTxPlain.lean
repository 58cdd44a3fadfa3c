/- Numerals, names and rows of parts tell what they were made of: no program in sight. -/
import Derived.Test.YtlclahpapabkdaaGreatDoorVaiNum
namespace Go.Proofs.YtlclahpapabkdaaGreatDoor
open Go Go.Vai
theorem dec_mem : ∀ (u : Nat), ∀ c ∈ Lib.decDigits u, 48 ≤ c.toNat ∧ c.toNat ≤ 57 := by
  intro u
  induction u using Nat.strongRecOn with
  | _ u ih =>
    intro c hc
    rw [Lib.decDigits] at hc
    split at hc
    · simp only [List.mem_singleton] at hc
      subst hc
      rw [UInt8.toNat_ofNat']
      omega
    · rcases List.mem_append.1 hc with h | h
      · exact ih (u / 10) (by omega) c h
      · simp only [List.mem_singleton] at h
        subst h
        rw [UInt8.toNat_ofNat']
        omega
theorem dec_ne (u : Nat) : Lib.decDigits u ≠ [] := by
  rw [Lib.decDigits]
  split <;> simp
theorem ofNat_inj {a b : Nat} (ha : a < 256) (hb : b < 256) (h : UInt8.ofNat a = UInt8.ofNat b) : a = b := by
  have := congrArg UInt8.toNat h
  rw [UInt8.toNat_ofNat', UInt8.toNat_ofNat'] at this
  omega
theorem dec_inj : ∀ (u v : Nat), Lib.decDigits u = Lib.decDigits v → u = v := by
  intro u
  induction u using Nat.strongRecOn with
  | _ u ih =>
    intro v h
    rw [Lib.decDigits, Lib.decDigits.eq_def v] at h
    split at h <;> split at h
    · simp only [List.cons.injEq, and_true] at h
      have := ofNat_inj (by omega) (by omega) h
      omega
    · have h' : [] ++ [UInt8.ofNat (48 + u)] = Lib.decDigits (v / 10) ++ [UInt8.ofNat (48 + v % 10)] := h
      have := (List.append_inj' h' rfl).1
      exact absurd this.symm (dec_ne _)
    · have h' : Lib.decDigits (u / 10) ++ [UInt8.ofNat (48 + u % 10)] = [] ++ [UInt8.ofNat (48 + v)] := h
      have := (List.append_inj' h' rfl).1
      exact absurd this (dec_ne _)
    · obtain ⟨h1, h2⟩ := List.append_inj' h rfl
      have a := ih (u / 10) (by omega) _ h1
      simp only [List.cons.injEq, and_true] at h2
      have b := ofNat_inj (by omega) (by omega) h2
      omega
theorem itoa_mem (n : Int) : ∀ c ∈ Lib.itoa n, c ≠ 44 ∧ c ≠ 32 := by
  intro c hc
  unfold Lib.itoa at hc
  have key : ∀ u, c ∈ Lib.decDigits u → c ≠ 44 ∧ c ≠ 32 := by
    intro u h
    have := dec_mem u c h
    constructor <;> (rintro rfl; revert this; decide)
  split at hc
  · rcases List.mem_cons.1 hc with rfl | h
    · decide
    · exact key _ h
  · exact key _ hc
theorem itoa_inj {a b : Int} (h : Lib.itoa a = Lib.itoa b) : a = b := by
  have no : ∀ u v, (45 : UInt8) :: Lib.decDigits u ≠ Lib.decDigits v := by
    intro u v h
    have := dec_mem v 45 (by rw [← h]; exact List.mem_cons_self)
    revert this; decide
  unfold Lib.itoa at h
  split at h <;> split at h
  · simp only [List.cons.injEq, true_and] at h
    have := dec_inj _ _ h
    omega
  · exact absurd h (no _ _)
  · exact absurd h.symm (no _ _)
  · have := dec_inj _ _ h
    omega
theorem cut_inj {c : UInt8} : ∀ {a b p q : List UInt8}, c ∉ a → c ∉ b → a ++ c :: p = b ++ c :: q → a = b ∧ p = q
  | [], [], _, _, _, _, h => by
    simp only [List.nil_append, List.cons.injEq, true_and] at h
    exact ⟨rfl, h⟩
  | [], y :: b, _, _, _, hb, h => by
    simp only [List.nil_append, List.cons_append, List.cons.injEq] at h
    exact absurd (by rw [h.1]; exact List.mem_cons_self) hb
  | x :: a, [], _, _, ha, _, h => by
    simp only [List.nil_append, List.cons_append, List.cons.injEq] at h
    exact absurd (by rw [h.1]; exact List.mem_cons_self) ha
  | x :: a, y :: b, p, q, ha, hb, h => by
    simp only [List.cons_append, List.cons.injEq] at h
    obtain ⟨e1, e2⟩ := cut_inj (fun m => ha (List.mem_cons_of_mem _ m)) (fun m => hb (List.mem_cons_of_mem _ m)) h.2
    exact ⟨by rw [h.1, e1], e2⟩
theorem no_cut {c : UInt8} {a b q : List UInt8} (ha : c ∉ a) (h : a = b ++ c :: q) : False := ha (by rw [h]; simp)
theorem joinTail_cons (sep x : List UInt8) (r : List (List UInt8)) : Lib.joinTail sep (x :: r) = sep ++ x ++ Lib.joinTail sep r := by simp [Lib.joinTail]
theorem parts_inj : ∀ {xs ys : List (List UInt8)}, xs.length = ys.length → (∀ x ∈ xs, 44 ∉ x) → (∀ y ∈ ys, 44 ∉ y) → joinV xs [44, 32] = joinV ys [44, 32] → xs = ys
  | [], [], _, _, _, _ => rfl
  | [], _ :: _, h, _, _, _ => by simp at h
  | _ :: _, [], h, _, _, _ => by simp at h
  | [x], [y], _, _, _, h => by
    unfold joinV at h
    rw [Lib.join_one, Lib.join_one] at h
    rw [h]
  | [_], _ :: _ :: _, h, _, _, _ => by simp at h
  | _ :: _ :: _, [_], h, _, _, _ => by simp at h
  | x :: x2 :: xs, y :: y2 :: ys, hl, hx, hy, h => by
    unfold joinV at h
    rw [Lib.join_cons, Lib.join_cons, joinTail_cons, joinTail_cons] at h
    have h' : x ++ 44 :: (32 :: (x2 ++ Lib.joinTail [44, 32] xs)) = y ++ 44 :: (32 :: (y2 ++ Lib.joinTail [44, 32] ys)) := by simpa using h
    obtain ⟨e1, e2⟩ := cut_inj (hx x List.mem_cons_self) (hy y List.mem_cons_self) h'
    simp only [List.cons.injEq, true_and] at e2
    have e3 : joinV (x2 :: xs) [44, 32] = joinV (y2 :: ys) [44, 32] := by
      unfold joinV
      rw [Lib.join_cons, Lib.join_cons]; exact e2
    have := parts_inj (by simpa using hl) (fun a m => hx a (List.mem_cons_of_mem _ m)) (fun a m => hy a (List.mem_cons_of_mem _ m)) e3
    rw [e1, this]
end Go.Proofs.YtlclahpapabkdaaGreatDoor
