/- What a word is hangs on its own bytes alone. -/
import Derived.Test.YtafpmnccoogojaaGreatDoorLxSpec
import Derived.KernelRfl
namespace Go.Proofs.YtafpmnccoogojaaGreatDoor
open Go Go.Vai
noncomputable section
set_option maxRecDepth 100000
theorem byte_all : ((List.range 256).all fun n => (!(cBlB (.ofNat n)) || !(cGoB (.ofNat n))) && ((!(cBlB (.ofNat n)) || !(Nat.beq n 35)) && ((!(cHexB (.ofNat n)) || cGoB (.ofNat n)) && (!(cDigB (.ofNat n)) || !(Nat.beq n 120))))) = true := by kernel_rfl
theorem byte_at (c : UInt8) : ((!(blP c) || !(goP c)) && ((!(blP c) || !(Nat.beq c.toNat 35)) && ((!(hexP c) || goP c) && (!(digP c) || !(Nat.beq c.toNat 120))))) = true := List.all_eq_true.1 byte_all c.toNat (List.mem_range.2 c.toNat_lt)
theorem bl_go {c : UInt8} (h : blP c = true) : goP c = false := by
  have := byte_at c
  cases hg : goP c with
  | false => rfl
  | true => rw [h, hg] at this; simp at this
theorem bl_35 {c : UInt8} (h : blP c = true) : Nat.beq c.toNat 35 = false := by
  have := byte_at c
  cases hg : Nat.beq c.toNat 35 with
  | false => rfl
  | true => rw [h, hg] at this; simp at this
theorem hex_go {c : UInt8} (h : hexP c = true) : goP c = true := by
  have := byte_at c
  cases hg : goP c with
  | true => rfl
  | false => rw [h, hg] at this; simp at this
theorem dig_x {c : UInt8} (h : digP c = true) : c ≠ 120 := fun e => by
  have := byte_at c
  rw [h] at this
  subst e
  simp only [Bool.not_true, Bool.false_or, Bool.and_eq_true] at this
  exact absurd this.2.2.2 (by decide)
theorem go_x : goP 120 = true := by kernel_rfl
theorem bl_32 : blP 32 = true := by kernel_rfl
def endT (t : List UInt8) : Prop := t = [] ∨ goP (byteAt t 0) = false
theorem byteAt_app {s t : List UInt8} (h : 1 ≤ s.length) : byteAt (s ++ t) 0 = byteAt s 0 := by
  cases s with
  | nil => simp at h
  | cons c s => rfl
theorem byteAt_take {s : List UInt8} {n : Nat} (h : 1 ≤ n) : byteAt (s.take n) 0 = byteAt s 0 := by
  cases s with
  | nil => simp
  | cons c s =>
    cases n with
    | zero => omega
    | succ n => rfl
theorem byteAt_at {s t : List UInt8} : byteAt (s ++ t) s.length = byteAt t 0 := by
  have := byteAt_drop (s ++ t) s.length 0
  rw [List.drop_left, Nat.add_zero] at this
  exact this.symm
theorem runL_zero {p : UInt8 → Bool} {t : List UInt8} (h : t = [] ∨ p (byteAt t 0) = false) : runL p t = 0 := by
  cases t with
  | nil => rfl
  | cons c t =>
    rcases h with h | h
    · cases h
    · unfold runL
      rw [show p c = false from h]; rfl
theorem runL_cut {p : UInt8 → Bool} {t : List UInt8} (h : t = [] ∨ p (byteAt t 0) = false) : ∀ u : List UInt8, runL p (u.take (runL p u) ++ t) = runL p u
  | [] => by simp only [List.take_nil, List.nil_append]; exact runL_zero h
  | c :: u => by
    have e : runL p (c :: u) = bif p c then runL p u + 1 else 0 := rfl
    rw [e]
    cases hc : p c with
    | true =>
      simp only [cond_true, List.take_succ_cons, List.cons_append]
      show (bif p c then runL p (u.take (runL p u) ++ t) + 1 else 0) = _
      rw [hc, runL_cut h u]; rfl
    | false => simp only [cond_false, List.take_zero, List.nil_append]; exact runL_zero h
theorem endT_p {p : UInt8 → Bool} (hp : ∀ c, p c = true → goP c = true) {t : List UInt8} (h : endT t) : t = [] ∨ p (byteAt t 0) = false := by
  rcases h with h | h
  · exact .inl h
  · refine .inr ?_
    cases hc : p (byteAt t 0) with
    | false => rfl
    | true => rw [hp _ hc] at h; cases h
theorem numB_end {b fr most : Nat} {p : UInt8 → Bool} {s : List UInt8} (h : (numB b fr most p s).2.2 = 0) : (Nat.blt (fr + runL p (s.drop fr)) s.length && goP (byteAt s (fr + runL p (s.drop fr)))) = false ∧ (Nat.beq b 10 && (Nat.blt 1 (runL p (s.drop fr)) && Nat.beq (byteAt s 0).toNat 48)) = false := by
  unfold numB at h
  cases hx : ((Nat.blt (fr + runL p (s.drop fr)) s.length && goP (byteAt s (fr + runL p (s.drop fr)))) || (Nat.beq b 10 && (Nat.blt 1 (runL p (s.drop fr)) && Nat.beq (byteAt s 0).toNat 48))) with
  | true => rw [hx] at h; simp at h
  | false => exact Bool.or_eq_false_iff.1 hx
theorem cut_eq {s t : List UInt8} {fr r : Nat} (h : fr + r ≤ s.length) : (s.take (fr + r) ++ t).drop fr = (s.drop fr).take r ++ t := by
  rw [List.drop_append_of_le_length (by rw [List.length_take]; omega), List.drop_take, Nat.add_sub_cancel_left]
theorem numB_loc {b fr most : Nat} {p : UInt8 → Bool} (hp : ∀ c, p c = true → goP c = true) {s t : List UInt8} (h : (numB b fr most p s).2.2 = 0) (hf : fr ≤ s.length) (h1 : 1 ≤ fr + runL p (s.drop fr)) (ht : endT t) : numB b fr most p (s.take (fr + runL p (s.drop fr)) ++ t) = numB b fr most p s := by
  obtain ⟨e0, e00⟩ := numB_end h
  have hr := runL_le p (s.drop fr)
  rw [List.length_drop] at hr
  have e1 := cut_eq (t := t) (s := s) (fr := fr) (r := runL p (s.drop fr)) (by omega)
  have e2 := runL_cut (endT_p hp ht) (s.drop fr)
  have e3 : ((s.drop fr).take (runL p (s.drop fr)) ++ t).take (runL p (s.drop fr)) = (s.drop fr).take (runL p (s.drop fr)) := by
    rw [List.take_append_of_le_length (by rw [List.length_take, List.length_drop]; omega), List.take_take, Nat.min_self]
  have hl : (s.take (fr + runL p (s.drop fr))).length = fr + runL p (s.drop fr) := by rw [List.length_take]; omega
  have e4 : (Nat.blt (fr + runL p (s.drop fr)) (s.take (fr + runL p (s.drop fr)) ++ t).length && goP (byteAt (s.take (fr + runL p (s.drop fr)) ++ t) (fr + runL p (s.drop fr)))) = false := by
    have : byteAt (s.take (fr + runL p (s.drop fr)) ++ t) (fr + runL p (s.drop fr)) = byteAt t 0 := by
      have := byteAt_at (s := s.take (fr + runL p (s.drop fr))) (t := t)
      rwa [hl] at this
    rw [this]
    rcases ht with rfl | h
    · rw [List.append_nil, hl, blt_f (Nat.lt_irrefl _)]; rfl
    · rw [h, Bool.and_false]
  have e5 : byteAt (s.take (fr + runL p (s.drop fr)) ++ t) 0 = byteAt s 0 := by rw [byteAt_app (by omega), byteAt_take h1]
  unfold numB
  rw [e1, e2, e3, e4, e5, e0]
theorem numR_loc {s t : List UInt8} (h1 : 1 ≤ s.length) (hd : digP (byteAt s 0) = true) (h : (numR s).2.2 = 0) (ht : endT t) : numR (s.take (numR s).2.1 ++ t) = numR s := by
  unfold numR at h ⊢
  cases hx : hexm s with
  | true =>
    rw [hx] at h
    simp only [cond_true] at h ⊢
    have hx2 := hx
    unfold hexm at hx2
    simp only [Bool.and_eq_true, Nat.ble_eq] at hx2
    rw [numB_len h]
    have hr := runL_le hexP (s.drop 2)
    rw [List.length_drop] at hr
    have : hexm (s.take (2 + runL hexP (s.drop 2)) ++ t) = true := by
      unfold hexm
      rw [cut_eq (by omega), runL_cut (endT_p (fun c => hex_go) ht), hx2.2.2, List.take_append_of_le_length (by rw [List.length_take]; omega), List.take_take, show min 2 (2 + runL hexP (s.drop 2)) = 2 by omega, hx2.2.1, Bool.and_eq_true, Nat.ble_eq, List.length_append, List.length_take]
      exact ⟨by omega, rfl⟩
    rw [this]
    exact numB_loc (fun c => hex_go) h hx2.1 (by omega) ht
  | false =>
    rw [hx] at h
    simp only [cond_false] at h ⊢
    rw [numB_len h]
    have hr := runL_le digP s
    have hp := runL_pos h1 hd
    have : hexm (s.take (0 + runL digP (s.drop 0)) ++ t) = false := by
      rw [List.drop_zero, Nat.zero_add]
      cases hm : hexm (s.take (runL digP s) ++ t) with
      | false => rfl
      | true =>
        exfalso
        unfold hexm at hm
        simp only [Bool.and_eq_true, Nat.ble_eq] at hm
        obtain ⟨l2, h2, _⟩ := hm
        rw [leq_iff, decide_eq_true_eq] at h2
        have hb : byteAt (s.take (runL digP s) ++ t) 1 = 120 := by
          generalize s.take (runL digP s) ++ t = x at h2 l2
          match x, l2, h2 with
          | a :: b :: r, _, h2 => simp only [List.take_succ_cons, List.take_zero, List.cons.injEq] at h2; exact h2.2.1
        have hc := runL_cut (endT_p (fun c => dig_go) ht) s
        by_cases h3 : 2 ≤ runL digP s
        · have := runL_lt (p := digP) (s := s.take (runL digP s) ++ t) (k := 1) (by rw [hc]; omega)
          rw [hb] at this
          exact dig_x this rfl
        · have h4 : runL digP s = 1 := by omega
          have h5 : (s.take (runL digP s)).length = 1 := by rw [List.length_take, h4]; omega
          have := byteAt_at (s := s.take (runL digP s)) (t := t)
          rw [h5, hb] at this
          rcases ht with rfl | ht
          · rw [List.append_nil] at l2; omega
          · rw [← this, go_x] at ht; cases ht
    rw [this]
    exact numB_loc (fun c => dig_go) h (Nat.zero_le _) (by rw [List.drop_zero, Nat.zero_add]; exact hp) ht
theorem textL_loc (t : List UInt8) : ∀ (s : List UInt8) (p : List UInt8 × Nat), textL s = some p → textL (s.take p.2 ++ t) = some p
  | [], p, h => by rw [textL.eq_def] at h; cases h
  | c :: r, p, h => by
    rw [textL.eq_def] at h
    simp only at h
    cases h1 : Nat.beq c.toNat 34 with
    | true =>
      rw [h1] at h
      simp only [cond_true, Option.some.injEq] at h
      subst h
      rw [List.take_succ_cons, List.cons_append, textL.eq_def]
      simp only [h1, cond_true]
    | false =>
      rw [h1] at h
      simp only [cond_false] at h
      cases h2 : Nat.beq c.toNat 92 with
      | true =>
        rw [h2] at h
        simp only [cond_true] at h
        cases r with
        | nil => cases h
        | cons d q =>
          simp only at h
          cases h3 : escP d with
          | false => rw [h3] at h; cases h
          | true =>
            rw [h3] at h
            simp only [cond_true] at h
            cases h4 : textL q with
            | none => rw [h4] at h; cases h
            | some x =>
              rw [h4] at h
              simp only [Option.map_some, Option.some.injEq] at h
              subst h
              rw [List.take_succ_cons, List.take_succ_cons, List.cons_append, List.cons_append, textL.eq_def]
              simp only [h1, h2, h3, cond_true, cond_false, textL_loc t q x h4, Option.map_some]
      | false =>
        rw [h2] at h
        simp only [cond_false] at h
        cases h3 : (Nat.blt c.toNat 32 || Nat.blt 126 c.toNat) with
        | true => rw [h3] at h; cases h
        | false =>
          rw [h3] at h
          simp only [cond_false] at h
          cases h4 : textL r with
          | none => rw [h4] at h; cases h
          | some x =>
            rw [h4] at h
            simp only [Option.map_some, Option.some.injEq] at h
            subst h
            rw [List.take_succ_cons, List.cons_append, textL.eq_def]
            simp only [h1, h2, h3, cond_false, textL_loc t r x h4, Option.map_some]
theorem textR_loc {s t : List UInt8} (h1 : 1 ≤ s.length) (h : (textR s).2.2 = 0) : textR (s.take (textR s).2.1 ++ t) = textR s := by
  cases s with
  | nil => simp at h1
  | cons c r =>
    unfold textR at h ⊢
    rw [List.drop_succ_cons, List.drop_zero] at h ⊢
    cases hx : textL r with
    | none => rw [hx] at h; simp at h
    | some p =>
      simp only [List.take_succ_cons, List.cons_append, List.drop_succ_cons, List.drop_zero]
      rw [textL_loc t r p hx]
theorem wordR_loc {s t : List UInt8} (h1 : 1 ≤ s.length) (h : (wordR s).2.2 = 0) (ht : 3 ≤ (wordR s).1.kind ∨ endT t) : wordR (s.take (wordR s).2.1 ++ t) = wordR s := by
  have hn := (wordR_len h1 h).1
  have h0 : byteAt (s.take (wordR s).2.1 ++ t) 0 = byteAt s 0 := by rw [byteAt_app (by rw [List.length_take]; omega), byteAt_take hn]
  unfold wordR at h ht h0 hn ⊢
  rw [h0]
  clear h0
  cases hb : begP (byteAt s 0) with
  | true =>
    rw [hb] at h ht
    simp only [cond_true] at h ht ⊢
    cases h2 : Nat.blt 128 (runL goP s) with
    | true => rw [h2] at h; simp at h
    | false =>
      rw [h2] at ht
      simp only [cond_false] at ht ⊢
      rcases ht with ht | ht
      · simp at ht
      rw [runL_cut ht, h2, List.take_append_of_le_length (by rw [List.length_take]; have := runL_le goP s; omega), List.take_take, Nat.min_self]; rfl
  | false =>
    rw [hb] at h ht
    simp only [cond_false] at h ht ⊢
    cases hd : digP (byteAt s 0) with
    | true =>
      rw [hd] at h ht
      simp only [cond_true] at h ht ⊢
      rcases ht with ht | ht
      · simp at ht
      rw [numR_loc h1 hd h ht]
    | false =>
      rw [hd] at h
      simp only [cond_false] at h ⊢
      cases hq : Nat.beq (byteAt s 0).toNat 34 with
      | true =>
        rw [hq] at h
        simp only [cond_true] at h ⊢
        rw [textR_loc h1 h]
      | false =>
        rw [hq] at h
        simp only [cond_false] at h ⊢
        cases hg : signP (byteAt s 0) with
        | true =>
          simp only [cond_true]
          rw [List.take_append_of_le_length (by rw [List.length_take]; omega), List.take_take]; rfl
        | false => rw [hg] at h; simp at h
end
end Go.Proofs.YtafpmnccoogojaaGreatDoor
