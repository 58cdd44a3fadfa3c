/- Blanks between words and a note behind change nothing but places. -/
import Derived.Test.YtdpkmhnpbbapcaaDoorLxLoc
namespace Go.Proofs.YtdpkmhnpbbapcaaDoor
open Go Go.Vai
noncomputable section
inductive Toks : List UInt8 → Nat → List (Wd × Nat) → Prop
  | nil (o : Nat) : Toks [] o []
  | note (c : UInt8) (r : List UInt8) (o : Nat) (h : Nat.beq c.toNat 35 = true) : Toks (c :: r) o []
  | blank (c : UInt8) (r : List UInt8) (o : Nat) (ws : List (Wd × Nat)) (h : blP c = true) (t : Toks r (o + 1) ws) : Toks (c :: r) o ws
  | word (s : List UInt8) (o : Nat) (ws : List (Wd × Nat)) (h1 : 1 ≤ s.length) (h2 : Nat.beq (byteAt s 0).toNat 35 = false) (h3 : blP (byteAt s 0) = false) (h4 : (wordR s).2.2 = 0) (t : Toks (s.drop (wordR s).2.1) (o + (wordR s).2.1) ws) : Toks s o (((wordR s).1, o) :: ws)
theorem toks_of (s : List UInt8) : ∀ (n j : Nat) (ws : List (Wd × Nat)), s.length + 1 ≤ n + j → lexF n s j = (ws, 0, 0) → Toks (s.drop j) j ws
  | 0, j, ws, hn, h => by
    unfold lexF at h
    cases h
    rw [List.drop_eq_nil_of_le (by omega)]
    exact .nil j
  | n + 1, j, ws, hn, h => by
    unfold lexF at h
    by_cases hj : j < s.length
    · rw [blt_t hj] at h
      simp only [Bool.not_true, Bool.false_or] at h
      cases h1 : Nat.beq (byteAt s j).toNat 35 with
      | true =>
        rw [h1] at h
        simp only [cond_true, Prod.mk.injEq] at h
        rw [drop_at hj, ← h.1]
        exact .note _ _ _ h1
      | false =>
        rw [h1] at h
        simp only [cond_false] at h
        cases h2 : blP (byteAt s j) with
        | true =>
          rw [h2] at h
          rw [drop_at hj]
          exact .blank _ _ _ _ h2 (toks_of s n (j + 1) ws (by omega) h)
        | false =>
          rw [h2] at h
          simp only [cond_false] at h
          cases h3 : Nat.beq (wordR (s.drop j)).2.2 0 with
          | false =>
            rw [h3] at h
            simp only [cond_false, Prod.mk.injEq] at h
            rw [h.2.2] at h3; cases h3
          | true =>
            rw [h3] at h
            simp only [cond_true] at h
            have e := Nat.eq_of_beq_eq_true h3
            have hl := wordR_len (s := s.drop j) (by rw [List.length_drop]; omega) e
            have hb : byteAt (s.drop j) 0 = byteAt s j := by rw [byteAt_drop, Nat.add_zero]
            unfold preW at h
            cases h4 : Nat.beq (lexF n s (j + (wordR (s.drop j)).2.1)).2.2 0 with
            | false =>
              rw [h4] at h
              simp only [cond_false, Prod.mk.injEq] at h
              rw [h.2.2] at h4; cases h4
            | true =>
              rw [h4] at h
              simp only [cond_true, Prod.mk.injEq] at h
              have e4 := Nat.eq_of_beq_eq_true h4
              have e5 := (lexF_shape n s (j + (wordR (s.drop j)).2.1)).1 e4
              have ih := toks_of s n (j + (wordR (s.drop j)).2.1) (lexF n s (j + (wordR (s.drop j)).2.1)).1 (by omega) (by
                generalize lexF n s (j + (wordR (s.drop j)).2.1) = x at e4 e5 ⊢
                obtain ⟨a, b, c⟩ := x
                simp only at e4 e5
                rw [e4, e5])
              rw [← h.1]
              exact .word _ _ _ (by rw [List.length_drop]; omega) (by rw [hb]; exact h1) (by rw [hb]; exact h2) e (by rw [List.drop_drop]; exact ih)
    · rw [blt_f hj] at h
      simp only [Bool.not_false, Bool.true_or, cond_true, Prod.mk.injEq] at h
      rw [List.drop_eq_nil_of_le (by omega), ← h.1]
      exact .nil j
theorem of_toks {u : List UInt8} {j : Nat} {ws : List (Wd × Nat)} (h : Toks u j ws) : ∀ (s : List UInt8) (n : Nat), s.drop j = u → j ≤ s.length → s.length + 1 ≤ n + j → lexF n s j = (ws, 0, 0) := by
  induction h with
  | nil o =>
    intro s n e hj hn
    have : s.length ≤ o := by rw [List.drop_eq_nil_iff] at e; exact e
    cases n with
    | zero => rfl
    | succ n => unfold lexF; rw [blt_f (show ¬ o < s.length by omega)]; rfl
  | note c r o h =>
    intro s n e hj hn
    cases n with
    | zero => omega
    | succ n =>
      have hb : byteAt s o = c := by
        have := byteAt_drop s o 0
        rw [e] at this; exact this.symm
      unfold lexF
      rw [hb, h, Bool.or_true]; rfl
  | blank c r o ws h t ih =>
    intro s n e hj hn
    have hl : o < s.length := by
      have := congrArg List.length e
      rw [List.length_drop, List.length_cons] at this; omega
    have hb : byteAt s o = c := by
      have := byteAt_drop s o 0
      rw [e] at this; exact this.symm
    have hr : s.drop (o + 1) = r := by
      rw [drop_at hl, hb] at e
      exact (List.cons.inj e).2
    cases n with
    | zero => omega
    | succ n =>
      unfold lexF
      rw [blt_t hl, hb, bl_35 h, h]
      exact ih s n hr hl (by omega)
  | word u o ws h1 h2 h3 h4 t ih =>
    intro s n e hj hn
    subst e
    have hl := wordR_len h1 h4
    rw [List.length_drop] at hl h1
    rw [byteAt_drop, Nat.add_zero] at h2 h3
    cases n with
    | zero => omega
    | succ n =>
      unfold lexF
      rw [blt_t (show o < s.length by omega), h2, h3]
      simp only [Bool.not_true, Bool.or_false, cond_false]
      rw [h4, ih s n (by rw [List.drop_drop]) (by omega) (by omega)]
      rfl
theorem toks_pos {u : List UInt8} {o : Nat} {ws : List (Wd × Nat)} (h : Toks u o ws) : ∀ (j : Nat) (w : Wd) (p : Nat), ws[j]? = some (w, p) → o ≤ p ∧ p < o + u.length ∧ ∀ v q, ws[j + 1]? = some (v, q) → p < q := by
  induction h with
  | nil o => intro j w p e; simp at e
  | note c r o h => intro j w p e; simp at e
  | blank c r o ws h t ih =>
    intro j w p e
    obtain ⟨a, b, c⟩ := ih j w p e
    exact ⟨by omega, by rw [List.length_cons]; omega, c⟩
  | word s o ws h1 h2 h3 h4 t ih =>
    intro j w p e
    have hl := wordR_len h1 h4
    cases j with
    | zero =>
      simp only [List.getElem?_cons_zero, Option.some.injEq, Prod.mk.injEq] at e
      obtain ⟨_, rfl⟩ := e
      refine ⟨Nat.le_refl _, by omega, fun v q e => ?_⟩
      rw [List.getElem?_cons_succ] at e
      have := (ih 0 v q e).1
      omega
    | succ j =>
      rw [List.getElem?_cons_succ] at e
      obtain ⟨a, b, c⟩ := ih j w p e
      rw [List.length_drop] at b
      exact ⟨by omega, by omega, fun v q e => c v q (by rwa [List.getElem?_cons_succ] at e)⟩
theorem toks_shift {u : List UInt8} {o : Nat} {ws : List (Wd × Nat)} (h : Toks u o ws) : ∀ o2, ∃ ws2, Toks u o2 ws2 ∧ ws2.map Prod.fst = ws.map Prod.fst := by
  induction h with
  | nil o => exact fun o2 => ⟨[], .nil o2, rfl⟩
  | note c r o h => exact fun o2 => ⟨[], .note c r o2 h, rfl⟩
  | blank c r o ws h t ih =>
    intro o2
    obtain ⟨ws2, a, b⟩ := ih (o2 + 1)
    exact ⟨ws2, .blank c r o2 ws2 h a, b⟩
  | word s o ws h1 h2 h3 h4 t ih =>
    intro o2
    obtain ⟨ws2, a, b⟩ := ih (o2 + (wordR s).2.1)
    exact ⟨_, .word s o2 ws2 h1 h2 h3 h4 a, by simp [b]⟩
theorem endT_app {a t : List UInt8} (ha : endT a) (ht : endT t) : endT (a ++ t) := by
  cases a with
  | nil => exact ht
  | cons c a =>
    rcases ha with h | h
    · cases h
    · exact .inr h
theorem toks_note {u : List UInt8} {o : Nat} {ws : List (Wd × Nat)} (h : Toks u o ws) (z : List UInt8) : Toks (u ++ 32 :: 35 :: z) o ws := by
  induction h with
  | nil o => exact .blank 32 _ o [] bl_32 (.note 35 z (o + 1) rfl)
  | note c r o h => exact .note c _ o h
  | blank c r o ws h t ih => exact .blank c _ o ws h ih
  | word s o ws h1 h2 h3 h4 t ih =>
    have hl := wordR_len h1 h4
    have ht : endT (32 :: 35 :: z) := .inr (bl_go bl_32)
    have e : s ++ 32 :: 35 :: z = s.take (wordR s).2.1 ++ (s.drop (wordR s).2.1 ++ 32 :: 35 :: z) := by rw [← List.append_assoc, List.take_append_drop]
    have hw : wordR (s ++ 32 :: 35 :: z) = wordR s := by
      rw [e]
      exact wordR_loc h1 h4 ((wordR_end h4).imp id fun h => endT_app h ht)
    have := Toks.word (s ++ 32 :: 35 :: z) o ws (by rw [List.length_append]; omega) (by rw [byteAt_app h1]; exact h2) (by rw [byteAt_app h1]; exact h3) (by rw [hw]; exact h4) (by
      rw [hw, List.drop_append_of_le_length hl.2]; exact ih)
    rw [hw] at this
    exact this
theorem toks_blanks {u : List UInt8} {ws : List (Wd × Nat)} : ∀ (bl : List UInt8) (o : Nat), bl.all blP = true → Toks u (o + bl.length) ws → Toks (bl ++ u) o ws
  | [], o, _, h => h
  | c :: bl, o, hb, h => by
    simp only [List.all_cons, Bool.and_eq_true] at hb
    exact .blank c _ o ws hb.1 (toks_blanks bl (o + 1) hb.2 (by rw [List.length_cons] at h; rwa [show o + 1 + bl.length = o + (bl.length + 1) by omega]))
theorem toks_bl {u : List UInt8} {o : Nat} {ws : List (Wd × Nat)} (h : Toks u o ws) : ∀ v q r, ws = (v, q) :: r → ∃ bl u2, u = bl ++ u2 ∧ bl.all blP = true ∧ q = o + bl.length := by
  induction h with
  | nil o => intro v q r e; cases e
  | note c r o h => intro v q r e; cases e
  | blank c r o ws h t ih =>
    intro v q r2 e
    obtain ⟨bl, u2, e1, e2, e3⟩ := ih v q r2 e
    exact ⟨c :: bl, u2, by rw [e1]; rfl, by simp [h, e2], by rw [e3, List.length_cons]; omega⟩
  | word s o ws h1 h2 h3 h4 t ih =>
    intro v q r e
    simp only [List.cons.injEq, Prod.mk.injEq] at e
    exact ⟨[], s, rfl, rfl, by rw [← e.1.2]; rfl⟩
def bOf (s : List UInt8) : List (Wd × Nat) → List UInt8
  | [] => []
  | (_, p) :: r => [32, 9, 32] ++ (s.drop p).take ((match r with | [] => s.length | x :: _ => x.2) - p) ++ bOf s r
theorem toks_cat {s0 u : List UInt8} {o : Nat} {ws : List (Wd × Nat)} (h : Toks u o ws) : u = s0.drop o → o ≤ s0.length → (∀ o2, ∃ ws2, Toks (bOf s0 ws) o2 ws2 ∧ ws2.map Prod.fst = ws.map Prod.fst) ∧ ∀ v q r, ws = (v, q) :: r → (bOf s0 ws).length ≤ 4 * (s0.length - q) := by
  induction h with
  | nil o => exact fun _ _ => ⟨fun o2 => ⟨[], .nil o2, rfl⟩, fun v q r e => by cases e⟩
  | note c r o h => exact fun _ _ => ⟨fun o2 => ⟨[], .nil o2, rfl⟩, fun v q r e => by cases e⟩
  | blank c r o ws h t ih =>
    intro e hl
    have hl2 : o < s0.length := by
      have := congrArg List.length e
      rw [List.length_drop, List.length_cons] at this; omega
    rw [drop_at hl2] at e
    exact ih (List.cons.inj e).2 hl2
  | word s o ws h1 h2 h3 h4 t ih =>
    intro e hl
    have hn := wordR_len h1 h4
    have hsl : s.length = s0.length - o := by rw [e, List.length_drop]
    obtain ⟨i1, i2⟩ := ih (by rw [e, List.drop_drop]) (by omega)
    cases ws with
    | nil =>
      have hb : bOf s0 [((wordR s).1, o)] = [32, 9, 32] ++ s := by
        show [32, 9, 32] ++ (s0.drop o).take (s0.length - o) ++ [] = _
        rw [← e, ← hsl, List.take_length, List.append_nil]
      rw [hb]
      refine ⟨fun o2 => ?_, fun v q r e2 => ?_⟩
      · obtain ⟨ws2, a, b⟩ := toks_shift (Toks.word s o [] h1 h2 h3 h4 t) (o2 + 3)
        exact ⟨ws2, toks_blanks [32, 9, 32] o2 (by simp [bl_32, bl_9]) a, b⟩
      · cases e2
        rw [List.length_append, hsl]
        simp only [List.length_cons, List.length_nil]
        omega
    | cons x r =>
      obtain ⟨v, q⟩ := x
      obtain ⟨bl, u2, e1, e2, e3⟩ := toks_bl t v q r rfl
      have hlen := congrArg List.length e1
      rw [List.length_drop, List.length_append] at hlen
      have hc : s.take (q - o) = s.take (wordR s).2.1 ++ bl := by
        have : q - o = (wordR s).2.1 + bl.length := by omega
        rw [this, List.take_add, e1, List.take_left]
      have hb : bOf s0 (((wordR s).1, o) :: (v, q) :: r) = [32, 9, 32] ++ (s.take (wordR s).2.1 ++ (bl ++ bOf s0 ((v, q) :: r))) := by
        show [32, 9, 32] ++ (s0.drop o).take (q - o) ++ bOf s0 ((v, q) :: r) = _
        rw [← e, hc]; simp only [List.append_assoc]
      have hend : endT (bl ++ bOf s0 ((v, q) :: r)) := by
        refine .inr ?_
        cases bl with
        | nil => exact bl_go bl_32
        | cons c bl =>
          simp only [List.all_cons, Bool.and_eq_true] at e2
          exact bl_go e2.1
      have hw : wordR (s.take (wordR s).2.1 ++ (bl ++ bOf s0 ((v, q) :: r))) = wordR s := wordR_loc h1 h4 (.inr hend)
      have hlt : (s.take (wordR s).2.1).length = (wordR s).2.1 := by rw [List.length_take]; omega
      have h0 : byteAt (s.take (wordR s).2.1 ++ (bl ++ bOf s0 ((v, q) :: r))) 0 = byteAt s 0 := by rw [byteAt_app (by omega), byteAt_take hn.1]
      rw [hb]
      refine ⟨fun o2 => ?_, fun v2 q2 r2 e4 => ?_⟩
      · obtain ⟨ws2, a, b⟩ := i1 (o2 + 3 + (wordR s).2.1 + bl.length)
        have := Toks.word (s.take (wordR s).2.1 ++ (bl ++ bOf s0 ((v, q) :: r))) (o2 + 3) ws2 (by rw [List.length_append]; omega) (by rw [h0]; exact h2) (by rw [h0]; exact h3) (by rw [hw]; exact h4) (by
          rw [hw, List.drop_append, hlt, Nat.sub_self, List.drop_eq_nil_of_le (by omega), List.nil_append, List.drop_zero]
          exact toks_blanks bl _ e2 a)
        rw [hw] at this
        exact ⟨_, toks_blanks [32, 9, 32] o2 (by simp [bl_32, bl_9]) this, by simp [b]⟩
      · cases e4
        have := i2 v q r rfl
        simp only [List.length_append, List.length_cons, List.length_nil, hlt]
        omega
theorem toks_len {u : List UInt8} {o : Nat} {ws : List (Wd × Nat)} (h : Toks u o ws) : ws.length ≤ u.length := by
  induction h with
  | nil o => exact Nat.le_refl _
  | note c r o h => exact Nat.zero_le _
  | blank c r o ws h t ih => rw [List.length_cons]; omega
  | word s o ws h1 h2 h3 h4 t ih =>
    have hl := wordR_len h1 h4
    rw [List.length_drop] at ih
    rw [List.length_cons]; omega
theorem lex_toks {s : List UInt8} {ws : List (Wd × Nat)} (h : lexR s = (ws, 0, 0)) : Toks s 0 ws := toks_of s (s.length + 1) 0 ws (Nat.le_refl _) h
theorem toks_lex {s : List UInt8} {ws : List (Wd × Nat)} (h : Toks s 0 ws) : lexR s = (ws, 0, 0) := of_toks h s (s.length + 1) rfl (Nat.zero_le _) (Nat.le_refl _)
theorem lex_note {s : List UInt8} {ws : List (Wd × Nat)} (h : lexR s = (ws, 0, 0)) (z : List UInt8) : lexR ((s ++ [32, 35]) ++ z) = (ws, 0, 0) := by
  rw [List.append_assoc]
  exact toks_lex (toks_note (lex_toks h) z)
theorem lex_cat {s : List UInt8} {ws : List (Wd × Nat)} (h : lexR s = (ws, 0, 0)) : ∃ ws2, lexR (bOf s ws) = (ws2, 0, 0) ∧ ws2.map Prod.fst = ws.map Prod.fst := by
  obtain ⟨ws2, a, b⟩ := (toks_cat (s0 := s) (lex_toks h) rfl (Nat.zero_le _)).1 0
  exact ⟨ws2, toks_lex a, b⟩
theorem lex_cat_len {s : List UInt8} {ws : List (Wd × Nat)} (h : lexR s = (ws, 0, 0)) : (bOf s ws).length ≤ 4 * s.length := by
  cases ws with
  | nil => exact Nat.zero_le _
  | cons x r =>
    obtain ⟨v, q⟩ := x
    have := (toks_cat (s0 := s) (lex_toks h) rfl (Nat.zero_le _)).2 v q r rfl
    omega
end
end Go.Proofs.YtdpkmhnpbbapcaaDoor
