/- Blanks between words and a note behind change nothing but places. -/
import Derived.Test.YtafpmnccoogojaaGreatDoorLxLoc
namespace Go.Proofs.YtafpmnccoogojaaGreatDoor
open Go Go.Vai
noncomputable section
inductive Toks : List UInt8 → Nat → List (Wd × Nat) → Prop
  | nil (o : Nat) : Toks [] o []
  | note (c : UInt8) (r : List UInt8) (o : Nat) (h : Nat.beq c.toNat 35 = true) : Toks (c :: r) o []
  | blank (c : UInt8) (r : List UInt8) (o : Nat) (ws : List (Wd × Nat)) (h : blP c = true) (t : Toks r (o + 1) ws) : Toks (c :: r) o ws
  | word (s : List UInt8) (o : Nat) (ws : List (Wd × Nat)) (h1 : 1 ≤ s.length) (h2 : Nat.beq (byteAt s 0).toNat 35 = false) (h3 : blP (byteAt s 0) = false) (h4 : (wordR s).2.2 = 0) (t : Toks (s.drop (wordR s).2.1) (o + (wordR s).2.1) ws) : Toks s o (((wordR s).1, o) :: ws)
theorem of_toks {u : List UInt8} {j : Nat} {ws : List (Wd × Nat)} (h : Toks u j ws) : ∀ (s : List UInt8) (n : Nat), s.drop j = u → j ≤ s.length → s.length + 1 ≤ n + j → lexF n s j = (ws, 0, 0) := by
  induction h with
  | nil o =>
    intro s n e hj hn
    have : s.length ≤ o := by rw [List.drop_eq_nil_iff] at e; exact e
    cases n with
    | zero => rfl
    | succ n => unfold lexF; rw [blt_f (show ¬ o < s.length by omega)]; rfl
  | note c r o h =>
    intro s n e hj hn
    cases n with
    | zero => omega
    | succ n =>
      have hb : byteAt s o = c := by
        have := byteAt_drop s o 0
        rw [e] at this; exact this.symm
      unfold lexF
      rw [hb, h, Bool.or_true]; rfl
  | blank c r o ws h t ih =>
    intro s n e hj hn
    have hl : o < s.length := by
      have := congrArg List.length e
      rw [List.length_drop, List.length_cons] at this; omega
    have hb : byteAt s o = c := by
      have := byteAt_drop s o 0
      rw [e] at this; exact this.symm
    have hr : s.drop (o + 1) = r := by
      rw [drop_at hl, hb] at e
      exact (List.cons.inj e).2
    cases n with
    | zero => omega
    | succ n =>
      unfold lexF
      rw [blt_t hl, hb, bl_35 h, h]
      exact ih s n hr hl (by omega)
  | word u o ws h1 h2 h3 h4 t ih =>
    intro s n e hj hn
    subst e
    have hl := wordR_len h1 h4
    rw [List.length_drop] at hl h1
    rw [byteAt_drop, Nat.add_zero] at h2 h3
    cases n with
    | zero => omega
    | succ n =>
      unfold lexF
      rw [blt_t (show o < s.length by omega), h2, h3]
      simp only [Bool.not_true, Bool.or_false, cond_false]
      rw [h4, ih s n (by rw [List.drop_drop]) (by omega) (by omega)]
      rfl
theorem toks_lex {s : List UInt8} {ws : List (Wd × Nat)} (h : Toks s 0 ws) : lexR s = (ws, 0, 0) := of_toks h s (s.length + 1) rfl (Nat.zero_le _) (Nat.le_refl _)
end
end Go.Proofs.YtafpmnccoogojaaGreatDoor
