/- A text of known words and one number: its words. -/
import Derived.Test.YtafpmnccoogojaaGreatDoorLxToks
import Derived.KernelRfl
namespace Go.Proofs.YtafpmnccoogojaaGreatDoor
open Go Go.Vai
noncomputable section
set_option maxRecDepth 100000
theorem dig10 : ((List.range 10).all fun d => digP (UInt8.ofNat (48 + d)) && (Nat.beq (dv (UInt8.ofNat (48 + d)).toNat) d && Nat.beq (UInt8.ofNat (48 + d)).toNat (48 + d))) = true := by kernel_rfl
theorem dig_at {d : Nat} (h : d < 10) : digP (UInt8.ofNat (48 + d)) = true ∧ dv (UInt8.ofNat (48 + d)).toNat = d ∧ (UInt8.ofNat (48 + d)).toNat = 48 + d := by
  have := List.all_eq_true.1 dig10 d (List.mem_range.2 h)
  simp only [Bool.and_eq_true, Nat.beq_eq] at this
  exact this
theorem dig_beg_all : ((List.range 256).all fun n => !(cDigB (.ofNat n)) || (!(cBegB (.ofNat n)) && (!(Nat.beq n 35) && !(cBlB (.ofNat n))))) = true := by kernel_rfl
theorem dig_beg {c : UInt8} (h : digP c = true) : begP c = false ∧ Nat.beq c.toNat 35 = false ∧ blP c = false := by
  have : (!(digP c) || (!(begP c) && (!(Nat.beq c.toNat 35) && !(blP c)))) = true := List.all_eq_true.1 dig_beg_all c.toNat (List.mem_range.2 c.toNat_lt)
  rw [h] at this
  simpa using this
def dgF : Nat → Nat → List UInt8
  | 0, n => [UInt8.ofNat (48 + n % 10)]
  | f + 1, n => bif Nat.blt n 10 then [UInt8.ofNat (48 + n)] else dgF f (n / 10) ++ [UInt8.ofNat (48 + n % 10)]
def dgs (n : Nat) : List UInt8 := dgF 19 n
theorem dgF_len : ∀ f n, 1 ≤ (dgF f n).length ∧ (dgF f n).length ≤ f + 1
  | 0, n => ⟨Nat.le_refl _, Nat.le_refl _⟩
  | f + 1, n => by
    unfold dgF
    have := dgF_len f (n / 10)
    cases Nat.blt n 10 with
    | true => exact ⟨Nat.le_refl _, by show 1 ≤ _; omega⟩
    | false => simp only [cond_false, List.length_append, List.length_cons, List.length_nil]; omega
theorem dgF_all : ∀ f n, (dgF f n).all digP = true
  | 0, n => by
    show ([UInt8.ofNat (48 + n % 10)].all digP) = true
    simp only [List.all_cons, List.all_nil, Bool.and_true]
    exact (dig_at (Nat.mod_lt _ (by decide))).1
  | f + 1, n => by
    unfold dgF
    cases h : Nat.blt n 10 with
    | true =>
      simp only [cond_true, List.all_cons, List.all_nil, Bool.and_true]
      rw [Nat.blt_eq] at h
      exact (dig_at h).1
    | false =>
      simp only [cond_false, List.all_append, List.all_cons, List.all_nil, Bool.and_true, Bool.and_eq_true]
      exact ⟨dgF_all f (n / 10), (dig_at (Nat.mod_lt _ (by decide))).1⟩
theorem dgF_val : ∀ f n, n < 10 ^ (f + 1) → valD 10 (dgF f n) = n
  | 0, n, h => by
    show 0 * 10 + dv (UInt8.ofNat (48 + n % 10)).toNat = n
    rw [(dig_at (Nat.mod_lt _ (by decide))).2.1]
    omega
  | f + 1, n, h => by
    unfold dgF
    cases h2 : Nat.blt n 10 with
    | true =>
      rw [Nat.blt_eq] at h2
      show 0 * 10 + dv (UInt8.ofNat (48 + n)).toNat = n
      rw [(dig_at h2).2.1]; omega
    | false =>
      have ih := dgF_val f (n / 10) (by rw [Nat.pow_succ] at h; omega)
      unfold valD at ih
      simp only [cond_false]
      unfold valD
      rw [List.foldl_append, ih]
      show n / 10 * 10 + dv (UInt8.ofNat (48 + n % 10)).toNat = n
      rw [(dig_at (Nat.mod_lt _ (by decide))).2.1]
      omega
theorem dgF_head : ∀ f n, 1 ≤ n → n < 10 ^ (f + 1) → (byteAt (dgF f n) 0).toNat ≠ 48
  | 0, n, h1, h => by
    show (UInt8.ofNat (48 + n % 10)).toNat ≠ 48
    rw [(dig_at (Nat.mod_lt _ (by decide))).2.2]
    omega
  | f + 1, n, h1, h => by
    unfold dgF
    cases h2 : Nat.blt n 10 with
    | true =>
      rw [Nat.blt_eq] at h2
      show (UInt8.ofNat (48 + n)).toNat ≠ 48
      rw [(dig_at h2).2.2]; omega
    | false =>
      simp only [cond_false]
      rw [byteAt_app (dgF_len f (n / 10)).1]
      have h3 : ¬ n < 10 := fun e => by rw [blt_t e] at h2; cases h2
      exact dgF_head f (n / 10) (by omega) (by rw [Nat.pow_succ] at h; omega)
theorem runL_all {p : UInt8 → Bool} : ∀ {s : List UInt8}, s.all p = true → runL p s = s.length
  | [], _ => rfl
  | c :: s, h => by
    simp only [List.all_cons, Bool.and_eq_true] at h
    show (bif p c then runL p s + 1 else 0) = s.length + 1
    rw [h.1, runL_all h.2]; rfl
theorem all_byte {p : UInt8 → Bool} {s : List UInt8} (h : s.all p = true) {i : Nat} (hi : i < s.length) : p (byteAt s i) = true := by
  rw [byteAt_eq hi]
  exact List.all_eq_true.1 h _ (List.getElem_mem hi)
theorem numR_dgs {n : Nat} (hn : n < 18446744073709551616) : numR (dgs n) = (n, (dgs n).length, 0) := by
  have hl := dgF_len 19 n
  have ha := dgF_all 19 n
  have hv := dgF_val 19 n (by omega)
  have hr := runL_all ha
  have hx : hexm (dgs n) = false := by
    cases hm : hexm (dgs n) with
    | false => rfl
    | true =>
      exfalso
      unfold hexm at hm
      simp only [Bool.and_eq_true, Nat.ble_eq] at hm
      obtain ⟨l2, h2, _⟩ := hm
      rw [leq_iff, decide_eq_true_eq] at h2
      have h3 := all_byte ha (i := 1) (by show 1 < (dgs n).length; omega)
      have hb : byteAt (dgs n) 1 = 120 := by
        generalize dgs n = x at h2 l2
        match x, l2, h2 with
        | a :: b :: r, _, h2 => simp only [List.take_succ_cons, List.take_zero, List.cons.injEq] at h2; exact h2.2.1
      exact dig_x h3 hb
  unfold numR
  rw [hx]
  simp only [cond_false]
  unfold numB
  rw [List.drop_zero, show runL digP (dgs n) = (dgs n).length from hr, Nat.zero_add, blt_f (Nat.lt_irrefl _), Bool.false_and, List.take_length, show valD 10 (dgs n) = n from hv, blt_f (show ¬ 20 < (dgs n).length by unfold dgs; omega), blt_t hn]
  have : (Nat.beq 10 10 && (Nat.blt 1 (dgs n).length && Nat.beq (byteAt (dgs n) 0).toNat 48)) = false := by
    cases h1 : Nat.blt 1 (dgs n).length with
    | false => rfl
    | true =>
      rw [Nat.blt_eq] at h1
      have h0 : 1 ≤ n := by
        cases n with
        | zero => exact absurd h1 (by decide)
        | succ n => omega
      have := dgF_head 19 n h0 (by omega)
      rw [beq_f (show ¬ (byteAt (dgs n) 0).toNat = 48 from this)]; rfl
  rw [this]; rfl
theorem dgs_first (n : Nat) : digP (byteAt (dgs n) 0) = true := all_byte (dgF_all 19 n) (show 0 < (dgF 19 n).length by have := dgF_len 19 n; omega)
theorem wordR_dgs {n : Nat} (hn : n < 18446744073709551616) {t : List UInt8} (ht : endT t) : wordR (dgs n ++ t) = (⟨2, [], n⟩, (dgs n).length, 0) := by
  have e : wordR (dgs n) = (⟨2, [], n⟩, (dgs n).length, 0) := by
    unfold wordR
    rw [(dig_beg (dgs_first n)).1, dgs_first n]
    simp only [cond_false, cond_true]
    rw [numR_dgs hn]
  have := wordR_loc (s := dgs n) (t := t) (dgF_len 19 n).1 (by rw [e]) (.inr ht)
  rw [e] at this
  simp only [List.take_length] at this
  rw [this]
inductive Pc
  | lit (b : List UInt8) (w : Wd)
  | bl
  | num
def txt (D : List UInt8) : List Pc → List UInt8
  | [] => []
  | .lit b _ :: r => b ++ txt D r
  | .bl :: r => 32 :: txt D r
  | .num :: r => D ++ txt D r
def wds (n : Nat) (D : List UInt8) : List Pc → Nat → List (Wd × Nat)
  | [], _ => []
  | .lit b w :: r, o => (w, o) :: wds n D r (o + b.length)
  | .bl :: r, o => wds n D r (o + 1)
  | .num :: r, o => (⟨2, [], n⟩, o) :: wds n D r (o + D.length)
def wdEq (a b : Wd) : Bool := Nat.beq a.kind b.kind && (leq a.text b.text && Nat.beq a.num b.num)
theorem wdEq_of {a b : Wd} (h : wdEq a b = true) : a = b := by
  obtain ⟨a1, a2, a3⟩ := a
  obtain ⟨b1, b2, b3⟩ := b
  simp only [wdEq, Bool.and_eq_true, Nat.beq_eq, leq_iff, decide_eq_true_eq] at h
  obtain ⟨rfl, rfl, rfl⟩ := h
  rfl
def nxt : List Pc → Bool
  | [] => true
  | .lit b _ :: _ => Nat.ble 1 b.length && !(goP (byteAt b 0))
  | .bl :: _ => true
  | .num :: _ => false
def litOk (b : List UInt8) (w : Wd) : Bool := Nat.ble 1 b.length && (!(Nat.beq (byteAt b 0).toNat 35) && (!(blP (byteAt b 0)) && (wdEq (wordR b).1 w && (Nat.beq (wordR b).2.1 b.length && Nat.beq (wordR b).2.2 0))))
def pcsOk : List Pc → Bool
  | [] => true
  | .lit b w :: r => litOk b w && ((Nat.ble 3 w.kind || nxt r) && pcsOk r)
  | .bl :: r => pcsOk r
  | .num :: r => nxt r && pcsOk r
theorem nxt_end (D : List UInt8) : ∀ {r : List Pc}, nxt r = true → endT (txt D r)
  | [], _ => .inl rfl
  | .lit b _ :: r, h => by
    simp only [nxt, Bool.and_eq_true, Nat.ble_eq, Bool.not_eq_true'] at h
    refine .inr ?_
    show goP (byteAt (b ++ txt D r) 0) = false
    rw [byteAt_app h.1]; exact h.2
  | .bl :: _, _ => .inr (bl_go bl_32)
theorem toks_pcs {n : Nat} (hn : n < 18446744073709551616) : ∀ (r : List Pc) (o : Nat), pcsOk r = true → Toks (txt (dgs n) r) o (wds n (dgs n) r o)
  | [], o, _ => .nil o
  | .bl :: r, o, h => .blank 32 _ o _ bl_32 (toks_pcs hn r (o + 1) h)
  | .num :: r, o, h => by
    simp only [pcsOk, Bool.and_eq_true] at h
    have hw := wordR_dgs hn (nxt_end (dgs n) h.1)
    have h0 : byteAt (dgs n ++ txt (dgs n) r) 0 = byteAt (dgs n) 0 := byteAt_app (dgF_len 19 n).1
    have hd := dig_beg (dgs_first n)
    have := Toks.word (dgs n ++ txt (dgs n) r) o (wds n (dgs n) r (o + (dgs n).length)) (by rw [List.length_append]; have := (dgF_len 19 n).1; show 1 ≤ (dgF 19 n).length + _; omega) (by rw [h0]; exact hd.2.1) (by rw [h0]; exact hd.2.2) (by rw [hw]) (by rw [hw, List.drop_left]; exact toks_pcs hn r _ h.2)
    rw [hw] at this
    exact this
  | .lit b w :: r, o, h => by
    simp only [pcsOk, litOk, Bool.and_eq_true, Bool.or_eq_true, Nat.ble_eq, Nat.beq_eq, Bool.not_eq_true'] at h
    obtain ⟨⟨h1, h2, h3, h4, h5, h6⟩, h7, h8⟩ := h
    have h4 := wdEq_of h4
    have hw : wordR (b ++ txt (dgs n) r) = (w, b.length, 0) := by
      have := wordR_loc (s := b) (t := txt (dgs n) r) h1 h6 (by rw [h4]; exact h7.imp id (nxt_end (dgs n)))
      rw [h5, List.take_length] at this
      rw [this]
      generalize wordR b = x at h4 h5 h6
      obtain ⟨a, c, d⟩ := x
      simp only at h4 h5 h6
      rw [h4, h5, h6]
    have h0 : byteAt (b ++ txt (dgs n) r) 0 = byteAt b 0 := byteAt_app h1
    have := Toks.word (b ++ txt (dgs n) r) o (wds n (dgs n) r (o + b.length)) (by rw [List.length_append]; omega) (by rw [h0]; exact beq_f (fun e => by rw [e] at h2; simp at h2)) (by rw [h0]; exact h3) (by rw [hw]) (by rw [hw, List.drop_left]; exact toks_pcs hn r _ h8)
    rw [hw] at this
    exact this
theorem lex_pcs {n : Nat} (hn : n < 18446744073709551616) {r : List Pc} (h : pcsOk r = true) : lexR (txt (dgs n) r) = (wds n (dgs n) r 0, 0, 0) := toks_lex (toks_pcs hn r 0 h)
end
end Go.Proofs.YtafpmnccoogojaaGreatDoor
