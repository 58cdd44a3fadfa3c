/- What ar.Read finds in what ar.Write wrote: plain facts. -/
import Derived.Test.YtmppdannkpdpmaaGreatDoorArRdR
namespace Go.Proofs.YtmppdannkpdpmaaGreatDoor
open Go Go.Vai
section
variable {W : List UInt8} {o n : Nat}
theorem Xm (h : o + n ≤ W.length) (hN : W.length ≤ 50000) : Yj (bT W) o n = true := (W1 (L := W) (by omega)).has h
theorem Zp8 (h : o + n ≤ W.length) (hN : W.length ≤ 50000) : Zc (bT W) o n = ((W.drop o).take n).map Ze := (W1 (L := W) (by omega)).cells h
theorem Yv (h : o + n ≤ W.length) (hN : W.length ≤ 50000) : Xk (Zc (bT W) o n) = true := by rw [Zp8 h hN]; exact Zsv _
theorem Zfa (h : o + n ≤ W.length) (hN : W.length ≤ 50000) : Zd (Zc (bT W) o n) = (W.drop o).take n := by rw [Zp8 h hN, Zbk]
end
theorem Wi (b : Bool) (x : Nat) : cn b x x = x := by cases b <;> rfl
theorem Zah {c p x y : Nat} (h : c ≠ p) : cn (Nat.beq c p) x y = y := by unfold cn; rw [Qy h]
theorem Z7 {a b : Nat} (h : ¬ a < b) : Yi (.ofNat a) (.ofNat b) = false := Zw h
theorem Zlf {a b : Nat} (h : a < b) : Yi (.ofNat a) (.ofNat b) = true := Z4 h
theorem Kk {n p : Nat} (h : n + n % 2 = p) (hn : n < 1099511627776) : evT (.ofNat n) p = true := by
  unfold evT
  rw [Z0, Zl0, Vd h, Z4 hn]; rfl
theorem Ws (k : IntKind) (n : Int) : AV.eqb (.int k n) (.int k n) = true := by simp [AV.eqb, Q4, sameKind]
theorem Zaq (s : List UInt8) : AV.eqb (.str s) (.str s) = true := by simp [AV.eqb, W3]
theorem Zjc (s : List UInt8) (i o n c : Nat) : AV.eqb (.agg [.str s, .sl i o n (some c), .nils]) (.agg [.str s, .sl i o n (some c), .nils]) = true := by simp [AV.eqb, AV.eqb.eqbs, W3]
theorem Zjj (s : List UInt8) (i o n : Nat) : AV.eqb (.agg [.str s, .sl i o n none, .nils]) (.agg [.str s, .sl i o n none, .nils]) = true := by simp [AV.eqb, AV.eqb.eqbs, W3]
theorem Zjp (T : Tr AV) (o : Nat) : Yj T o 0 = true := by unfold Yj; rw [Tr.getAll_zero]; rfl
theorem Zfu {D : List UInt8} (h : D.length ≤ 50000) : Zd8 (Tr.putAll Tr.nil 0 ([] ++ D.map Ze)) (Nat.add 0 D.length) D = true := by
  unfold Zd8
  rw [List.nil_append, show Nat.add 0 D.length = D.length from Nat.zero_add _]
  obtain ⟨a, b⟩ := Zfy (o := 0) (D := D) (by omega)
  rw [Nat.beq_refl, a, b, Zbq, Zbk, Zo]; rfl
theorem Zgp {α : Type} {a b : List α} {k : Nat} (h : a.length = k) : (a ++ b).drop k = b := by rw [← h, List.drop_left]
theorem take_len {α : Type} {a b : List α} {k : Nat} (h : a.length = k) : (a ++ b).take k = a := by rw [← h, List.take_left]
theorem Zb5 {nm : List UInt8} {sz : Nat} (h : nm.length ≤ 16) : List.take 10 (List.drop 48 (Zx nm sz)) = Xl (Zk sz) 10 := by
  unfold Zx
  rw [← List.append_assoc, Zgp (by rw [List.length_append, Vm h, Zfl]), take_len (Vm (by have := (Zt sz).2; omega))]
theorem Zh5 {nm : List UInt8} {sz : Nat} (h : nm.length ≤ 16) : List.take 16 (List.drop 0 (Zx nm sz)) = Xl nm 16 := by
  unfold Zx
  rw [List.drop_zero, take_len (Vm h)]
theorem Ze7 (l : List UInt8) : ∀ k : Nat, (List.replicate k 32 ++ l).dropWhile (· == 32) = l.dropWhile (· == 32)
  | 0 => rfl
  | k + 1 => by
    rw [List.replicate_succ, List.cons_append, List.dropWhile_cons, if_pos (by decide)]
    exact Ze7 l k
theorem Zav {t : List UInt8} {c : UInt8} {n : Nat} (h : c ≠ 32) : Lib.trimRightB (Xl (t ++ [c]) n) 32 = t ++ [c] := by
  unfold Lib.trimRightB Xl
  rw [List.reverse_append, List.reverse_replicate, Ze7, List.reverse_append, List.reverse_cons, List.reverse_nil, List.nil_append, List.cons_append, List.nil_append, List.dropWhile_cons, if_neg (by simpa using h), List.reverse_cons, List.reverse_reverse]
theorem Zl2 {n : Nat} (h : n < 1000) : ∃ t c, Zk n = t ++ [c] ∧ c ≠ 32 := by
  have h1 := (Zt n).1
  obtain ⟨t, c, e⟩ : ∃ t c, Zk n = t ++ [c] := ⟨_, _, (List.dropLast_concat_getLast (l := Zk n) (by intro e; rw [e] at h1; simp at h1)).symm⟩
  exact ⟨t, c, e, (Zpq h (c := c) (by rw [e]; simp)).1⟩
theorem Vf {n k : Nat} (h : n < 1000) : Lib.trimRightB (Xl (Zk n) k) 32 = Zk n := by
  obtain ⟨t, c, e, hc⟩ := Zl2 h
  rw [e]
  exact Zav hc
theorem Ww {s l x : List UInt8} {k : Nat} (h : Xi s l x) : Lib.trimRightB (Xl s k) 32 = s := by
  rcases h with ⟨rfl, _⟩ | ⟨p, r, rfl, hp, _⟩
  · exact Zav (by decide)
  · obtain ⟨t, c, e, hc⟩ := Zl2 hp
    rw [e, ← List.append_assoc]
    exact Zav hc
theorem Zdc {s l x : List UInt8} (h : Xi s l x) : leq s [47] = false ∧ leq s [47, 47] = false := by
  constructor <;> rw [W3, decide_eq_false_iff_not] <;> intro e
  · rcases h with ⟨rfl, hx⟩ | ⟨p, r, rfl, hp, _⟩
    · obtain ⟨a, b, rfl, ha, _⟩ := Zfq hx
      simp at e
    · have := (Zt p).1
      have e2 := congrArg List.length e
      simp at e2
      rw [e2] at this
      simp at this
  · rcases h with ⟨rfl, hx⟩ | ⟨p, r, rfl, hp, _⟩
    · obtain ⟨a, b, rfl, ha, _⟩ := Zfq hx
      simp only [List.cons_append, List.cons.injEq] at e
      exact ha e.1
    · simp only [List.cons_append, List.nil_append, List.cons.injEq, true_and] at e
      exact (Zpq hp (c := 47) (by rw [e]; simp)).2 rfl
theorem Zbb {B W : List UInt8} (h : B <+: W) {o n : Nat} (hn : o + n ≤ B.length) : (W.drop o).take n = (B.drop o).take n := by
  obtain ⟨t, rfl⟩ := h
  rw [List.drop_append_of_le_length (by omega), List.take_append_of_le_length (by rw [List.length_drop]; omega)]
theorem Z0i (B : List UInt8) : B <+: Ka B := by
  unfold Ka
  cases Nat.beq (Nat.mod B.length 2) 1
  · exact List.prefix_refl _
  · exact List.prefix_append _ _
theorem Zbu (B nm D : List UInt8) : B <+: Zg B nm D := (Z0i B).trans (List.prefix_append _ _)
theorem Zd7 {B nm D : List UInt8} (h : nm.length ≤ 16) : ((Zg B nm D).drop (Ka B).length).take 60 = Zx nm D.length := by
  unfold Zg
  rw [List.drop_left, take_len (Qc h _)]
theorem Zju {B nm D : List UInt8} (h : nm.length ≤ 16) : ((Zg B nm D).drop ((Ka B).length + 60)).take D.length = D := by
  unfold Zg
  rw [← List.append_assoc, Zgp (by rw [List.length_append, Qc h]), List.take_of_length_le (Nat.le_refl _)]
theorem Zd2 {B nm D : List UInt8} (h : nm.length ≤ 16) : (Zg B nm D).length = (Ka B).length + 60 + D.length := by
  unfold Zg
  rw [List.length_append, List.length_append, Qc h]; omega
end Go.Proofs.YtmppdannkpdpmaaGreatDoor
