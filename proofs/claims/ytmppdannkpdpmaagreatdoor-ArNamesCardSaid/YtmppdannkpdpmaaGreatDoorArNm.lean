/- ar.named: a member's name out of its header. -/
import Derived.Test.YtmppdannkpdpmaaGreatDoorArText
import Derived.KernelRfl
namespace Go.Proofs.YtmppdannkpdpmaaGreatDoor
open Go Go.Vai
noncomputable section
set_option maxRecDepth 100000
def Xi (s l x : List UInt8) : Prop := (s = x ++ [47] ∧ Y0 x = true) ∨ ∃ p rest, s = [47] ++ Zk p ∧ p < 1000 ∧ p ≤ l.length ∧ l.length < 100000 ∧ Lib.cut (l.drop p) [47] = (x, rest, true)
theorem Zfq {x : List UInt8} (h : Y0 x = true) : ∃ a b, x = a :: b ∧ a ≠ 47 ∧ x.length ≤ 128 := by
  unfold Y0 at h
  simp only [Bool.and_eq_true, Nat.blt_eq, Nat.ble_eq, List.all_eq_true] at h
  obtain ⟨h1, h2, h3⟩ := h
  cases x with
  | nil => simp at h2
  | cons a b =>
    refine ⟨a, b, rfl, ?_, h3⟩
    rintro rfl
    have := h1 47 List.mem_cons_self
    revert this; decide
theorem Zxm {p q : Nat} (hp : p < 1000) (hq : q < 1000) (h : Zk p = Zk q) : p = q := by
  have a := Zg3 hp
  rw [h, Zg3 hq] at a
  injection a with a
  injection a with a
  exact a.symm
theorem Zql {s l x y : List UInt8} (h : Xi s l x) (h2 : Xi s l y) : x = y := by
  have no : ∀ {x : List UInt8} {p : Nat}, Y0 x = true → x ++ [47] ≠ [47] ++ Zk p := fun hx e => by
    obtain ⟨a, b, rfl, ha, _⟩ := Zfq hx
    simp only [List.cons_append, List.nil_append, List.cons.injEq] at e
    exact ha e.1
  rcases h with ⟨rfl, a⟩ | ⟨p, r, rfl, a1, a2, a3, a4⟩ <;> rcases h2 with ⟨e, b⟩ | ⟨q, t, e, b1, b2, b3, b4⟩
  · exact List.append_cancel_right e
  · exact absurd e (no a)
  · exact absurd e.symm (no b)
  · have e2 := Zxm a1 b1 (List.append_cancel_left e)
    subst e2
    rw [a4] at b4
    exact congrArg Prod.fst b4
open Classical in
def Zed : Nat → List AV → Option AV := fun f args => match args with
  | [.str s, .str l] => if h : f = 48 ∧ ∃ x, Xi s l x then some (.str h.2.choose) else none
  | _ => none
theorem Zxa {s l x : List UInt8} (h : Xi s l x) : Zed 48 [.str s, .str l] = some (.str x) := by
  have hh : (48 = 48) ∧ ∃ x, Xi s l x := ⟨rfl, x, h⟩
  unfold Zed
  simp only [dif_pos hh]
  rw [Zql hh.2.choose_spec h]
def atT (s : List UInt8) (p : Nat) : Bool := leq s (Zk p) && Nat.blt p 1000
def cuT (s x : List UInt8) : Bool := Nat.blt (Za s) 4294967281 && (leq (Lib.cut s [47]).1 x && (Lib.cut s [47]).2.2)
def atK {α : Type} (p : Nat) (args : List AV) (H : AHeap) (k : AV → AHeap → Option α) : Option α := match args with
  | [.str s] => bc (atT s p) (k (.tup [.int .i64 (.ofNat p), .nili]) H) none
  | _ => none
def cuK {α : Type} (x : List UInt8) (args : List AV) (H : AHeap) (k : AV → AHeap → Option α) : Option α := match args with
  | [.str s, .str [47]] => bc (cuT s x) (k (.tup [.str x, .str (Lib.cut s [47]).2.1, .bool true]) H) none
  | _ => none
theorem Zaf {a b : List UInt8} (h : leq a b = true) : a = b := by rw [W3, decide_eq_true_iff] at h; exact h
theorem Zmk {α : Type} {p : Nat} {args : List AV} {H : AHeap} {k : AV → AHeap → Option α} {r : α} (h : atK p args H k = some r) : ∃ v H', Zaa 61 61 args H = some (v, H') ∧ k v H' = some r := by
  unfold atK at h
  split at h
  case h_2 => cases h
  rename_i s
  obtain ⟨h1, h2⟩ := Zr h
  unfold atT at h1
  rw [Bool.and_eq_true, Nat.blt_eq] at h1
  obtain rfl := Zaf h1.1
  refine ⟨_, _, ?_, h2⟩
  have hl := (Zt p).2
  unfold Zaa
  simp only [Nat.beq_refl, show Nat.ble (Za (Zk p)) 4294967280 = true from Zl (by show (Zk p).length ≤ _; omega), Bool.and_self, cond_true, Zg3 h1.2]
theorem Zuz {α : Type} {x : List UInt8} {args : List AV} {H : AHeap} {k : AV → AHeap → Option α} {r : α} (h : cuK x args H k = some r) : ∃ v H', Zdk 67 67 args H = some (v, H') ∧ k v H' = some r := by
  unfold cuK at h
  split at h
  case h_2 => cases h
  rename_i s
  obtain ⟨h1, h2⟩ := Zr h
  unfold cuT at h1
  simp only [Bool.and_eq_true] at h1
  refine ⟨_, _, ?_, h2⟩
  unfold Zdk
  simp only [Nat.beq_refl, h1.1, Bool.and_self, cond_true]
  rw [Zaf h1.2.1, h1.2.2]
def Zqt {α : Type} (p : Nat) (x : List UInt8) : Smk α := fun f args H k => bif Nat.beq f 61 then atK p args H k else bif Nat.beq f 67 then cuK x args H k else none
theorem Zs4 {args : List AV} {H : AHeap} {r : AV × AHeap} (h : Zaa 61 61 args H = some r) : Va 61 args H = some r := by
  unfold Zaa at h
  split at h
  case h_2 => cases h
  refine X9 (a := Zcu kinds) rfl (X9 rfl (X9 rfl (X9 rfl (X9 rfl (X9 rfl ?_)))))
  unfold Zaa
  exact h
theorem Zzy {args : List AV} {H : AHeap} {r : AV × AHeap} (h : Zdk 67 67 args H = some r) : Va 67 args H = some r := by
  unfold Zdk at h
  split at h
  case h_2 => cases h
  rename_i s sep
  have e2 : Q0 62 67 [.str s, .str sep] H = none := by
    unfold Q0
    split
    · rfl
    · rfl
  refine X9 (a := Zcu kinds) rfl (X9 rfl (X9 rfl (X9 rfl (X9 e2 (Zby ?_)))))
  unfold Zdk
  exact h
theorem Zo0 {α : Type} {p : Nat} {x : List UInt8} : Qb (α := α) EBg (Zqt p x) := fun f args H k r h => by
  unfold Zqt at h
  cases hf : Nat.beq f 61 with
  | true =>
    rw [hf] at h
    rw [Nat.beq_eq] at hf
    subst hf
    obtain ⟨v, H', e1, e2⟩ := Zmk h
    exact ⟨v, H', Zs4 e1, e2⟩
  | false =>
    rw [hf] at h
    simp only [cond_false] at h
    cases hf2 : Nat.beq f 67 with
    | false => rw [hf2] at h; cases h
    | true =>
      rw [hf2] at h
      rw [Nat.beq_eq] at hf2
      subst hf2
      obtain ⟨v, H', e1, e2⟩ := Zuz h
      exact ⟨v, H', Zzy e1, e2⟩
theorem nd_s (u l x : List UInt8) (p : Nat) : Zn EBg (Zqt p x) Zu 100 (.call 48 [.str u, .str l] (W4 8 gl)) [true, true, true, true, true, true, true, true, true, true, true, true, true, true, true, true, false] jW = bc (!(Nat.blt (Za u) 1)) (bc (Nat.ble 1 (Za u)) (bc (!(leq (List.take 1 (List.drop 0 u)) [47])) (bc (!(Nat.blt (Za u) 1)) (bc (Yi (pr (Za u)) (.ofNat 0)) (none) (bc (Nat.ble (Int.toNat (pr (Za u))) (Za u)) (bc (!(leq (List.drop (Int.toNat (pr (Za u))) u) [47])) (none) (bc (Yi (pr (Za u)) (.ofNat 0)) (none) (bc (Nat.ble (Int.toNat (pr (Za u))) (Za u)) (some (.str (List.take (Int.toNat (pr (Za u))) (List.drop 0 u)))) (none)))) (none))) (none)) (none)) (none)) (none) := by kernel_rfl
theorem nd_l (u l x : List UInt8) (p : Nat) : Zn EBg (Zqt p x) Zu 100 (.call 48 [.str u, .str l] (W4 8 gl)) [true, true, true, true, true, true, false, true, true, true, true, true, true, false, false] jW = bc (!(Nat.blt (Za u) 1)) (bc (Nat.ble 1 (Za u)) (bc (!(leq (List.take 1 (List.drop 0 u)) [47])) (none) (bc (Nat.ble 1 (Za u)) (bc (atT (List.drop 1 u) p) (bc (!(!(Nat.blt (Za l) p))) (none) (bc (Nat.ble p (Za l)) (bc (cuT (List.drop p l) x) (some (.str x)) (none)) (none))) (none)) (none))) (none)) (none) := by kernel_rfl
theorem Z33 : Vt Tryz.prog gl (Z2 Zed) := Zlp fun f args v h => by
  unfold Zed at h
  split at h
  case h_2 => cases h
  rename_i s l
  split at h
  case isFalse => cases h
  rename_i hh
  obtain ⟨rfl, hx⟩ := hh
  have hc := hx.choose_spec
  simp only [Option.some.injEq] at h
  subst h
  generalize hx.choose = x at hc ⊢
  rcases hc with ⟨rfl, hn⟩ | ⟨p, rest, rfl, h1, h2, h3, h4⟩
  · refine ⟨EBg, 100, Zqt 0 [], Zo0, Zbg, Zez, by kernel_rfl, V3 (by rfl), [true, true, true, true, true, true, true, true, true, true, true, true, true, true, true, true, false], ?_⟩
    obtain ⟨a, b, rfl, ha, hl⟩ := Zfq hn
    simp only [List.length_cons] at hl
    have e1 : Za ((a :: b) ++ [47]) = b.length + 1 + 1 := by rw [Ym, List.length_append]; rfl
    refine Eq.trans (nd_s _ _ _ _) ?_
    rw [e1, Z3k (by omega)]
    have e2 : leq (List.take 1 (List.drop 0 ((a :: b) ++ [47]))) [47] = false := by
      rw [W3, decide_eq_false_iff_not]
      intro e
      simp only [List.drop_zero, List.cons_append, List.take_succ_cons, List.take_zero, List.cons.injEq, and_true] at e
      exact ha e
    have e3 : List.drop (Int.toNat (.ofNat (b.length + 1))) ((a :: b) ++ [47]) = [47] := by
      rw [Z0, show b.length + 1 = (a :: b).length from rfl, List.drop_left]
    have e4 : List.take (Int.toNat (.ofNat (b.length + 1))) (List.drop 0 ((a :: b) ++ [47])) = a :: b := by
      rw [Z0, List.drop_zero, show b.length + 1 = (a :: b).length from rfl, List.take_left]
    rw [e2, e3, e4]
    refine Zf (Y9 (Zw (by omega))) (Zf (Zl (by omega)) (Zf rfl (Zf (Y9 (Zw (by omega))) (Zj rfl (Zf (Zl (by rw [Z0]; omega)) (Zj rfl (Zj rfl (Zf (Zl (by rw [Z0]; omega)) rfl))))))))
  · refine ⟨EBg, 100, Zqt p x, Zo0, Zbg, Zez, by kernel_rfl, V3 (by rfl), [true, true, true, true, true, true, false, true, true, true, true, true, true, false, false], ?_⟩
    refine Eq.trans (nd_l _ _ _ _) ?_
    have e1 : Za ([47] ++ Zk p) = (Zk p).length + 1 := by rw [Ym, List.length_append]; exact Nat.add_comm _ _
    rw [e1]
    have e2 : leq (List.take 1 (List.drop 0 ([47] ++ Zk p))) [47] = true := rfl
    have e3 : List.drop 1 ([47] ++ Zk p) = Zk p := rfl
    rw [e2, e3]
    have e4 : atT (Zk p) p = true := by unfold atT; rw [Zo, Z4 h1]; rfl
    have e5 : cuT (List.drop p l) x = true := by
      unfold cuT
      rw [h4, Zo, Z4 (by rw [Ym, List.length_drop]; omega)]; rfl
    exact Zf (Y9 (Zw (by omega))) (Zf (Zl (by omega)) (Zj rfl (Zf (Zl (by omega)) (Zf e4 (Zj (Yf (Y9 (Zw (by rw [Ym]; omega)))) (Zf (Zl (by rw [Ym]; exact h2)) (Zf e5 rfl)))))))
end
end Go.Proofs.YtmppdannkpdpmaaGreatDoor
