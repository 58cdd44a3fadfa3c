/- AsmJumps: the text's lines and words; the bytes' places; linear numbers. -/
import Derived.Test.YthlcgkebfodnmaaGreatDoorAsJR0
namespace Go.Proofs.YthlcgkebfodnmaaGreatDoor
open Go Go.Vai
noncomputable section
set_option maxRecDepth 100000
def nmP (b : List UInt8) : Pc := .lit b ⟨1, b, 0⟩
def sgP (c : UInt8) : Pc := .lit [c] ⟨4, [c], 0⟩
def no10 (s : List UInt8) : Prop := ∀ b ∈ s, b ≠ 10
theorem cut_app : ∀ {a r : List UInt8}, no10 a → cutL 10 (a ++ 10 :: r) = a :: cutL 10 r
  | [], r, _ => by
    show cutL 10 (10 :: r) = _
    rw [cutL_cons, if_pos rfl]
  | b :: a, r, h => by
    show cutL 10 (b :: (a ++ 10 :: r)) = _
    rw [cutL_cons, if_neg (h b List.mem_cons_self), cut_app fun x hx => h x (List.mem_cons_of_mem _ hx)]
    rfl
theorem cut_one : ∀ {a : List UInt8}, no10 a → cutL 10 a = [a]
  | [], _ => rfl
  | b :: a, h => by
    rw [cutL_cons, if_neg (h b List.mem_cons_self), cut_one fun x hx => h x (List.mem_cons_of_mem _ hx)]
    rfl
theorem dgs_no (n : Nat) : no10 (dgs n) := fun b hb e => by
  have := List.all_eq_true.1 (dgF_all 19 n) b hb
  rw [e] at this
  exact absurd this (by decide)
theorem no10_app {a b : List UInt8} (ha : no10 a) (hb : no10 b) : no10 (a ++ b) := fun x hx => by
  rcases List.mem_append.1 hx with h | h
  · exact ha x h
  · exact hb x h
theorem no10_of {a : List UInt8} (h : (a.all fun b => !(b == 10)) = true) : no10 a := fun b hb e => by
  have := List.all_eq_true.1 h b hb
  rw [e] at this
  exact absurd this (by decide)
def txJ (n m : Nat) : List UInt8 := ((([106, 109, 112, 32, 98, 10, 46, 115, 112, 97, 99, 101, 32] ++ dgs n) ++ [10, 106, 109, 112, 32, 99, 10, 98, 58, 32, 46, 115, 112, 97, 99, 101, 32]) ++ dgs m) ++ [10, 99, 58, 32, 106, 109, 112, 32, 98]
theorem txJ_cut (n m : Nat) : cutL 10 (txJ n m) = [[106, 109, 112] ++ [32, 98], [46, 115, 112, 97, 99, 101] ++ [32] ++ dgs n, [106, 109, 112] ++ [32, 99], [98, 58, 32] ++ ([46, 115, 112, 97, 99, 101] ++ [32]) ++ dgs m, [99, 58, 32] ++ ([106, 109, 112] ++ [32, 98])] := by
  have e : txJ n m = ([106, 109, 112] ++ [32, 98]) ++ 10 :: (([46, 115, 112, 97, 99, 101] ++ [32] ++ dgs n) ++ 10 :: (([106, 109, 112] ++ [32, 99]) ++ 10 :: (([98, 58, 32] ++ ([46, 115, 112, 97, 99, 101] ++ [32]) ++ dgs m) ++ 10 :: ([99, 58, 32] ++ ([106, 109, 112] ++ [32, 98]))))) := by
    unfold txJ
    simp [List.append_assoc]
  rw [e, cut_app (no10_of rfl), cut_app (no10_app (no10_of rfl) (dgs_no n)), cut_app (no10_of rfl), cut_app (no10_app (no10_of rfl) (dgs_no m)), cut_one (no10_of rfl)]
theorem lexj1 : lexR ([106, 109, 112] ++ [32, 98]) = ([(⟨1, [106, 109, 112], 0⟩, 0), (⟨1, [98], 0⟩, 4)], 0, 0) := lex_pcs (n := 0) (by decide) (r := [nmP [106, 109, 112], .bl, nmP [98]]) (by rfl)
theorem lexj3 : lexR ([106, 109, 112] ++ [32, 99]) = ([(⟨1, [106, 109, 112], 0⟩, 0), (⟨1, [99], 0⟩, 4)], 0, 0) := lex_pcs (n := 0) (by decide) (r := [nmP [106, 109, 112], .bl, nmP [99]]) (by rfl)
theorem lexj5 : lexR ([99, 58, 32] ++ ([106, 109, 112] ++ [32, 98])) = ([(⟨1, [99], 0⟩, 0), (⟨4, [58], 0⟩, 1), (⟨1, [106, 109, 112], 0⟩, 3), (⟨1, [98], 0⟩, 7)], 0, 0) := lex_pcs (n := 0) (by decide) (r := [nmP [99], sgP 58, .bl, nmP [106, 109, 112], .bl, nmP [98]]) (by rfl)
theorem lexj2 {n : Nat} (hn : n < 18446744073709551616) : lexR ([46, 115, 112, 97, 99, 101] ++ [32] ++ dgs n) = ([(⟨1, [46, 115, 112, 97, 99, 101], 0⟩, 0), (⟨2, [], n⟩, 7)], 0, 0) := by
  have := lex_pcs hn (r := [nmP [46, 115, 112, 97, 99, 101], .bl, .num]) (by rfl)
  have e : txt (dgs n) [nmP [46, 115, 112, 97, 99, 101], .bl, .num] = [46, 115, 112, 97, 99, 101] ++ [32] ++ dgs n := by
    show [46, 115, 112, 97, 99, 101] ++ (32 :: (dgs n ++ [])) = _
    simp
  rw [e] at this
  exact this
theorem lexj4 {n : Nat} (hn : n < 18446744073709551616) : lexR ([98, 58, 32] ++ ([46, 115, 112, 97, 99, 101] ++ [32]) ++ dgs n) = ([(⟨1, [98], 0⟩, 0), (⟨4, [58], 0⟩, 1), (⟨1, [46, 115, 112, 97, 99, 101], 0⟩, 3), (⟨2, [], n⟩, 10)], 0, 0) := by
  have := lex_pcs hn (r := [nmP [98], sgP 58, .bl, nmP [46, 115, 112, 97, 99, 101], .bl, .num]) (by rfl)
  have e : txt (dgs n) [nmP [98], sgP 58, .bl, nmP [46, 115, 112, 97, 99, 101], .bl, .num] = [98, 58, 32] ++ ([46, 115, 112, 97, 99, 101] ++ [32]) ++ dgs n := by
    show [98] ++ ([58] ++ (32 :: ([46, 115, 112, 97, 99, 101] ++ (32 :: (dgs n ++ []))))) = _
    simp
  rw [e] at this
  exact this
theorem txJ_lin {n m : Nat} (hn : n ≤ 300) (hm : m ≤ 300) : linG (txJ n m) = true ∧ linO (txJ n m) = wsJ n m := by
  unfold linG linO
  rw [txJ_cut]
  have l1 := lexj1
  have l2 := lexj2 (n := n) (by omega)
  have l3 := lexj3
  have l4 := lexj4 (n := m) (by omega)
  have l5 := lexj5
  constructor
  · simp only [List.all_cons, List.all_nil, l1, l2, l3, l4, l5]; rfl
  · simp only [List.map_cons, List.map_nil, l1, l2, l3, l4, l5]; rfl
theorem dgs_len (n : Nat) : (dgs n).length ≤ 20 := (dgF_len 19 n).2
theorem txJ_len (n m : Nat) : (txJ n m).length ≤ 262144 := by
  have h1 := dgs_len n
  have h2 := dgs_len m
  unfold txJ
  simp only [List.length_append, List.length_cons, List.length_nil]
  omega
theorem jcB_len {z : Nat} (h : z = 2 ∨ z = 5) (d : Int) : (jcB z d).length = z := by rcases h with rfl | rfl <;> rfl
theorem allAt_of {T : Tr AV} : ∀ {l : List UInt8} {a : Nat}, (∀ j b, l[j]? = some b → T.get (a + j) = some (byteAV b)) → allAt T a l = true
  | [], _, _ => rfl
  | b :: l, a, h => by
    show (hasB (T.get a) b && allAt T (Nat.succ a) l) = true
    have h0 : T.get a = some (byteAV b) := h 0 b rfl
    rw [h0, allAt_of (l := l) fun j c hc => by have := h (j + 1) c hc; rwa [show Nat.succ a + j = a + (j + 1) by omega], Bool.and_true]
    exact eqb_refl _
section
variable {n m z0 z1 z2 : Nat} (h0 : z0 = 2 ∨ z0 = 5) (h1 : z1 = 2 ∨ z1 = 5) (h2 : z2 = 2 ∨ z2 = 5) (hn : n ≤ 300) (hm : m ≤ 300) (d0 d1 d2 : Int)
include h0 h1 h2 hn hm
theorem byJ_row : RowB (bT (byJ n m z0 z1 z2 d0 d1 d2)) (byJ n m z0 z1 z2 d0 d1 d2) := rowB_bT (by
  have e47 : (2 : Nat) ^ 47 = 140737488355328 := by decide
  unfold byJ
  rw [byJL_len, jcB_len h0, jcB_len h1, jcB_len h2]
  omega)
theorem jAt0 : jAt (bT (byJ n m z0 z1 z2 d0 d1 d2)) 0 z0 d0 = true := allAt_of fun j b hb => by
  refine byJ_row h0 h1 h2 hn hm d0 d1 d2 _ b ?_
  have hj := (List.getElem?_eq_some_iff.1 hb).1
  unfold byJ byJL
  rw [Nat.zero_add, List.append_assoc, List.append_assoc, List.append_assoc, List.getElem?_append_left hj]
  exact hb
theorem jAt1 : jAt (bT (byJ n m z0 z1 z2 d0 d1 d2)) (Nat.add z0 n) z1 d1 = true := allAt_of fun j b hb => by
  refine byJ_row h0 h1 h2 hn hm d0 d1 d2 _ b ?_
  have hj := (List.getElem?_eq_some_iff.1 hb).1
  have e : (jcB z0 d0 ++ List.replicate n 0).length = z0 + n := by rw [List.length_append, jcB_len h0, List.length_replicate]
  have e2 : Nat.add z0 n + j = z0 + n + j := rfl
  unfold byJ byJL
  rw [e2, List.append_assoc, List.append_assoc, List.getElem?_append_right (by omega), e, Nat.add_sub_cancel_left, List.getElem?_append_left hj]
  exact hb
theorem jAt2 : jAt (bT (byJ n m z0 z1 z2 d0 d1 d2)) (Nat.add (Nat.add (Nat.add z0 n) z1) m) z2 d2 = true := allAt_of fun j b hb => by
  refine byJ_row h0 h1 h2 hn hm d0 d1 d2 _ b ?_
  have e : (jcB z0 d0 ++ List.replicate n 0 ++ jcB z1 d1 ++ List.replicate m 0).length = z0 + n + z1 + m := by simp only [List.length_append, jcB_len h0, jcB_len h1, List.length_replicate]
  have e2 : Nat.add (Nat.add (Nat.add z0 n) z1) m + j = z0 + n + z1 + m + j := rfl
  unfold byJ byJL
  rw [e2, List.getElem?_append_right (by omega), e, Nat.add_sub_cancel_left]
  exact hb
end
def lin (n m : Nat) (c a b : Int) : Int := c + a * n + b * m
section
variable {n m : Nat} {a b c d e f : Int}
theorem lin_n : Int.ofNat n = lin n m 0 1 0 := by unfold lin; show (n : Int) = _; omega
theorem lin_m : Int.ofNat m = lin n m 0 0 1 := by unfold lin; show (m : Int) = _; omega
theorem lin_k (k : Nat) : Int.ofNat k = lin n m (k : Int) 0 0 := by unfold lin; show (k : Int) = _; omega
theorem lin_s (k : Nat) : Int.negSucc k = lin n m (-(k : Int) - 1) 0 0 := by unfold lin; omega
theorem lin_add : Int.add (lin n m a b c) (lin n m d e f) = lin n m (a + d) (b + e) (c + f) := by
  unfold lin
  show (a + b * n + c * m) + (d + e * n + f * m) = _
  rw [Int.add_mul, Int.add_mul]; omega
theorem lin_sub : Int.sub (lin n m a b c) (lin n m d e f) = lin n m (a - d) (b - e) (c - f) := by
  unfold lin
  show (a + b * n + c * m) - (d + e * n + f * m) = _
  rw [Int.sub_mul, Int.sub_mul]; omega
theorem lin_nat (x y : Nat) : Int.ofNat (Nat.add x y) = Int.add (.ofNat x) (.ofNat y) := rfl
theorem lin_mod (x : Int) : Int.tmod x (lin n m 1 0 0) = lin n m 0 0 0 := by
  have e1 : lin n m 1 0 0 = 1 := by unfold lin; omega
  have e2 : lin n m 0 0 0 = 0 := by unfold lin; omega
  rw [e1, e2, Int.tmod_one]
theorem wrap_i64Z {x : Int} (h1 : -9223372036854775808 ≤ x) (h2 : x ≤ 9223372036854775807) : wrapR .i64 x = x := by
  have hr : inR .i64 x = true := by
    cases x with
    | ofNat k => exact inR_nat (k := .i64) (n := k) (by show k < 9223372036854775808; have : (k : Int) ≤ 9223372036854775807 := h2; omega)
    | negSucc k => show Nat.blt k 9223372036854775808 = true; rw [Nat.blt_eq]; omega
  unfold wrapR
  rw [hr]; rfl
theorem lin_wrap (hn : n ≤ 300) (hm : m ≤ 300) (h1 : -100000 ≤ c) (h2 : c ≤ 100000) (h3 : -8 ≤ a) (h4 : a ≤ 8) (h5 : -8 ≤ b) (h6 : b ≤ 8) : wrapR .i64 (lin n m c a b) = lin n m c a b := by
  have k1 : -2400 ≤ a * n := by
    have : (-8) * (n : Int) ≤ a * n := Int.mul_le_mul_of_nonneg_right h3 (by omega)
    omega
  have k2 : a * n ≤ 2400 := by
    have : a * (n : Int) ≤ 8 * n := Int.mul_le_mul_of_nonneg_right h4 (by omega)
    omega
  have k3 : -2400 ≤ b * m := by
    have : (-8) * (m : Int) ≤ b * m := Int.mul_le_mul_of_nonneg_right h5 (by omega)
    omega
  have k4 : b * m ≤ 2400 := by
    have : b * (m : Int) ≤ 8 * m := Int.mul_le_mul_of_nonneg_right h6 (by omega)
    omega
  exact wrap_i64Z (by unfold lin; omega) (by unfold lin; omega)
theorem lin_t (h : a + b * n + c * m < d + e * n + f * m) : ilt (lin n m a b c) (lin n m d e f) = true := by
  rw [ilt_iff]; exact decide_eq_true h
theorem lin_f (h : ¬ (a + b * n + c * m < d + e * n + f * m)) : ilt (lin n m a b c) (lin n m d e f) = false := by
  rw [ilt_iff]; exact decide_eq_false h
end
end
end Go.Proofs.YthlcgkebfodnmaaGreatDoor
namespace Go.Proofs.YthlcgkebfodnmaaGreatDoor
open Go Go.Vai
noncomputable section
set_option maxRecDepth 100000
theorem aj_true0 {n m : Nat} (hn : n ≤ 125) (hm : m ≤ 126) : ajT0 n m (lin n m 2 1 0) (lin n m 0 0 1) (lin n m (-2) 0 (-1)) (txJ n m) = some (.bool true) := by
  have gn : n ≤ 300 := by omega
  have gm : m ≤ 300 := by omega
  have l1 := dgs_len n
  have l2 := dgs_len m
  have en : Int.ofNat n = lin n m 0 1 0 := lin_n
  have em : Int.ofNat m = lin n m 0 0 1 := lin_m
  have k0 : Int.ofNat 0 = lin n m 0 0 0 := lin_k 0
  have k1 : Int.ofNat 1 = lin n m 1 0 0 := lin_k 1
  have k2 : Int.ofNat 2 = lin n m 2 0 0 := lin_k 2
  have k5 : Int.ofNat 5 = lin n m 5 0 0 := lin_k 5
  have k6 : Int.ofNat 6 = lin n m 6 0 0 := lin_k 6
  have k127 : Int.ofNat 127 = lin n m 127 0 0 := lin_k 127
  have k1048576 : Int.ofNat 1048576 = lin n m 1048576 0 0 := lin_k 1048576
  have s127 : Int.negSucc 127 = lin n m (-128) 0 0 := lin_s 127
  have i0 : ilt (lin n m 0 1 0) (lin n m 0 0 0) = false := lin_f (by omega)
  have i1 : ilt (lin n m 1048576 0 0) (lin n m 0 1 0) = false := lin_f (by omega)
  have i2 : ilt (lin n m 0 0 1) (lin n m 0 0 0) = false := lin_f (by omega)
  have i3 : ilt (lin n m 1048576 0 0) (lin n m 0 0 1) = false := lin_f (by omega)
  have i4 : ilt (lin n m 2 1 0) (lin n m (-128) 0 0) = false := lin_f (by omega)
  have i5 : ilt (lin n m 127 0 0) (lin n m 2 1 0) = false := lin_f (by omega)
  have i6 : ilt (lin n m 0 0 1) (lin n m (-128) 0 0) = false := lin_f (by omega)
  have i7 : ilt (lin n m 127 0 0) (lin n m 0 0 1) = false := lin_f (by omega)
  have i8 : ilt (lin n m (-2) 0 (-1)) (lin n m (-128) 0 0) = false := lin_f (by omega)
  have i9 : ilt (lin n m 127 0 0) (lin n m (-2) 0 (-1)) = false := lin_f (by omega)
  have i10 : ilt (lin n m 1048576 0 0) (lin n m 6 1 1) = false := lin_f (by omega)
  have d1 : dgT (Int.ofNat n) = true := by
    unfold dgT
    rw [ilt_nat, ilt_nat, blt_f (by omega), blt_t (by omega)]; rfl
  have d2 : dgT (Int.ofNat m) = true := by
    unfold dgT
    rw [ilt_nat, ilt_nat, blt_f (by omega), blt_t (by omega)]; rfl
  rw [en] at d1
  rw [em] at d2
  have b1 : Nat.ble (Nat.add 13 (lenU (dgs n))) 1099511627776 = true := ble_t (show 13 + (dgs n).length ≤ _ by omega)
  have b2 : Nat.ble (Nat.add (lenU ([106, 109, 112, 32, 98, 10, 46, 115, 112, 97, 99, 101, 32] ++ dgs n)) 17) 1099511627776 = true := ble_t (show ([106, 109, 112, 32, 98, 10, 46, 115, 112, 97, 99, 101, 32] ++ dgs n).length + 17 ≤ _ by simp only [List.length_append, List.length_cons, List.length_nil]; omega)
  have b3 : Nat.ble (Nat.add (lenU (([106, 109, 112, 32, 98, 10, 46, 115, 112, 97, 99, 101, 32] ++ dgs n) ++ [10, 106, 109, 112, 32, 99, 10, 98, 58, 32, 46, 115, 112, 97, 99, 101, 32])) (lenU (dgs m))) 1099511627776 = true := ble_t (show (([106, 109, 112, 32, 98, 10, 46, 115, 112, 97, 99, 101, 32] ++ dgs n) ++ [10, 106, 109, 112, 32, 99, 10, 98, 58, 32, 46, 115, 112, 97, 99, 101, 32]).length + (dgs m).length ≤ _ by simp only [List.length_append, List.length_cons, List.length_nil]; omega)
  have b4 : Nat.ble (Nat.add (lenU ((([106, 109, 112, 32, 98, 10, 46, 115, 112, 97, 99, 101, 32] ++ dgs n) ++ [10, 106, 109, 112, 32, 99, 10, 98, 58, 32, 46, 115, 112, 97, 99, 101, 32]) ++ dgs m)) 9) 1099511627776 = true := ble_t (show ((([106, 109, 112, 32, 98, 10, 46, 115, 112, 97, 99, 101, 32] ++ dgs n) ++ [10, 106, 109, 112, 32, 99, 10, 98, 58, 32, 46, 115, 112, 97, 99, 101, 32]) ++ dgs m).length + 9 ≤ _ by simp only [List.length_append, List.length_cons, List.length_nil]; omega)
  have c1 : Nat.blt 300 n = false := blt_f (by omega)
  have c2 : Nat.blt 300 m = false := blt_f (by omega)
  have c3 : Nat.blt 4611686018427387904 n = false := blt_f (by omega)
  have c4 : Nat.blt 4611686018427387904 m = false := blt_f (by omega)
  have t0 : Nat.ble (Nat.add 0 2) (Nat.add (Nat.add (Nat.add (Nat.add 2 n) 2) m) 2) = true := ble_t (show 0 + 2 ≤ 2 + n + 2 + m + 2 by omega)
  have t1 : Nat.ble (Nat.add (Nat.add 2 n) 2) (Nat.add (Nat.add (Nat.add (Nat.add 2 n) 2) m) 2) = true := ble_t (show 2 + n + 2 ≤ 2 + n + 2 + m + 2 by omega)
  have t2 : Nat.ble (Nat.add (Nat.add (Nat.add (Nat.add 2 n) 2) m) 2) (Nat.add (Nat.add (Nat.add (Nat.add 2 n) 2) m) 2) = true := ble_t (Nat.le_refl _)
  have t3 : Nat.blt (Nat.add (Nat.add (Nat.add (Nat.add 2 n) 2) m) 2) 1000000 = true := blt_t (show 2 + n + 2 + m + 2 < 1000000 by omega)
  have j0 := jAt0 (n := n) (m := m) (z0 := 2) (z1 := 2) (z2 := 2) (by decide) (by decide) (by decide) gn gm (lin n m 2 1 0) (lin n m 0 0 1) (lin n m (-2) 0 (-1))
  have j1 := jAt1 (n := n) (m := m) (z0 := 2) (z1 := 2) (z2 := 2) (by decide) (by decide) (by decide) gn gm (lin n m 2 1 0) (lin n m 0 0 1) (lin n m (-2) 0 (-1))
  have j2 := jAt2 (n := n) (m := m) (z0 := 2) (z1 := 2) (z2 := 2) (by decide) (by decide) (by decide) gn gm (lin n m 2 1 0) (lin n m 0 0 1) (lin n m (-2) 0 (-1))
  have bb : (true == true) = true ∧ (false == false) = true ∧ (true == false) = false ∧ (false == true) = false := ⟨rfl, rfl, rfl, rfl⟩
  have w := fun {c a b : Int} => lin_wrap (n := n) (m := m) (c := c) (a := a) (b := b) gn gm
  unfold ajT0 txJ
  simp only [-Int.reduceOfNat, -Int.reduceNegSucc, lin_nat, en, em, k0, k1, k2, k5, k6, k127, k1048576, s127, lin_add, lin_sub, lin_mod, w, Int.reduceAdd, Int.reduceSub, Int.reduceLE, Int.reduceNeg, i0, i1, i2, i3, i4, i5, i6, i7, i8, i9, i10, d1, d2, b1, b2, b3, b4, c1, c2, c3, c4, t0, t1, t2, t3, j0, j1, j2, bb, ieq_self, leq_self, eqb_refl, Bool.not_true, Bool.not_false, Bool.or_true, Bool.or_false, Bool.true_or, Bool.false_or, bc_true, bc_false]
end
end Go.Proofs.YthlcgkebfodnmaaGreatDoor
