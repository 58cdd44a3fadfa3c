/- AsmJumps: what a run asks holds. -/
import Derived.Test.YthlcgkebfodnmaaGreatDoorAsJR2
import Derived.Test.YthlcgkebfodnmaaGreatDoorAsJText
namespace Go.Proofs.YthlcgkebfodnmaaGreatDoor
open Go Go.Vai
noncomputable section
set_option maxRecDepth 100000
theorem aj_true2 {n m : Nat} (hn : n ≤ 125) (hm : m = 127) : ajT2 n m (lin n m 2 1 0) (lin n m 0 0 1) (lin n m (-5) 0 (-1)) (txJ n m) = some (.bool true) := by
  have gn : n ≤ 300 := by omega
  have gm : m ≤ 300 := by omega
  have l1 := dgs_len n
  have l2 := dgs_len m
  have en : Int.ofNat n = lin n m 0 1 0 := lin_n
  have em : Int.ofNat m = lin n m 0 0 1 := lin_m
  have k0 : Int.ofNat 0 = lin n m 0 0 0 := lin_k 0
  have k1 : Int.ofNat 1 = lin n m 1 0 0 := lin_k 1
  have k2 : Int.ofNat 2 = lin n m 2 0 0 := lin_k 2
  have k5 : Int.ofNat 5 = lin n m 5 0 0 := lin_k 5
  have k6 : Int.ofNat 6 = lin n m 6 0 0 := lin_k 6
  have k127 : Int.ofNat 127 = lin n m 127 0 0 := lin_k 127
  have k1048576 : Int.ofNat 1048576 = lin n m 1048576 0 0 := lin_k 1048576
  have k2147483647 : Int.ofNat 2147483647 = lin n m 2147483647 0 0 := lin_k 2147483647
  have s127 : Int.negSucc 127 = lin n m (-128) 0 0 := lin_s 127
  have s2147483647 : Int.negSucc 2147483647 = lin n m (-2147483648) 0 0 := lin_s 2147483647
  have i0 : ilt (lin n m 0 1 0) (lin n m 0 0 0) = false := lin_f (by omega)
  have i1 : ilt (lin n m 1048576 0 0) (lin n m 0 1 0) = false := lin_f (by omega)
  have i2 : ilt (lin n m 0 0 1) (lin n m 0 0 0) = false := lin_f (by omega)
  have i3 : ilt (lin n m 1048576 0 0) (lin n m 0 0 1) = false := lin_f (by omega)
  have i4 : ilt (lin n m 2 1 0) (lin n m (-128) 0 0) = false := lin_f (by omega)
  have i5 : ilt (lin n m 127 0 0) (lin n m 2 1 0) = false := lin_f (by omega)
  have i6 : ilt (lin n m 0 0 1) (lin n m (-128) 0 0) = false := lin_f (by omega)
  have i7 : ilt (lin n m 127 0 0) (lin n m 0 0 1) = false := lin_f (by omega)
  have i8 : ilt (lin n m (-2) 0 (-1)) (lin n m (-128) 0 0) = true := lin_t (by omega)
  have i9 : ilt (lin n m (-5) 0 (-1)) (lin n m (-2147483648) 0 0) = false := lin_f (by omega)
  have i10 : ilt (lin n m 2147483647 0 0) (lin n m (-5) 0 (-1)) = false := lin_f (by omega)
  have i11 : ilt (lin n m 1048576 0 0) (lin n m 9 1 1) = false := lin_f (by omega)
  have d1 : dgT (Int.ofNat n) = true := by
    unfold dgT
    rw [ilt_nat, ilt_nat, blt_f (by omega), blt_t (by omega)]; rfl
  have d2 : dgT (Int.ofNat m) = true := by
    unfold dgT
    rw [ilt_nat, ilt_nat, blt_f (by omega), blt_t (by omega)]; rfl
  rw [en] at d1
  rw [em] at d2
  have b1 : Nat.ble (Nat.add 13 (lenU (dgs n))) 1099511627776 = true := ble_t (show 13 + (dgs n).length ≤ _ by omega)
  have b2 : Nat.ble (Nat.add (lenU ([106, 109, 112, 32, 98, 10, 46, 115, 112, 97, 99, 101, 32] ++ dgs n)) 17) 1099511627776 = true := ble_t (show ([106, 109, 112, 32, 98, 10, 46, 115, 112, 97, 99, 101, 32] ++ dgs n).length + 17 ≤ _ by simp only [List.length_append, List.length_cons, List.length_nil]; omega)
  have b3 : Nat.ble (Nat.add (lenU (([106, 109, 112, 32, 98, 10, 46, 115, 112, 97, 99, 101, 32] ++ dgs n) ++ [10, 106, 109, 112, 32, 99, 10, 98, 58, 32, 46, 115, 112, 97, 99, 101, 32])) (lenU (dgs m))) 1099511627776 = true := ble_t (show (([106, 109, 112, 32, 98, 10, 46, 115, 112, 97, 99, 101, 32] ++ dgs n) ++ [10, 106, 109, 112, 32, 99, 10, 98, 58, 32, 46, 115, 112, 97, 99, 101, 32]).length + (dgs m).length ≤ _ by simp only [List.length_append, List.length_cons, List.length_nil]; omega)
  have b4 : Nat.ble (Nat.add (lenU ((([106, 109, 112, 32, 98, 10, 46, 115, 112, 97, 99, 101, 32] ++ dgs n) ++ [10, 106, 109, 112, 32, 99, 10, 98, 58, 32, 46, 115, 112, 97, 99, 101, 32]) ++ dgs m)) 9) 1099511627776 = true := ble_t (show ((([106, 109, 112, 32, 98, 10, 46, 115, 112, 97, 99, 101, 32] ++ dgs n) ++ [10, 106, 109, 112, 32, 99, 10, 98, 58, 32, 46, 115, 112, 97, 99, 101, 32]) ++ dgs m).length + 9 ≤ _ by simp only [List.length_append, List.length_cons, List.length_nil]; omega)
  have c1 : Nat.blt 300 n = false := blt_f (by omega)
  have c2 : Nat.blt 300 m = false := blt_f (by omega)
  have c3 : Nat.blt 4611686018427387904 n = false := blt_f (by omega)
  have c4 : Nat.blt 4611686018427387904 m = false := blt_f (by omega)
  have t0 : Nat.ble (Nat.add 0 2) (Nat.add (Nat.add (Nat.add (Nat.add 2 n) 2) m) 5) = true := ble_t (show 0 + 2 ≤ 2 + n + 2 + m + 5 by omega)
  have t1 : Nat.ble (Nat.add (Nat.add 2 n) 2) (Nat.add (Nat.add (Nat.add (Nat.add 2 n) 2) m) 5) = true := ble_t (show 2 + n + 2 ≤ 2 + n + 2 + m + 5 by omega)
  have t2 : Nat.ble (Nat.add (Nat.add (Nat.add (Nat.add 2 n) 2) m) 5) (Nat.add (Nat.add (Nat.add (Nat.add 2 n) 2) m) 5) = true := ble_t (Nat.le_refl _)
  have t3 : Nat.blt (Nat.add (Nat.add (Nat.add (Nat.add 2 n) 2) m) 5) 1000000 = true := blt_t (show 2 + n + 2 + m + 5 < 1000000 by omega)
  have j0 := jAt0 (n := n) (m := m) (z0 := 2) (z1 := 2) (z2 := 5) (by decide) (by decide) (by decide) gn gm (lin n m 2 1 0) (lin n m 0 0 1) (lin n m (-5) 0 (-1))
  have j1 := jAt1 (n := n) (m := m) (z0 := 2) (z1 := 2) (z2 := 5) (by decide) (by decide) (by decide) gn gm (lin n m 2 1 0) (lin n m 0 0 1) (lin n m (-5) 0 (-1))
  have j2 := jAt2 (n := n) (m := m) (z0 := 2) (z1 := 2) (z2 := 5) (by decide) (by decide) (by decide) gn gm (lin n m 2 1 0) (lin n m 0 0 1) (lin n m (-5) 0 (-1))
  have bb : (true == true) = true ∧ (false == false) = true ∧ (true == false) = false ∧ (false == true) = false := ⟨rfl, rfl, rfl, rfl⟩
  have w := fun {c a b : Int} => lin_wrap (n := n) (m := m) (c := c) (a := a) (b := b) gn gm
  unfold ajT2 txJ
  simp only [-Int.reduceOfNat, -Int.reduceNegSucc, lin_nat, en, em, k0, k1, k2, k5, k6, k127, k1048576, k2147483647, s127, s2147483647, lin_add, lin_sub, lin_mod, w, Int.reduceAdd, Int.reduceSub, Int.reduceLE, Int.reduceNeg, i0, i1, i2, i3, i4, i5, i6, i7, i8, i9, i10, i11, d1, d2, b1, b2, b3, b4, c1, c2, c3, c4, t0, t1, t2, t3, j0, j1, j2, bb, ieq_self, leq_self, eqb_refl, Bool.not_true, Bool.not_false, Bool.or_true, Bool.or_false, Bool.true_or, Bool.false_or, bc_true, bc_false]
end
end Go.Proofs.YthlcgkebfodnmaaGreatDoor
