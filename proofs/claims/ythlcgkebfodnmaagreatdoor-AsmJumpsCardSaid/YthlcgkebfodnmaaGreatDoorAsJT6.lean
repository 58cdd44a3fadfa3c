/- AsmJumps: what a run asks holds. -/
import Derived.Test.YthlcgkebfodnmaaGreatDoorAsJR6
import Derived.Test.YthlcgkebfodnmaaGreatDoorAsJT1
import Derived.Test.YthlcgkebfodnmaaGreatDoorAsJT2
import Derived.Test.YthlcgkebfodnmaaGreatDoorAsJT3
import Derived.Test.YthlcgkebfodnmaaGreatDoorAsJT4
import Derived.Test.YthlcgkebfodnmaaGreatDoorAsJT5
namespace Go.Proofs.YthlcgkebfodnmaaGreatDoor
open Go Go.Vai
noncomputable section
set_option maxRecDepth 100000
theorem aj_true6 {n m : Nat} (hn : 126 ≤ n ∧ n ≤ 300) (hm : 128 ≤ m ∧ m ≤ 300) : ajT6 n m (lin n m 5 1 0) (lin n m 0 0 1) (lin n m (-5) 0 (-1)) (txJ n m) = some (.bool true) := by
  have gn : n ≤ 300 := by omega
  have gm : m ≤ 300 := by omega
  have l1 := dgs_len n
  have l2 := dgs_len m
  have en : Int.ofNat n = lin n m 0 1 0 := lin_n
  have em : Int.ofNat m = lin n m 0 0 1 := lin_m
  have k0 : Int.ofNat 0 = lin n m 0 0 0 := lin_k 0
  have k1 : Int.ofNat 1 = lin n m 1 0 0 := lin_k 1
  have k2 : Int.ofNat 2 = lin n m 2 0 0 := lin_k 2
  have k3 : Int.ofNat 3 = lin n m 3 0 0 := lin_k 3
  have k5 : Int.ofNat 5 = lin n m 5 0 0 := lin_k 5
  have k6 : Int.ofNat 6 = lin n m 6 0 0 := lin_k 6
  have k127 : Int.ofNat 127 = lin n m 127 0 0 := lin_k 127
  have k1048576 : Int.ofNat 1048576 = lin n m 1048576 0 0 := lin_k 1048576
  have k2147483647 : Int.ofNat 2147483647 = lin n m 2147483647 0 0 := lin_k 2147483647
  have s127 : Int.negSucc 127 = lin n m (-128) 0 0 := lin_s 127
  have s2147483647 : Int.negSucc 2147483647 = lin n m (-2147483648) 0 0 := lin_s 2147483647
  have i0 : ilt (lin n m 0 1 0) (lin n m 0 0 0) = false := lin_f (by omega)
  have i1 : ilt (lin n m 1048576 0 0) (lin n m 0 1 0) = false := lin_f (by omega)
  have i2 : ilt (lin n m 0 0 1) (lin n m 0 0 0) = false := lin_f (by omega)
  have i3 : ilt (lin n m 1048576 0 0) (lin n m 0 0 1) = false := lin_f (by omega)
  have i4 : ilt (lin n m 2 1 0) (lin n m (-128) 0 0) = false := lin_f (by omega)
  have i5 : ilt (lin n m 127 0 0) (lin n m 2 1 0) = true := lin_t (by omega)
  have i6 : ilt (lin n m 0 0 1) (lin n m (-128) 0 0) = false := lin_f (by omega)
  have i7 : ilt (lin n m 127 0 0) (lin n m 0 0 1) = true := lin_t (by omega)
  have i8 : ilt (lin n m (-2) 0 (-1)) (lin n m (-128) 0 0) = true := lin_t (by omega)
  have i9 : ilt (lin n m 5 1 0) (lin n m (-2147483648) 0 0) = false := lin_f (by omega)
  have i10 : ilt (lin n m 2147483647 0 0) (lin n m 5 1 0) = false := lin_f (by omega)
  have i11 : ilt (lin n m 0 0 1) (lin n m (-2147483648) 0 0) = false := lin_f (by omega)
  have i12 : ilt (lin n m 2147483647 0 0) (lin n m 0 0 1) = false := lin_f (by omega)
  have i13 : ilt (lin n m (-5) 0 (-1)) (lin n m (-2147483648) 0 0) = false := lin_f (by omega)
  have i14 : ilt (lin n m 2147483647 0 0) (lin n m (-5) 0 (-1)) = false := lin_f (by omega)
  have i15 : ilt (lin n m 1048576 0 0) (lin n m 15 1 1) = false := lin_f (by omega)
  have i16 : ilt (lin n m 5 1 0) (lin n m (-128) 0 0) = false := lin_f (by omega)
  have i17 : ilt (lin n m 127 0 0) (lin n m 5 1 0) = true := lin_t (by omega)
  have d1 : dgT (Int.ofNat n) = true := by
    unfold dgT
    rw [ilt_nat, ilt_nat, blt_f (by omega), blt_t (by omega)]; rfl
  have d2 : dgT (Int.ofNat m) = true := by
    unfold dgT
    rw [ilt_nat, ilt_nat, blt_f (by omega), blt_t (by omega)]; rfl
  rw [en] at d1
  rw [em] at d2
  have b1 : Nat.ble (Nat.add 13 (lenU (dgs n))) 1099511627776 = true := ble_t (show 13 + (dgs n).length ≤ _ by omega)
  have b2 : Nat.ble (Nat.add (lenU ([106, 109, 112, 32, 98, 10, 46, 115, 112, 97, 99, 101, 32] ++ dgs n)) 17) 1099511627776 = true := ble_t (show ([106, 109, 112, 32, 98, 10, 46, 115, 112, 97, 99, 101, 32] ++ dgs n).length + 17 ≤ _ by simp only [List.length_append, List.length_cons, List.length_nil]; omega)
  have b3 : Nat.ble (Nat.add (lenU (([106, 109, 112, 32, 98, 10, 46, 115, 112, 97, 99, 101, 32] ++ dgs n) ++ [10, 106, 109, 112, 32, 99, 10, 98, 58, 32, 46, 115, 112, 97, 99, 101, 32])) (lenU (dgs m))) 1099511627776 = true := ble_t (show (([106, 109, 112, 32, 98, 10, 46, 115, 112, 97, 99, 101, 32] ++ dgs n) ++ [10, 106, 109, 112, 32, 99, 10, 98, 58, 32, 46, 115, 112, 97, 99, 101, 32]).length + (dgs m).length ≤ _ by simp only [List.length_append, List.length_cons, List.length_nil]; omega)
  have b4 : Nat.ble (Nat.add (lenU ((([106, 109, 112, 32, 98, 10, 46, 115, 112, 97, 99, 101, 32] ++ dgs n) ++ [10, 106, 109, 112, 32, 99, 10, 98, 58, 32, 46, 115, 112, 97, 99, 101, 32]) ++ dgs m)) 9) 1099511627776 = true := ble_t (show ((([106, 109, 112, 32, 98, 10, 46, 115, 112, 97, 99, 101, 32] ++ dgs n) ++ [10, 106, 109, 112, 32, 99, 10, 98, 58, 32, 46, 115, 112, 97, 99, 101, 32]) ++ dgs m).length + 9 ≤ _ by simp only [List.length_append, List.length_cons, List.length_nil]; omega)
  have c1 : Nat.blt 300 n = false := blt_f (by omega)
  have c2 : Nat.blt 300 m = false := blt_f (by omega)
  have c3 : Nat.blt 4611686018427387904 n = false := blt_f (by omega)
  have c4 : Nat.blt 4611686018427387904 m = false := blt_f (by omega)
  have t0 : Nat.ble (Nat.add 0 5) (Nat.add (Nat.add (Nat.add (Nat.add 5 n) 5) m) 5) = true := ble_t (show 0 + 5 ≤ 5 + n + 5 + m + 5 by omega)
  have t1 : Nat.ble (Nat.add (Nat.add 5 n) 5) (Nat.add (Nat.add (Nat.add (Nat.add 5 n) 5) m) 5) = true := ble_t (show 5 + n + 5 ≤ 5 + n + 5 + m + 5 by omega)
  have t2 : Nat.ble (Nat.add (Nat.add (Nat.add (Nat.add 5 n) 5) m) 5) (Nat.add (Nat.add (Nat.add (Nat.add 5 n) 5) m) 5) = true := ble_t (Nat.le_refl _)
  have t3 : Nat.blt (Nat.add (Nat.add (Nat.add (Nat.add 5 n) 5) m) 5) 1000000 = true := blt_t (show 5 + n + 5 + m + 5 < 1000000 by omega)
  have j0 := jAt0 (n := n) (m := m) (z0 := 5) (z1 := 5) (z2 := 5) (by decide) (by decide) (by decide) gn gm (lin n m 5 1 0) (lin n m 0 0 1) (lin n m (-5) 0 (-1))
  have j1 := jAt1 (n := n) (m := m) (z0 := 5) (z1 := 5) (z2 := 5) (by decide) (by decide) (by decide) gn gm (lin n m 5 1 0) (lin n m 0 0 1) (lin n m (-5) 0 (-1))
  have j2 := jAt2 (n := n) (m := m) (z0 := 5) (z1 := 5) (z2 := 5) (by decide) (by decide) (by decide) gn gm (lin n m 5 1 0) (lin n m 0 0 1) (lin n m (-5) 0 (-1))
  have bb : (true == true) = true ∧ (false == false) = true ∧ (true == false) = false ∧ (false == true) = false := ⟨rfl, rfl, rfl, rfl⟩
  have w := fun {c a b : Int} => lin_wrap (n := n) (m := m) (c := c) (a := a) (b := b) gn gm
  unfold ajT6 txJ
  simp only [-Int.reduceOfNat, -Int.reduceNegSucc, lin_nat, en, em, k0, k1, k2, k3, k5, k6, k127, k1048576, k2147483647, s127, s2147483647, lin_add, lin_sub, lin_mod, w, Int.reduceAdd, Int.reduceSub, Int.reduceLE, Int.reduceNeg, i0, i1, i2, i3, i4, i5, i6, i7, i8, i9, i10, i11, i12, i13, i14, i15, i16, i17, d1, d2, b1, b2, b3, b4, c1, c2, c3, c4, t0, t1, t2, t3, j0, j1, j2, bb, ieq_self, leq_self, eqb_refl, Bool.not_true, Bool.not_false, Bool.or_true, Bool.or_false, Bool.true_or, Bool.false_or, bc_true, bc_false]
end
end Go.Proofs.YthlcgkebfodnmaaGreatDoor
namespace Go.Proofs.YthlcgkebfodnmaaGreatDoor
open Go Go.Vai
noncomputable section
set_option maxRecDepth 100000
theorem lawJ_fn (x : JP) (d0 d1 d2 : Int) : ((EJ x d0 d1 d2).fn 4).isSome = true := by kernel_rfl
def LawR (a b : Int) : Prop := ∃ E : Env, (∀ w, GlobOk gl w → EnvOk E Tryz.prog (Kept gl w)) ∧ E.ng = 12 ∧ (E.fn 4).isSome = true ∧ ∃ n H1, run E n (.call 4 [.int .i64 a, .int .i64 b] (gHeap 12 gl)) = some (.call (.ret (.bool true) H1))
theorem law_of {x : JP} {d0 d1 d2 : Int} {s : Smk AV} {a b : Int} {o : Orc} (hx : x.Ok (jcB x.k0 d0) (jcB x.k1 d1) (jcB x.k2 d2)) (hs : SmkOk (EJ x d0 d1 d2) s) (h : callPS (EJ x d0 d1 d2) s noPin 1000 (.call 4 [.int .i64 a, .int .i64 b] (gHeap 12 gl)) o kJ = some (.bool true)) : LawR a b := by
  refine ⟨EJ x d0 d1 d2, fun w hw => ej_ok hx (fun _ _ _ h => Kept.jg hw h) (kept_carried hw), rfl, lawJ_fn x d0 d1 d2, 1000, ?_⟩
  obtain ⟨x, o', e, hk⟩ := callPS_ok (EJ x d0 d1 d2) hs noPin 1000 _ _ _ _ h
  unfold kJ at hk
  split at hk
  · rename_i c H1
    simp only [Option.some.injEq, AV.bool.injEq] at hk
    subst hk
    exact ⟨H1, e⟩
  · cases hk
theorem jp_ok {n m z0 z1 z2 : Nat} (h0 : z0 = 2 ∨ z0 = 5) (h1 : z1 = 2 ∨ z1 = 5) (h2 : z2 = 2 ∨ z2 = 5) (hn : n ≤ 300) (hm : m ≤ 300) (d0 d1 d2 : Int) : (jpOf n m z0 z1 z2).Ok (jcB z0 d0) (jcB z1 d1) (jcB z2 d2) :=
  ⟨jcB_len h0 d0, jcB_len h1 d1, jcB_len h2 d2, show n ≤ 5000 by omega, show m ≤ 5000 by omega, show z0 ≤ 5 by omega, show z1 ≤ 5 by omega, show z2 ≤ 5 by omega, show 0 < z0 by omega, show 0 < z1 by omega, show 0 < z2 by omega⟩
theorem sc_ok {α : Type} {E : Env} : SmkOk (α := α) E (fun f a H k => smC E f a H k) := fun _ _ _ _ _ h => smC_ok _ _ _ _ _ _ h
theorem law_c0 {n m : Nat} (hn : n ≤ 125) (hm : m ≤ 126) : LawR (.ofNat n) (.ofNat m) := by
  have gn : n ≤ 300 := by omega
  have gm : m ≤ 300 := by omega
  have t := txJ_lin gn gm
  exact law_of (x := jpOf n m 2 2 2) (jp_ok (by decide) (by decide) (by decide) gn gm (lin n m 2 1 0) (lin n m 0 0 1) (lin n m (-2) 0 (-1))) (skj_ok (x := jpOf n m 2 2 2) (txJ_len n m) t.1 t.2 (.inl ⟨rfl, by unfold lin; omega, by unfold lin; omega⟩) (.inl ⟨rfl, by unfold lin; omega, by unfold lin; omega⟩) (.inl ⟨rfl, by unfold lin; omega, by unfold lin; omega⟩)) ((aj_run0 n m (lin n m 2 1 0) (lin n m 0 0 1) (lin n m (-2) 0 (-1)) (txJ n m)).trans (aj_true0 hn hm))
theorem law_c1 {n m : Nat} (hn : 126 ≤ n ∧ n ≤ 300) (hm : m ≤ 126) : LawR (.ofNat n) (.ofNat m) := by
  have gn : n ≤ 300 := by omega
  have gm : m ≤ 300 := by omega
  have t := txJ_lin gn gm
  exact law_of (x := jpOf n m 5 2 2) (jp_ok (by decide) (by decide) (by decide) gn gm (lin n m 2 1 0) (lin n m 0 0 1) (lin n m (-2) 0 (-1))) (skj_ok (x := jpOf n m 5 2 2) (txJ_len n m) t.1 t.2 (.inr ⟨rfl, by unfold lin; omega, by unfold lin; omega⟩) (.inl ⟨rfl, by unfold lin; omega, by unfold lin; omega⟩) (.inl ⟨rfl, by unfold lin; omega, by unfold lin; omega⟩)) ((aj_run1 n m (lin n m 2 1 0) (lin n m 0 0 1) (lin n m (-2) 0 (-1)) (txJ n m)).trans (aj_true1 hn hm))
theorem law_c2 {n m : Nat} (hn : n ≤ 125) (hm : m = 127) : LawR (.ofNat n) (.ofNat m) := by
  have gn : n ≤ 300 := by omega
  have gm : m ≤ 300 := by omega
  have t := txJ_lin gn gm
  exact law_of (x := jpOf n m 2 2 5) (jp_ok (by decide) (by decide) (by decide) gn gm (lin n m 2 1 0) (lin n m 0 0 1) (lin n m (-5) 0 (-1))) (skj_ok (x := jpOf n m 2 2 5) (txJ_len n m) t.1 t.2 (.inl ⟨rfl, by unfold lin; omega, by unfold lin; omega⟩) (.inl ⟨rfl, by unfold lin; omega, by unfold lin; omega⟩) (.inr ⟨rfl, by unfold lin; omega, by unfold lin; omega⟩)) ((aj_run2 n m (lin n m 2 1 0) (lin n m 0 0 1) (lin n m (-5) 0 (-1)) (txJ n m)).trans (aj_true2 hn hm))
theorem law_c3 {n m : Nat} (hn : 126 ≤ n ∧ n ≤ 300) (hm : m = 127) : LawR (.ofNat n) (.ofNat m) := by
  have gn : n ≤ 300 := by omega
  have gm : m ≤ 300 := by omega
  have t := txJ_lin gn gm
  exact law_of (x := jpOf n m 5 2 5) (jp_ok (by decide) (by decide) (by decide) gn gm (lin n m 2 1 0) (lin n m 0 0 1) (lin n m (-5) 0 (-1))) (skj_ok (x := jpOf n m 5 2 5) (txJ_len n m) t.1 t.2 (.inr ⟨rfl, by unfold lin; omega, by unfold lin; omega⟩) (.inl ⟨rfl, by unfold lin; omega, by unfold lin; omega⟩) (.inr ⟨rfl, by unfold lin; omega, by unfold lin; omega⟩)) ((aj_run3 n m (lin n m 2 1 0) (lin n m 0 0 1) (lin n m (-5) 0 (-1)) (txJ n m)).trans (aj_true3 hn hm))
theorem law_c4 {n m : Nat} (hn : n ≤ 122) (hm : 128 ≤ m ∧ m ≤ 300) : LawR (.ofNat n) (.ofNat m) := by
  have gn : n ≤ 300 := by omega
  have gm : m ≤ 300 := by omega
  have t := txJ_lin gn gm
  exact law_of (x := jpOf n m 2 5 5) (jp_ok (by decide) (by decide) (by decide) gn gm (lin n m 5 1 0) (lin n m 0 0 1) (lin n m (-5) 0 (-1))) (skj_ok (x := jpOf n m 2 5 5) (txJ_len n m) t.1 t.2 (.inl ⟨rfl, by unfold lin; omega, by unfold lin; omega⟩) (.inr ⟨rfl, by unfold lin; omega, by unfold lin; omega⟩) (.inr ⟨rfl, by unfold lin; omega, by unfold lin; omega⟩)) ((aj_run4 n m (lin n m 5 1 0) (lin n m 0 0 1) (lin n m (-5) 0 (-1)) (txJ n m)).trans (aj_true4 hn hm))
theorem law_c5 {n m : Nat} (hn : 123 ≤ n ∧ n ≤ 125) (hm : 128 ≤ m ∧ m ≤ 300) : LawR (.ofNat n) (.ofNat m) := by
  have gn : n ≤ 300 := by omega
  have gm : m ≤ 300 := by omega
  have t := txJ_lin gn gm
  exact law_of (x := jpOf n m 5 5 5) (jp_ok (by decide) (by decide) (by decide) gn gm (lin n m 5 1 0) (lin n m 0 0 1) (lin n m (-5) 0 (-1))) (skj_ok (x := jpOf n m 5 5 5) (txJ_len n m) t.1 t.2 (.inr ⟨rfl, by unfold lin; omega, by unfold lin; omega⟩) (.inr ⟨rfl, by unfold lin; omega, by unfold lin; omega⟩) (.inr ⟨rfl, by unfold lin; omega, by unfold lin; omega⟩)) ((aj_run5 n m (lin n m 5 1 0) (lin n m 0 0 1) (lin n m (-5) 0 (-1)) (txJ n m)).trans (aj_true5 hn hm))
theorem law_c6 {n m : Nat} (hn : 126 ≤ n ∧ n ≤ 300) (hm : 128 ≤ m ∧ m ≤ 300) : LawR (.ofNat n) (.ofNat m) := by
  have gn : n ≤ 300 := by omega
  have gm : m ≤ 300 := by omega
  have t := txJ_lin gn gm
  exact law_of (x := jpOf n m 5 5 5) (jp_ok (by decide) (by decide) (by decide) gn gm (lin n m 5 1 0) (lin n m 0 0 1) (lin n m (-5) 0 (-1))) (skj_ok (x := jpOf n m 5 5 5) (txJ_len n m) t.1 t.2 (.inr ⟨rfl, by unfold lin; omega, by unfold lin; omega⟩) (.inr ⟨rfl, by unfold lin; omega, by unfold lin; omega⟩) (.inr ⟨rfl, by unfold lin; omega, by unfold lin; omega⟩)) ((aj_run6 n m (lin n m 5 1 0) (lin n m 0 0 1) (lin n m (-5) 0 (-1)) (txJ n m)).trans (aj_true6 hn hm))
theorem law_ea (a b : Int) : callPS (EJ (jpOf 0 0 2 2 2) 0 0 0) (fun f a H k => smC (EJ (jpOf 0 0 2 2 2) 0 0 0) f a H k) noPin 1000 (.call 4 [.int .i64 a, .int .i64 b] (gHeap 12 gl)) (pO 8 254) kJ = bc (ilt a (.ofNat 0)) (some (.bool true)) (none) := by kernel_rfl
theorem law_eb (a b : Int) : callPS (EJ (jpOf 0 0 2 2 2) 0 0 0) (fun f a H k => smC (EJ (jpOf 0 0 2 2 2) 0 0 0) f a H k) noPin 1000 (.call 4 [.int .i64 a, .int .i64 b] (gHeap 12 gl)) (pO 8 248) kJ = bc (ilt a (.ofNat 0)) (none) (bc (ilt b (.ofNat 0)) (some (.bool true)) (none)) := by kernel_rfl
theorem law_ec (a b : Int) : callPS (EJ (jpOf 0 0 2 2 2) 0 0 0) (fun f a H k => smC (EJ (jpOf 0 0 2 2 2) 0 0 0) f a H k) noPin 1000 (.call 4 [.int .i64 a, .int .i64 b] (gHeap 12 gl)) (pO 8 224) kJ = bc (ilt a (.ofNat 0)) (none) (bc (ilt b (.ofNat 0)) (none) (bc (ilt (.ofNat 300) a) (some (.bool true)) (none))) := by kernel_rfl
theorem law_ed (a b : Int) : callPS (EJ (jpOf 0 0 2 2 2) 0 0 0) (fun f a H k => smC (EJ (jpOf 0 0 2 2 2) 0 0 0) f a H k) noPin 1000 (.call 4 [.int .i64 a, .int .i64 b] (gHeap 12 gl)) (pO 8 128) kJ = bc (ilt a (.ofNat 0)) (none) (bc (ilt b (.ofNat 0)) (none) (bc (ilt (.ofNat 300) a) (none) (bc (ilt (.ofNat 300) b) (some (.bool true)) (none)))) := by kernel_rfl
theorem law_all (a b : Int) : LawR a b := by
  have ok := jp_ok (n := 0) (m := 0) (z0 := 2) (z1 := 2) (z2 := 2) (by decide) (by decide) (by decide) (by decide) (by decide) 0 0 0
  have T : ∀ {x y : Int}, x < y → ilt x y = true := fun h => by rw [ilt_iff]; exact decide_eq_true h
  have F : ∀ {x y : Int}, ¬ x < y → ilt x y = false := fun h => by rw [ilt_iff]; exact decide_eq_false h
  by_cases h1 : a < .ofNat 0
  · exact law_of (x := jpOf 0 0 2 2 2) ok sc_ok ((law_ea a b).trans (by rw [T h1]; rfl))
  by_cases h2 : b < .ofNat 0
  · exact law_of (x := jpOf 0 0 2 2 2) ok sc_ok ((law_eb a b).trans (by rw [F h1, T h2]; rfl))
  by_cases h3 : .ofNat 300 < a
  · exact law_of (x := jpOf 0 0 2 2 2) ok sc_ok ((law_ec a b).trans (by rw [F h1, F h2, T h3]; rfl))
  by_cases h4 : .ofNat 300 < b
  · exact law_of (x := jpOf 0 0 2 2 2) ok sc_ok ((law_ed a b).trans (by rw [F h1, F h2, F h3, T h4]; rfl))
  have g1 : ¬ a < 0 := h1
  have g2 : ¬ b < 0 := h2
  have g3 : ¬ (300 : Int) < a := h3
  have g4 : ¬ (300 : Int) < b := h4
  obtain ⟨n, rfl⟩ : ∃ n : Nat, a = .ofNat n := ⟨a.toNat, by show a = (a.toNat : Int); omega⟩
  obtain ⟨m, rfl⟩ : ∃ n : Nat, b = .ofNat n := ⟨b.toNat, by show b = (b.toNat : Int); omega⟩
  have gn : n ≤ 300 := by have : ¬ (300 : Int) < (n : Int) := g3; omega
  have gm : m ≤ 300 := by have : ¬ (300 : Int) < (m : Int) := g4; omega
  by_cases m1 : m ≤ 126
  · by_cases n1 : n ≤ 125
    · exact law_c0 n1 m1
    · exact law_c1 ⟨by omega, gn⟩ m1
  by_cases m2 : m = 127
  · by_cases n1 : n ≤ 125
    · exact law_c2 n1 m2
    · exact law_c3 ⟨by omega, gn⟩ m2
  by_cases n1 : n ≤ 122
  · exact law_c4 n1 ⟨by omega, gm⟩
  by_cases n2 : n ≤ 125
  · exact law_c5 ⟨by omega, n2⟩ ⟨by omega, gm⟩
  · exact law_c6 ⟨by omega, gn⟩ ⟨by omega, gm⟩
theorem law_calls {w : World} (hw : GlobOk gl w) (a b : Int) : Calls Tryz.prog 4 #[.int .i64 a, .int .i64 b] w fun e w' => e = .returned (.bool true) ∧ Keeps w w' := by
  obtain ⟨E, hE, hng, hf, n, H1, h⟩ := law_all a b
  rw [← hng] at h
  obtain ⟨_, b⟩ := body_closed (args := [.int .i64 a, .int .i64 b]) (cargs := [.int .i64 a, .int .i64 b]) (E := E) hE (by rw [hng]; exact gl_ok) hf ⟨by simp [VRel], by simp [VRel], trivial⟩ h w hw
  refine Calls.mono (callsIn_wide.1 b) ?_
  rintro e w' ⟨cv, v, H, M, rfl, _, kp, hv, rfl, rfl⟩
  simp only [VRel] at hv
  exact ⟨by rw [hv], kp.2.1⟩
end
end Go.Proofs.YthlcgkebfodnmaaGreatDoor
