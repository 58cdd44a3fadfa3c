/- Each tree of RelocJumps is true where its numbers lie. -/
import Derived.Test.YtpmlihmaodpmfaaGreatDoorJumpT0
import Derived.Test.YtpmlihmaodpmfaaGreatDoorJumpT4
import Derived.Test.YtpmlihmaodpmfaaGreatDoorJumpT2
import Derived.Test.YtpmlihmaodpmfaaGreatDoorJumpT3
import Derived.Test.YtpmlihmaodpmfaaGreatDoorJumpT8
import Derived.Test.YtpmlihmaodpmfaaGreatDoorJumpLawR
import Derived.Test.YtpmlihmaodpmfaaGreatDoorJumpLawA
import Derived.Test.YtpmlihmaodpmfaaGreatDoorJumpC
import Derived.KernelRfl
namespace Go.Proofs.YtpmlihmaodpmfaaGreatDoor
open Go Go.Vai
noncomputable section
set_option maxRecDepth 100000
theorem three {W : Int} (h : W % 4 = 3) : ieq (wrapR .u8 (andI .u8 (wrapR .u8 W) (.ofNat 3))) (.ofNat 3) = true := by
  rw [andB (kd := .u8) 2 rfl (by decide), show ((2 ^ 2 : Nat) : Int) = 4 from rfl, wrapB_u8, wrapB_u8, ieqB, decide_eq_true_iff, natB]
  omega
theorem leq_same (l : List UInt8) : leq l l = true := by rw [leq_iff]; simp
theorem ieq_same (n : Int) : ieq n n = true := by rw [ieqB]; simp
theorem ltT {a b : Int} (h : a < b) : ilt a b = true := by rw [iltB]; exact decide_eq_true h
theorem ltF {a b : Int} (h : ¬ a < b) : ilt a b = false := by rw [iltB]; exact decide_eq_false h
theorem eqF {a b : Int} (h : a ≠ b) : ieq a b = false := by rw [ieqB]; exact decide_eq_false h
theorem md2 (n : Int) : ieq (Int.tmod n (.ofNat 2)) (.ofNat 0) = decide (n % 2 = 0) := by rw [ieqB]; exact decide_eq_decide.2 tm_iff
theorem md1 (n : Int) : ieq (Int.tmod n (.ofNat 1)) (.ofNat 0) = true := by rw [tmod1]; rfl
theorem beq_pack {n : Int} (hn : -4096 ≤ n ∧ n ≤ 4095) (h2 : n % 2 = 0) : ∃ W, rvWordE [98, 101, 113] (.ofNat 5) (.ofNat 99) [98, 101, 113] (.ofNat 0) (.ofNat 0) (.ofNat 0) (.ofNat 0) n = W ∧ (0 ≤ W ∧ W < 4294967296) ∧ W % 4 = 3 ∧ rvDN W = [98, 101, 113] ∧ rvDA W = .ofNat 0 ∧ rvDB W = .ofNat 0 ∧ rvDC W = .ofNat 0 ∧ rvDD W = .ofNat 0 ∧ rvDI W = n ∧ rvDE W = .ofNat 0 := by
  obtain ⟨W, h, r⟩ := beq_dec hn h2
  exact ⟨W, h _, r⟩
theorem jt0_0_true {D : Int} (h1 : -4096 ≤ D) (h2 : D < 4096) (h3 : D % 2 = 0) : jt0_0 rvFault rvWordE rvDN rvDA rvDB rvDC rvDD rvDI rvDE D D (.ofNat 0) = some (.bool true) := by
  obtain ⟨W, w, b, t, n1, a1, a2, a3, a4, _, e1⟩ := beq_pack (n := .ofNat 0) (by decide) (by decide)
  have f0 : rvFault [98, 101, 113] (.ofNat 5) (.ofNat 99) [98, 101, 113] (.ofNat 0) (.ofNat 0) (.ofNat 0) (.ofNat 0) (.ofNat 0) = .ofNat 0 := beq_flt.1 (by decide) (by decide) (by decide)
  obtain ⟨V, v, c1, t1, n2, _, _, _, _, i1, g1⟩ := beq_pack (n := D) (by omega) h3
  have f1 : rvFault [98, 101, 113] (.ofNat 5) (.ofNat 99) [98, 101, 113] (.ofNat 0) (.ofNat 0) (.ofNat 0) (.ofNat 0) D = .ofNat 0 := beq_flt.1 h1 (by omega) h3
  unfold jt0_0
  simp only [w, word4_of b, n1, a1, a2, a3, a4, e1, three t, f0, v, word4_of c1, three t1, f1, n2, i1, g1, ltF (show ¬ D < (.negSucc 4095) by rw [negB]; omega), ltT (show D < (.ofNat 4096) by rw [natB]; omega), md2, decide_eq_true h3, leq_same, ieq_same, Bool.not_true, Bool.not_false, bc_true, bc_false]
theorem jt0_1_true {D : Int} (h1 : 4096 ≤ D) : jt0_1 rvFault rvWordE rvDN rvDA rvDB rvDC rvDD rvDE D D (.ofNat 0) = some (.bool true) := by
  obtain ⟨W, w, b, t, n1, a1, a2, a3, a4, _, e1⟩ := beq_pack (n := .ofNat 0) (by decide) (by decide)
  have f0 : rvFault [98, 101, 113] (.ofNat 5) (.ofNat 99) [98, 101, 113] (.ofNat 0) (.ofNat 0) (.ofNat 0) (.ofNat 0) (.ofNat 0) = .ofNat 0 := beq_flt.1 (by decide) (by decide) (by decide)
  have f1 := (beq_flt (rn := [98, 101, 113]) (nm := [98, 101, 113]) (rw := .ofNat 99) (n := D)).2 (by omega)
  unfold jt0_1
  simp only [w, word4_of b, n1, a1, a2, a3, a4, e1, three t, f0, f1, ltF (show ¬ D < (.negSucc 4095) by rw [negB]; omega), ltF (show ¬ D < (.ofNat 4096) by rw [natB]; omega), leq_same, ieq_same, Bool.not_true, Bool.not_false, bc_true, bc_false]
theorem jt0_2_true {D : Int} (h1 : D < -4096) : jt0_2 rvFault rvWordE rvDN rvDA rvDB rvDC rvDD rvDE D D (.ofNat 0) = some (.bool true) := by
  obtain ⟨W, w, b, t, n1, a1, a2, a3, a4, _, e1⟩ := beq_pack (n := .ofNat 0) (by decide) (by decide)
  have f0 : rvFault [98, 101, 113] (.ofNat 5) (.ofNat 99) [98, 101, 113] (.ofNat 0) (.ofNat 0) (.ofNat 0) (.ofNat 0) (.ofNat 0) = .ofNat 0 := beq_flt.1 (by decide) (by decide) (by decide)
  have f1 := (beq_flt (rn := [98, 101, 113]) (nm := [98, 101, 113]) (rw := .ofNat 99) (n := D)).2 (by omega)
  unfold jt0_2
  simp only [w, word4_of b, n1, a1, a2, a3, a4, e1, three t, f0, f1, ltT (show D < (.negSucc 4095) by rw [negB]; omega), leq_same, ieq_same, Bool.not_true, Bool.not_false, bc_true, bc_false]
theorem jt0_3_true {D : Int} (h1 : -4096 ≤ D) (h2 : D < 4096) (h3 : ¬ D % 2 = 0) : jt0_3 rvFault rvWordE rvDN rvDA rvDB rvDC rvDD rvDE D D (.ofNat 0) = some (.bool true) := by
  obtain ⟨W, w, b, t, n1, a1, a2, a3, a4, _, e1⟩ := beq_pack (n := .ofNat 0) (by decide) (by decide)
  have f0 : rvFault [98, 101, 113] (.ofNat 5) (.ofNat 99) [98, 101, 113] (.ofNat 0) (.ofNat 0) (.ofNat 0) (.ofNat 0) (.ofNat 0) = .ofNat 0 := beq_flt.1 (by decide) (by decide) (by decide)
  have f1 := (beq_flt (rn := [98, 101, 113]) (nm := [98, 101, 113]) (rw := .ofNat 99) (n := D)).2 (by omega)
  unfold jt0_3
  simp only [w, word4_of b, n1, a1, a2, a3, a4, e1, three t, f0, f1, ltF (show ¬ D < (.negSucc 4095) by rw [negB]; omega), ltT (show D < (.ofNat 4096) by rw [natB]; omega), md2, decide_eq_false h3, leq_same, ieq_same, Bool.not_true, Bool.not_false, bc_true, bc_false]
theorem jal_pack {n : Int} (hn : -1048576 ≤ n ∧ n ≤ 1048575) (h2 : n % 2 = 0) : ∃ W, rvWordE [106, 97, 108] (.ofNat 7) (.ofNat 111) [106, 97, 108] (.ofNat 0) (.ofNat 0) (.ofNat 0) (.ofNat 0) n = W ∧ (0 ≤ W ∧ W < 4294967296) ∧ W % 4 = 3 ∧ rvDN W = [106, 97, 108] ∧ rvDA W = .ofNat 0 ∧ rvDB W = .ofNat 0 ∧ rvDC W = .ofNat 0 ∧ rvDD W = .ofNat 0 ∧ rvDI W = n ∧ rvDE W = .ofNat 0 := by
  obtain ⟨W, h, r⟩ := jal_dec hn h2
  exact ⟨W, h _, r⟩
theorem jt1_0_true {D : Int} (h1 : -1048576 ≤ D) (h2 : D < 1048576) (h3 : D % 2 = 0) : jt1_0 rvFault rvWordE rvDN rvDA rvDB rvDC rvDD rvDI rvDE D D (.ofNat 1) = some (.bool true) := by
  obtain ⟨W, w, b, t, n1, a1, a2, a3, a4, _, e1⟩ := jal_pack (n := .ofNat 0) (by decide) (by decide)
  have f0 : rvFault [106, 97, 108] (.ofNat 7) (.ofNat 111) [106, 97, 108] (.ofNat 0) (.ofNat 0) (.ofNat 0) (.ofNat 0) (.ofNat 0) = .ofNat 0 := jal_flt.1 (by decide) (by decide) (by decide)
  obtain ⟨V, v, c1, t1, n2, _, _, _, _, i1, g1⟩ := jal_pack (n := D) (by omega) h3
  have f1 : rvFault [106, 97, 108] (.ofNat 7) (.ofNat 111) [106, 97, 108] (.ofNat 0) (.ofNat 0) (.ofNat 0) (.ofNat 0) D = .ofNat 0 := jal_flt.1 h1 (by omega) h3
  unfold jt1_0
  simp only [w, word4_of b, n1, a1, a2, a3, a4, e1, three t, f0, v, word4_of c1, three t1, f1, n2, i1, g1, ltF (show ¬ D < (.negSucc 1048575) by rw [negB]; omega), ltT (show D < (.ofNat 1048576) by rw [natB]; omega), md2, decide_eq_true h3, leq_same, ieq_same, Bool.not_true, Bool.not_false, bc_true, bc_false]
theorem jt1_1_true {D : Int} (h1 : 1048576 ≤ D) : jt1_1 rvFault rvWordE rvDN rvDA rvDB rvDC rvDD rvDE D D (.ofNat 1) = some (.bool true) := by
  obtain ⟨W, w, b, t, n1, a1, a2, a3, a4, _, e1⟩ := jal_pack (n := .ofNat 0) (by decide) (by decide)
  have f0 : rvFault [106, 97, 108] (.ofNat 7) (.ofNat 111) [106, 97, 108] (.ofNat 0) (.ofNat 0) (.ofNat 0) (.ofNat 0) (.ofNat 0) = .ofNat 0 := jal_flt.1 (by decide) (by decide) (by decide)
  have f1 := (jal_flt (rn := [106, 97, 108]) (nm := [106, 97, 108]) (rw := .ofNat 111) (n := D)).2 (by omega)
  unfold jt1_1
  simp only [w, word4_of b, n1, a1, a2, a3, a4, e1, three t, f0, f1, ltF (show ¬ D < (.negSucc 1048575) by rw [negB]; omega), ltF (show ¬ D < (.ofNat 1048576) by rw [natB]; omega), leq_same, ieq_same, Bool.not_true, Bool.not_false, bc_true, bc_false]
theorem jt1_2_true {D : Int} (h1 : D < -1048576) : jt1_2 rvFault rvWordE rvDN rvDA rvDB rvDC rvDD rvDE D D (.ofNat 1) = some (.bool true) := by
  obtain ⟨W, w, b, t, n1, a1, a2, a3, a4, _, e1⟩ := jal_pack (n := .ofNat 0) (by decide) (by decide)
  have f0 : rvFault [106, 97, 108] (.ofNat 7) (.ofNat 111) [106, 97, 108] (.ofNat 0) (.ofNat 0) (.ofNat 0) (.ofNat 0) (.ofNat 0) = .ofNat 0 := jal_flt.1 (by decide) (by decide) (by decide)
  have f1 := (jal_flt (rn := [106, 97, 108]) (nm := [106, 97, 108]) (rw := .ofNat 111) (n := D)).2 (by omega)
  unfold jt1_2
  simp only [w, word4_of b, n1, a1, a2, a3, a4, e1, three t, f0, f1, ltT (show D < (.negSucc 1048575) by rw [negB]; omega), leq_same, ieq_same, Bool.not_true, Bool.not_false, bc_true, bc_false]
theorem jt1_3_true {D : Int} (h1 : -1048576 ≤ D) (h2 : D < 1048576) (h3 : ¬ D % 2 = 0) : jt1_3 rvFault rvWordE rvDN rvDA rvDB rvDC rvDD rvDE D D (.ofNat 1) = some (.bool true) := by
  obtain ⟨W, w, b, t, n1, a1, a2, a3, a4, _, e1⟩ := jal_pack (n := .ofNat 0) (by decide) (by decide)
  have f0 : rvFault [106, 97, 108] (.ofNat 7) (.ofNat 111) [106, 97, 108] (.ofNat 0) (.ofNat 0) (.ofNat 0) (.ofNat 0) (.ofNat 0) = .ofNat 0 := jal_flt.1 (by decide) (by decide) (by decide)
  have f1 := (jal_flt (rn := [106, 97, 108]) (nm := [106, 97, 108]) (rw := .ofNat 111) (n := D)).2 (by omega)
  unfold jt1_3
  simp only [w, word4_of b, n1, a1, a2, a3, a4, e1, three t, f0, f1, ltF (show ¬ D < (.negSucc 1048575) by rw [negB]; omega), ltT (show D < (.ofNat 1048576) by rw [natB]; omega), md2, decide_eq_false h3, leq_same, ieq_same, Bool.not_true, Bool.not_false, bc_true, bc_false]
theorem b_pack {n : Int} (hn : -134217728 ≤ n ∧ n ≤ 134217724) (h4 : n % 4 = 0) : ∃ W, pB arBitsV (.ofNat 0) (.ofNat 0) (.ofNat 0) (.ofNat 0) n = W ∧ (0 ≤ W ∧ W < 4294967296) ∧ arDN W = [98] ∧ arDA W = .ofNat 0 ∧ arDB W = .ofNat 0 ∧ arDC W = .ofNat 0 ∧ arDD W = .ofNat 0 ∧ arDI W = n ∧ arDE W = .ofNat 0 := by
  obtain ⟨W, h, r⟩ := b_dec hn h4
  exact ⟨W, (bits_eq rB rfl [98] _ _ _ _ _).trans h, r⟩
theorem jt4_0_true {D : Int} (h1 : -134217728 ≤ D) (h2 : D < 134217728) (h3 : D % 4 = 0) : jt4_0 arFault arBitsV arDN arDA arDB arDC arDD arDI arDE D D (.ofNat 4) = some (.bool true) := by
  obtain ⟨W, w, b, n1, a1, a2, a3, a4, _, e1⟩ := b_pack (n := .ofNat 0) (by decide) (by decide)
  have f0 : pB arFault (.ofNat 0) (.ofNat 0) (.ofNat 0) (.ofNat 0) (.ofNat 0) = .ofNat 0 := b_flt.1 (by decide) (by decide) (by decide)
  obtain ⟨V, v, c1, n2, _, _, _, _, i1, g1⟩ := b_pack (n := D) (by omega) h3
  have f1 : pB arFault (.ofNat 0) (.ofNat 0) (.ofNat 0) (.ofNat 0) D = .ofNat 0 := b_flt.1 h1 (by omega) h3
  unfold jt4_0
  simp only [w, word4_of b, n1, a1, a2, a3, a4, e1, f0, v, word4_of c1, f1, n2, i1, g1, ltF (show ¬ D < (.negSucc 134217727) by rw [negB]; omega), ltT (show D < (.ofNat 134217728) by rw [natB]; omega), tm4, decide_eq_true h3, leq_same, ieq_same, Bool.not_true, Bool.not_false, bc_true, bc_false]
theorem jt4_1_true {D : Int} (h1 : 134217728 ≤ D) : jt4_1 arFault arBitsV arDN arDA arDB arDC arDD arDE D D (.ofNat 4) = some (.bool true) := by
  obtain ⟨W, w, b, n1, a1, a2, a3, a4, _, e1⟩ := b_pack (n := .ofNat 0) (by decide) (by decide)
  have f0 : pB arFault (.ofNat 0) (.ofNat 0) (.ofNat 0) (.ofNat 0) (.ofNat 0) = .ofNat 0 := b_flt.1 (by decide) (by decide) (by decide)
  have f1 : ieq (pB arFault (.ofNat 0) (.ofNat 0) (.ofNat 0) (.ofNat 0) D) (.ofNat 0) = false := b_flt.2 (by omega)
  unfold jt4_1
  simp only [w, word4_of b, n1, a1, a2, a3, a4, e1, f0, f1, ltF (show ¬ D < (.negSucc 134217727) by rw [negB]; omega), ltF (show ¬ D < (.ofNat 134217728) by rw [natB]; omega), leq_same, ieq_same, Bool.not_true, Bool.not_false, bc_true, bc_false]
theorem jt4_2_true {D : Int} (h1 : D < -134217728) : jt4_2 arFault arBitsV arDN arDA arDB arDC arDD arDE D D (.ofNat 4) = some (.bool true) := by
  obtain ⟨W, w, b, n1, a1, a2, a3, a4, _, e1⟩ := b_pack (n := .ofNat 0) (by decide) (by decide)
  have f0 : pB arFault (.ofNat 0) (.ofNat 0) (.ofNat 0) (.ofNat 0) (.ofNat 0) = .ofNat 0 := b_flt.1 (by decide) (by decide) (by decide)
  have f1 : ieq (pB arFault (.ofNat 0) (.ofNat 0) (.ofNat 0) (.ofNat 0) D) (.ofNat 0) = false := b_flt.2 (by omega)
  unfold jt4_2
  simp only [w, word4_of b, n1, a1, a2, a3, a4, e1, f0, f1, ltT (show D < (.negSucc 134217727) by rw [negB]; omega), leq_same, ieq_same, Bool.not_true, Bool.not_false, bc_true, bc_false]
theorem jt4_3_true {D : Int} (h1 : -134217728 ≤ D) (h2 : D < 134217728) (h3 : ¬ D % 4 = 0) : jt4_3 arFault arBitsV arDN arDA arDB arDC arDD arDE D D (.ofNat 4) = some (.bool true) := by
  obtain ⟨W, w, b, n1, a1, a2, a3, a4, _, e1⟩ := b_pack (n := .ofNat 0) (by decide) (by decide)
  have f0 : pB arFault (.ofNat 0) (.ofNat 0) (.ofNat 0) (.ofNat 0) (.ofNat 0) = .ofNat 0 := b_flt.1 (by decide) (by decide) (by decide)
  have f1 : ieq (pB arFault (.ofNat 0) (.ofNat 0) (.ofNat 0) (.ofNat 0) D) (.ofNat 0) = false := b_flt.2 (by omega)
  unfold jt4_3
  simp only [w, word4_of b, n1, a1, a2, a3, a4, e1, f0, f1, ltF (show ¬ D < (.negSucc 134217727) by rw [negB]; omega), ltT (show D < (.ofNat 134217728) by rw [natB]; omega), tm4, decide_eq_false h3, leq_same, ieq_same, Bool.not_true, Bool.not_false, bc_true, bc_false]
theorem bl_pack {n : Int} (hn : -134217728 ≤ n ∧ n ≤ 134217724) (h4 : n % 4 = 0) : ∃ W, pBl arBitsV (.ofNat 0) (.ofNat 0) (.ofNat 0) (.ofNat 0) n = W ∧ (0 ≤ W ∧ W < 4294967296) ∧ arDN W = [98, 108] ∧ arDA W = .ofNat 0 ∧ arDB W = .ofNat 0 ∧ arDC W = .ofNat 0 ∧ arDD W = .ofNat 0 ∧ arDI W = n ∧ arDE W = .ofNat 0 := by
  obtain ⟨W, h, r⟩ := bl_dec hn h4
  exact ⟨W, (bits_eq rBl rfl [98, 108] _ _ _ _ _).trans h, r⟩
theorem jt5_0_true {D : Int} (h1 : -134217728 ≤ D) (h2 : D < 134217728) (h3 : D % 4 = 0) : jt5_0 arFault arBitsV arDN arDA arDB arDC arDD arDI arDE D D (.ofNat 5) = some (.bool true) := by
  obtain ⟨W, w, b, n1, a1, a2, a3, a4, _, e1⟩ := bl_pack (n := .ofNat 0) (by decide) (by decide)
  have f0 : pBl arFault (.ofNat 0) (.ofNat 0) (.ofNat 0) (.ofNat 0) (.ofNat 0) = .ofNat 0 := bl_flt.1 (by decide) (by decide) (by decide)
  obtain ⟨V, v, c1, n2, _, _, _, _, i1, g1⟩ := bl_pack (n := D) (by omega) h3
  have f1 : pBl arFault (.ofNat 0) (.ofNat 0) (.ofNat 0) (.ofNat 0) D = .ofNat 0 := bl_flt.1 h1 (by omega) h3
  unfold jt5_0
  simp only [w, word4_of b, n1, a1, a2, a3, a4, e1, f0, v, word4_of c1, f1, n2, i1, g1, ltF (show ¬ D < (.negSucc 134217727) by rw [negB]; omega), ltT (show D < (.ofNat 134217728) by rw [natB]; omega), tm4, decide_eq_true h3, leq_same, ieq_same, Bool.not_true, Bool.not_false, bc_true, bc_false]
theorem jt5_1_true {D : Int} (h1 : 134217728 ≤ D) : jt5_1 arFault arBitsV arDN arDA arDB arDC arDD arDE D D (.ofNat 5) = some (.bool true) := by
  obtain ⟨W, w, b, n1, a1, a2, a3, a4, _, e1⟩ := bl_pack (n := .ofNat 0) (by decide) (by decide)
  have f0 : pBl arFault (.ofNat 0) (.ofNat 0) (.ofNat 0) (.ofNat 0) (.ofNat 0) = .ofNat 0 := bl_flt.1 (by decide) (by decide) (by decide)
  have f1 : ieq (pBl arFault (.ofNat 0) (.ofNat 0) (.ofNat 0) (.ofNat 0) D) (.ofNat 0) = false := bl_flt.2 (by omega)
  unfold jt5_1
  simp only [w, word4_of b, n1, a1, a2, a3, a4, e1, f0, f1, ltF (show ¬ D < (.negSucc 134217727) by rw [negB]; omega), ltF (show ¬ D < (.ofNat 134217728) by rw [natB]; omega), leq_same, ieq_same, Bool.not_true, Bool.not_false, bc_true, bc_false]
theorem jt5_2_true {D : Int} (h1 : D < -134217728) : jt5_2 arFault arBitsV arDN arDA arDB arDC arDD arDE D D (.ofNat 5) = some (.bool true) := by
  obtain ⟨W, w, b, n1, a1, a2, a3, a4, _, e1⟩ := bl_pack (n := .ofNat 0) (by decide) (by decide)
  have f0 : pBl arFault (.ofNat 0) (.ofNat 0) (.ofNat 0) (.ofNat 0) (.ofNat 0) = .ofNat 0 := bl_flt.1 (by decide) (by decide) (by decide)
  have f1 : ieq (pBl arFault (.ofNat 0) (.ofNat 0) (.ofNat 0) (.ofNat 0) D) (.ofNat 0) = false := bl_flt.2 (by omega)
  unfold jt5_2
  simp only [w, word4_of b, n1, a1, a2, a3, a4, e1, f0, f1, ltT (show D < (.negSucc 134217727) by rw [negB]; omega), leq_same, ieq_same, Bool.not_true, Bool.not_false, bc_true, bc_false]
theorem jt5_3_true {D : Int} (h1 : -134217728 ≤ D) (h2 : D < 134217728) (h3 : ¬ D % 4 = 0) : jt5_3 arFault arBitsV arDN arDA arDB arDC arDD arDE D D (.ofNat 5) = some (.bool true) := by
  obtain ⟨W, w, b, n1, a1, a2, a3, a4, _, e1⟩ := bl_pack (n := .ofNat 0) (by decide) (by decide)
  have f0 : pBl arFault (.ofNat 0) (.ofNat 0) (.ofNat 0) (.ofNat 0) (.ofNat 0) = .ofNat 0 := bl_flt.1 (by decide) (by decide) (by decide)
  have f1 : ieq (pBl arFault (.ofNat 0) (.ofNat 0) (.ofNat 0) (.ofNat 0) D) (.ofNat 0) = false := bl_flt.2 (by omega)
  unfold jt5_3
  simp only [w, word4_of b, n1, a1, a2, a3, a4, e1, f0, f1, ltF (show ¬ D < (.negSucc 134217727) by rw [negB]; omega), ltT (show D < (.ofNat 134217728) by rw [natB]; omega), tm4, decide_eq_false h3, leq_same, ieq_same, Bool.not_true, Bool.not_false, bc_true, bc_false]
theorem bc_pack {n : Int} (hn : -1048576 ≤ n ∧ n ≤ 1048572) (h4 : n % 4 = 0) : ∃ W, pBc arBitsV (.ofNat 0) (.ofNat 0) (.ofNat 0) (.ofNat 0) n = W ∧ (0 ≤ W ∧ W < 4294967296) ∧ arDN W = [98, 46, 99] ∧ arDA W = .ofNat 0 ∧ arDB W = .ofNat 0 ∧ arDC W = .ofNat 0 ∧ arDD W = .ofNat 0 ∧ arDI W = n ∧ arDE W = .ofNat 0 := by
  obtain ⟨W, h, r⟩ := bc_dec hn h4
  exact ⟨W, (bits_eq rBc rfl [98, 46, 99] _ _ _ _ _).trans h, r⟩
theorem jt6_0_true {D : Int} (h1 : -1048576 ≤ D) (h2 : D < 1048576) (h3 : D % 4 = 0) : jt6_0 arFault arBitsV arDN arDA arDB arDC arDD arDI arDE D D (.ofNat 6) = some (.bool true) := by
  obtain ⟨W, w, b, n1, a1, a2, a3, a4, _, e1⟩ := bc_pack (n := .ofNat 0) (by decide) (by decide)
  have f0 : pBc arFault (.ofNat 0) (.ofNat 0) (.ofNat 0) (.ofNat 0) (.ofNat 0) = .ofNat 0 := bc_flt.1 (by decide) (by decide) (by decide)
  obtain ⟨V, v, c1, n2, _, _, _, _, i1, g1⟩ := bc_pack (n := D) (by omega) h3
  have f1 : pBc arFault (.ofNat 0) (.ofNat 0) (.ofNat 0) (.ofNat 0) D = .ofNat 0 := bc_flt.1 h1 (by omega) h3
  unfold jt6_0
  simp only [w, word4_of b, n1, a1, a2, a3, a4, e1, f0, v, word4_of c1, f1, n2, i1, g1, ltF (show ¬ D < (.negSucc 1048575) by rw [negB]; omega), ltT (show D < (.ofNat 1048576) by rw [natB]; omega), tm4, decide_eq_true h3, leq_same, ieq_same, Bool.not_true, Bool.not_false, bc_true, bc_false]
theorem jt6_1_true {D : Int} (h1 : 1048576 ≤ D) : jt6_1 arFault arBitsV arDN arDA arDB arDC arDD arDE D D (.ofNat 6) = some (.bool true) := by
  obtain ⟨W, w, b, n1, a1, a2, a3, a4, _, e1⟩ := bc_pack (n := .ofNat 0) (by decide) (by decide)
  have f0 : pBc arFault (.ofNat 0) (.ofNat 0) (.ofNat 0) (.ofNat 0) (.ofNat 0) = .ofNat 0 := bc_flt.1 (by decide) (by decide) (by decide)
  have f1 : ieq (pBc arFault (.ofNat 0) (.ofNat 0) (.ofNat 0) (.ofNat 0) D) (.ofNat 0) = false := bc_flt.2 (by omega)
  unfold jt6_1
  simp only [w, word4_of b, n1, a1, a2, a3, a4, e1, f0, f1, ltF (show ¬ D < (.negSucc 1048575) by rw [negB]; omega), ltF (show ¬ D < (.ofNat 1048576) by rw [natB]; omega), leq_same, ieq_same, Bool.not_true, Bool.not_false, bc_true, bc_false]
theorem jt6_2_true {D : Int} (h1 : D < -1048576) : jt6_2 arFault arBitsV arDN arDA arDB arDC arDD arDE D D (.ofNat 6) = some (.bool true) := by
  obtain ⟨W, w, b, n1, a1, a2, a3, a4, _, e1⟩ := bc_pack (n := .ofNat 0) (by decide) (by decide)
  have f0 : pBc arFault (.ofNat 0) (.ofNat 0) (.ofNat 0) (.ofNat 0) (.ofNat 0) = .ofNat 0 := bc_flt.1 (by decide) (by decide) (by decide)
  have f1 : ieq (pBc arFault (.ofNat 0) (.ofNat 0) (.ofNat 0) (.ofNat 0) D) (.ofNat 0) = false := bc_flt.2 (by omega)
  unfold jt6_2
  simp only [w, word4_of b, n1, a1, a2, a3, a4, e1, f0, f1, ltT (show D < (.negSucc 1048575) by rw [negB]; omega), leq_same, ieq_same, Bool.not_true, Bool.not_false, bc_true, bc_false]
theorem jt6_3_true {D : Int} (h1 : -1048576 ≤ D) (h2 : D < 1048576) (h3 : ¬ D % 4 = 0) : jt6_3 arFault arBitsV arDN arDA arDB arDC arDD arDE D D (.ofNat 6) = some (.bool true) := by
  obtain ⟨W, w, b, n1, a1, a2, a3, a4, _, e1⟩ := bc_pack (n := .ofNat 0) (by decide) (by decide)
  have f0 : pBc arFault (.ofNat 0) (.ofNat 0) (.ofNat 0) (.ofNat 0) (.ofNat 0) = .ofNat 0 := bc_flt.1 (by decide) (by decide) (by decide)
  have f1 : ieq (pBc arFault (.ofNat 0) (.ofNat 0) (.ofNat 0) (.ofNat 0) D) (.ofNat 0) = false := bc_flt.2 (by omega)
  unfold jt6_3
  simp only [w, word4_of b, n1, a1, a2, a3, a4, e1, f0, f1, ltF (show ¬ D < (.negSucc 1048575) by rw [negB]; omega), ltT (show D < (.ofNat 1048576) by rw [natB]; omega), tm4, decide_eq_false h3, leq_same, ieq_same, Bool.not_true, Bool.not_false, bc_true, bc_false]
theorem cbz_pack {n : Int} (hn : -1048576 ≤ n ∧ n ≤ 1048572) (h4 : n % 4 = 0) : ∃ W, pCbz arBitsV (.ofNat 0) (.ofNat 0) (.ofNat 0) (.ofNat 0) n = W ∧ (0 ≤ W ∧ W < 4294967296) ∧ arDN W = [99, 98, 122] ∧ arDA W = .ofNat 0 ∧ arDB W = .ofNat 0 ∧ arDC W = .ofNat 0 ∧ arDD W = .ofNat 0 ∧ arDI W = n ∧ arDE W = .ofNat 0 := by
  obtain ⟨W, h, r⟩ := cbz_dec hn h4
  exact ⟨W, (bits_eq rCbz rfl [99, 98, 122] _ _ _ _ _).trans h, r⟩
theorem jt7_0_true {D : Int} (h1 : -1048576 ≤ D) (h2 : D < 1048576) (h3 : D % 4 = 0) : jt7_0 arFault arBitsV arDN arDA arDB arDC arDD arDI arDE D D (.ofNat 7) = some (.bool true) := by
  obtain ⟨W, w, b, n1, a1, a2, a3, a4, _, e1⟩ := cbz_pack (n := .ofNat 0) (by decide) (by decide)
  have f0 : pCbz arFault (.ofNat 0) (.ofNat 0) (.ofNat 0) (.ofNat 0) (.ofNat 0) = .ofNat 0 := cbz_flt.1 (by decide) (by decide) (by decide)
  obtain ⟨V, v, c1, n2, _, _, _, _, i1, g1⟩ := cbz_pack (n := D) (by omega) h3
  have f1 : pCbz arFault (.ofNat 0) (.ofNat 0) (.ofNat 0) (.ofNat 0) D = .ofNat 0 := cbz_flt.1 h1 (by omega) h3
  unfold jt7_0
  simp only [w, word4_of b, n1, a1, a2, a3, a4, e1, f0, v, word4_of c1, f1, n2, i1, g1, ltF (show ¬ D < (.negSucc 1048575) by rw [negB]; omega), ltT (show D < (.ofNat 1048576) by rw [natB]; omega), tm4, decide_eq_true h3, leq_same, ieq_same, Bool.not_true, Bool.not_false, bc_true, bc_false]
theorem jt7_1_true {D : Int} (h1 : 1048576 ≤ D) : jt7_1 arFault arBitsV arDN arDA arDB arDC arDD arDE D D (.ofNat 7) = some (.bool true) := by
  obtain ⟨W, w, b, n1, a1, a2, a3, a4, _, e1⟩ := cbz_pack (n := .ofNat 0) (by decide) (by decide)
  have f0 : pCbz arFault (.ofNat 0) (.ofNat 0) (.ofNat 0) (.ofNat 0) (.ofNat 0) = .ofNat 0 := cbz_flt.1 (by decide) (by decide) (by decide)
  have f1 : ieq (pCbz arFault (.ofNat 0) (.ofNat 0) (.ofNat 0) (.ofNat 0) D) (.ofNat 0) = false := cbz_flt.2 (by omega)
  unfold jt7_1
  simp only [w, word4_of b, n1, a1, a2, a3, a4, e1, f0, f1, ltF (show ¬ D < (.negSucc 1048575) by rw [negB]; omega), ltF (show ¬ D < (.ofNat 1048576) by rw [natB]; omega), leq_same, ieq_same, Bool.not_true, Bool.not_false, bc_true, bc_false]
theorem jt7_2_true {D : Int} (h1 : D < -1048576) : jt7_2 arFault arBitsV arDN arDA arDB arDC arDD arDE D D (.ofNat 7) = some (.bool true) := by
  obtain ⟨W, w, b, n1, a1, a2, a3, a4, _, e1⟩ := cbz_pack (n := .ofNat 0) (by decide) (by decide)
  have f0 : pCbz arFault (.ofNat 0) (.ofNat 0) (.ofNat 0) (.ofNat 0) (.ofNat 0) = .ofNat 0 := cbz_flt.1 (by decide) (by decide) (by decide)
  have f1 : ieq (pCbz arFault (.ofNat 0) (.ofNat 0) (.ofNat 0) (.ofNat 0) D) (.ofNat 0) = false := cbz_flt.2 (by omega)
  unfold jt7_2
  simp only [w, word4_of b, n1, a1, a2, a3, a4, e1, f0, f1, ltT (show D < (.negSucc 1048575) by rw [negB]; omega), leq_same, ieq_same, Bool.not_true, Bool.not_false, bc_true, bc_false]
theorem jt7_3_true {D : Int} (h1 : -1048576 ≤ D) (h2 : D < 1048576) (h3 : ¬ D % 4 = 0) : jt7_3 arFault arBitsV arDN arDA arDB arDC arDD arDE D D (.ofNat 7) = some (.bool true) := by
  obtain ⟨W, w, b, n1, a1, a2, a3, a4, _, e1⟩ := cbz_pack (n := .ofNat 0) (by decide) (by decide)
  have f0 : pCbz arFault (.ofNat 0) (.ofNat 0) (.ofNat 0) (.ofNat 0) (.ofNat 0) = .ofNat 0 := cbz_flt.1 (by decide) (by decide) (by decide)
  have f1 : ieq (pCbz arFault (.ofNat 0) (.ofNat 0) (.ofNat 0) (.ofNat 0) D) (.ofNat 0) = false := cbz_flt.2 (by omega)
  unfold jt7_3
  simp only [w, word4_of b, n1, a1, a2, a3, a4, e1, f0, f1, ltF (show ¬ D < (.negSucc 1048575) by rw [negB]; omega), ltT (show D < (.ofNat 1048576) by rw [natB]; omega), tm4, decide_eq_false h3, leq_same, ieq_same, Bool.not_true, Bool.not_false, bc_true, bc_false]
theorem amd_num (n : Int) (h1 : -2147483648 ≤ n) (h2 : n < 2147483648) : shrI (wrapR .i64 (wrapR .u64 (shlI (wrapR .u64 (orI .u64 (wrapR .u64 (orI .u64 (wrapR .u64 (orI .u64 (wrapR .u64 (orI .u64 (.ofNat 0) (wrapR .u64 (shlI (wrapR .u64 (wrapR .u8 (shrI n 0))) 0)))) (wrapR .u64 (shlI (wrapR .u64 (wrapR .u8 (shrI n 8))) 8)))) (wrapR .u64 (shlI (wrapR .u64 (wrapR .u8 (shrI n 16))) 16)))) (wrapR .u64 (shlI (wrapR .u64 (wrapR .u8 (shrI n 24))) 24)))) 32))) 32 = n := by
  have P8 : ((2 ^ 8 : Nat) : Int) = 256 := rfl
  have P16 : ((2 ^ 16 : Nat) : Int) = 65536 := rfl
  have P24 : ((2 ^ 24 : Nat) : Int) = 16777216 := rfl
  have P64 : ((2 ^ IntKind.u64.bits : Nat) : Int) = 18446744073709551616 := rfl
  simp only [wrapB_u64, wrapB_u8, shlB, shrB]
  rw [show n / ((2 ^ 0 : Nat) : Int) % 256 % 18446744073709551616 * ((2 ^ 0 : Nat) : Int) % 18446744073709551616 = n % 256 by omega, show n / ((2 ^ 8 : Nat) : Int) % 256 % 18446744073709551616 * ((2 ^ 8 : Nat) : Int) % 18446744073709551616 = n / 256 % 256 * 256 by omega, show n / ((2 ^ 16 : Nat) : Int) % 256 % 18446744073709551616 * ((2 ^ 16 : Nat) : Int) % 18446744073709551616 = n / 65536 % 256 * 65536 by omega, show n / ((2 ^ 24 : Nat) : Int) % 256 % 18446744073709551616 * ((2 ^ 24 : Nat) : Int) % 18446744073709551616 = n / 16777216 % 256 * 16777216 by omega]
  have hv : n % 256 + n / 256 % 256 * 256 + n / 65536 % 256 * 65536 + n / 16777216 % 256 * 16777216 = n % 4294967296 := by omega
  have g1 : 0 ≤ n % 256 ∧ n % 256 < 256 := by omega
  have g2 : 0 ≤ n / 256 % 256 ∧ n / 256 % 256 < 256 := by omega
  have g3 : 0 ≤ n / 65536 % 256 ∧ n / 65536 % 256 < 256 := by omega
  have g4 : 0 ≤ n / 16777216 % 256 ∧ n / 16777216 % 256 < 256 := by omega
  generalize n % 256 = x1 at *
  generalize n / 256 % 256 = x2 at *
  generalize n / 65536 % 256 = x3 at *
  generalize n / 16777216 % 256 = x4 at *
  rw [orLo (kd := .u64) (x := .ofNat 0) (y := x1) 0 (by decide) (by decide) g1.1 (by rw [P64]; omega) (by show x1 % 1 = 0; omega) (by decide), natB, show (((0 : Nat) : Int) + x1) % 18446744073709551616 = x1 by omega]
  rw [orLo (kd := .u64) (x := x1) (y := x2 * 256) 8 (by omega) (by rw [P8]; omega) (by omega) (by rw [P64]; omega) (by rw [P8]; omega) (by decide), show (x1 + x2 * 256) % 18446744073709551616 = x1 + x2 * 256 by omega]
  rw [orLo (kd := .u64) (x := x1 + x2 * 256) (y := x3 * 65536) 16 (by omega) (by rw [P16]; omega) (by omega) (by rw [P64]; omega) (by rw [P16]; omega) (by decide), show (x1 + x2 * 256 + x3 * 65536) % 18446744073709551616 = x1 + x2 * 256 + x3 * 65536 by omega]
  rw [orLo (kd := .u64) (x := x1 + x2 * 256 + x3 * 65536) (y := x4 * 16777216) 24 (by omega) (by rw [P24]; omega) (by omega) (by rw [P64]; omega) (by rw [P24]; omega) (by decide), show (x1 + x2 * 256 + x3 * 65536 + x4 * 16777216) % 18446744073709551616 = x1 + x2 * 256 + x3 * 65536 + x4 * 16777216 by omega]
  rw [hv]
  simp only [wrapB_i64]
  omega
theorem jt8_0_true {D : Int} (h1 : 0 ≤ D) (h2 : D < 2147483648) : jt8_0 D D (.ofNat 8) = some (.bool true) := by
  unfold jt8_0
  simp only [amd_num D (by omega) h2, ltF (show ¬ D < (.negSucc 2147483647) by rw [negB]; omega), ltF (show ¬ D < (.ofNat 0) by rw [natB]; omega), ltT (show D < (.ofNat 2147483648) by rw [natB]; omega), ltF (show ¬ (.ofNat 2147483647) < D by rw [natB]; omega), md1, leq_same, ieq_same, Bool.not_true, Bool.not_false, bc_true, bc_false]
theorem jt8_1_true {D : Int} (h1 : -2147483648 ≤ D) (h2 : D < 0) : jt8_1 D D (.ofNat 8) = some (.bool true) := by
  unfold jt8_1
  simp only [amd_num D h1 (by omega), ltF (show ¬ D < (.negSucc 2147483647) by rw [negB]; omega), ltT (show D < (.ofNat 0) by rw [natB]; omega), ltT (show D < (.ofNat 2147483648) by rw [natB]; omega), ltF (show ¬ (.ofNat 2147483647) < D by rw [natB]; omega), md1, leq_same, ieq_same, Bool.not_true, Bool.not_false, bc_true, bc_false]
theorem jt8_2_true {D : Int} (h1 : 2147483648 ≤ D) : jt8_2 D D (.ofNat 8) = some (.bool true) := by
  unfold jt8_2
  simp only [ltF (show ¬ D < (.negSucc 2147483647) by rw [negB]; omega), ltF (show ¬ D < (.ofNat 0) by rw [natB]; omega), ltF (show ¬ D < (.ofNat 2147483648) by rw [natB]; omega), leq_same, ieq_same, Bool.not_true, Bool.not_false, bc_true, bc_false]
theorem jt8_3_true {D : Int} (h1 : D < -2147483648) : jt8_3 D D (.ofNat 8) = some (.bool true) := by
  unfold jt8_3
  simp only [ltT (show D < (.negSucc 2147483647) by rw [negB]; omega), ltT (show D < (.ofNat 0) by rw [natB]; omega), leq_same, ieq_same, Bool.not_true, Bool.not_false, bc_true, bc_false]
theorem jt9_0_true {D : Int} (h1 : 0 ≤ D) (h2 : D < 2147483648) : jt9_0 D D (.ofNat 9) = some (.bool true) := by
  unfold jt9_0
  simp only [amd_num D (by omega) h2, ltF (show ¬ D < (.negSucc 2147483647) by rw [negB]; omega), ltF (show ¬ D < (.ofNat 0) by rw [natB]; omega), ltT (show D < (.ofNat 2147483648) by rw [natB]; omega), ltF (show ¬ (.ofNat 2147483647) < D by rw [natB]; omega), md1, leq_same, ieq_same, Bool.not_true, Bool.not_false, bc_true, bc_false]
theorem jt9_1_true {D : Int} (h1 : -2147483648 ≤ D) (h2 : D < 0) : jt9_1 D D (.ofNat 9) = some (.bool true) := by
  unfold jt9_1
  simp only [amd_num D h1 (by omega), ltF (show ¬ D < (.negSucc 2147483647) by rw [negB]; omega), ltT (show D < (.ofNat 0) by rw [natB]; omega), ltT (show D < (.ofNat 2147483648) by rw [natB]; omega), ltF (show ¬ (.ofNat 2147483647) < D by rw [natB]; omega), md1, leq_same, ieq_same, Bool.not_true, Bool.not_false, bc_true, bc_false]
theorem jt9_2_true {D : Int} (h1 : 2147483648 ≤ D) : jt9_2 D D (.ofNat 9) = some (.bool true) := by
  unfold jt9_2
  simp only [ltF (show ¬ D < (.negSucc 2147483647) by rw [negB]; omega), ltF (show ¬ D < (.ofNat 0) by rw [natB]; omega), ltF (show ¬ D < (.ofNat 2147483648) by rw [natB]; omega), leq_same, ieq_same, Bool.not_true, Bool.not_false, bc_true, bc_false]
theorem jt9_3_true {D : Int} (h1 : D < -2147483648) : jt9_3 D D (.ofNat 9) = some (.bool true) := by
  unfold jt9_3
  simp only [ltT (show D < (.negSucc 2147483647) by rw [negB]; omega), ltT (show D < (.ofNat 0) by rw [natB]; omega), leq_same, ieq_same, Bool.not_true, Bool.not_false, bc_true, bc_false]
theorem jt10_0_true {D : Int} (h1 : 0 ≤ D) (h2 : D < 2147483648) : jt10_0 D D (.ofNat 10) = some (.bool true) := by
  unfold jt10_0
  simp only [amd_num D (by omega) h2, ltF (show ¬ D < (.negSucc 2147483647) by rw [negB]; omega), ltF (show ¬ D < (.ofNat 0) by rw [natB]; omega), ltT (show D < (.ofNat 2147483648) by rw [natB]; omega), ltF (show ¬ (.ofNat 2147483647) < D by rw [natB]; omega), md1, leq_same, ieq_same, Bool.not_true, Bool.not_false, bc_true, bc_false]
theorem jt10_1_true {D : Int} (h1 : -2147483648 ≤ D) (h2 : D < 0) : jt10_1 D D (.ofNat 10) = some (.bool true) := by
  unfold jt10_1
  simp only [amd_num D h1 (by omega), ltF (show ¬ D < (.negSucc 2147483647) by rw [negB]; omega), ltT (show D < (.ofNat 0) by rw [natB]; omega), ltT (show D < (.ofNat 2147483648) by rw [natB]; omega), ltF (show ¬ (.ofNat 2147483647) < D by rw [natB]; omega), md1, leq_same, ieq_same, Bool.not_true, Bool.not_false, bc_true, bc_false]
theorem jt10_2_true {D : Int} (h1 : 2147483648 ≤ D) : jt10_2 D D (.ofNat 10) = some (.bool true) := by
  unfold jt10_2
  simp only [ltF (show ¬ D < (.negSucc 2147483647) by rw [negB]; omega), ltF (show ¬ D < (.ofNat 0) by rw [natB]; omega), ltF (show ¬ D < (.ofNat 2147483648) by rw [natB]; omega), leq_same, ieq_same, Bool.not_true, Bool.not_false, bc_true, bc_false]
theorem jt10_3_true {D : Int} (h1 : D < -2147483648) : jt10_3 D D (.ofNat 10) = some (.bool true) := by
  unfold jt10_3
  simp only [ltT (show D < (.negSucc 2147483647) by rw [negB]; omega), ltT (show D < (.ofNat 0) by rw [natB]; omega), leq_same, ieq_same, Bool.not_true, Bool.not_false, bc_true, bc_false]
theorem jt2_0_true {D : Int} (h : D = 0) : jt2_0 D D (.ofNat 2) = some (.bool true) := by
  subst h
  exact isT_of jc2_0
theorem jt2_1_true {D : Int} (h1 : 0 < D) (h2 : D < 2048) (h3 : D % 2 = 0) : jt2_1 D D (.ofNat 2) = some (.bool true) := by
  obtain ⟨i, rfl⟩ : ∃ i : Nat, D = .ofNat (2 * i + 2) := ⟨((D - 2) / 2).toNat, by rw [natB]; omega⟩
  rw [natB] at h2
  exact isT_of (allN_at jc2_1 (by omega))
theorem jt2_2_true {D : Int} (h1 : -2048 ≤ D) (h2 : D < 0) (h3 : D % 2 = 0) : jt2_2 D D (.ofNat 2) = some (.bool true) := by
  obtain ⟨i, rfl⟩ : ∃ i : Nat, D = .negSucc (2 * i + 1) := ⟨((-D - 2) / 2).toNat, by rw [negB]; omega⟩
  rw [negB] at h1
  exact isT_of (allN_at jc2_2 (by omega))
theorem jt2_3_true {D : Int} (h1 : 2048 ≤ D) : jt2_3 D D (.ofNat 2) = some (.bool true) := by
  unfold jt2_3
  simp only [ltF (show ¬ D < (.negSucc 2047) by rw [negB]; omega), ltT (show (.ofNat 2046) < D by rw [natB]; omega), ltF (show ¬ D < (.ofNat 2048) by rw [natB]; omega), leq_same, ieq_same, Bool.not_true, Bool.not_false, bc_true, bc_false]
theorem jt2_4_true {D : Int} (h1 : D < -2048) : jt2_4 D D (.ofNat 2) = some (.bool true) := by
  unfold jt2_4
  simp only [ltT (show D < (.negSucc 2047) by rw [negB]; omega), leq_same, ieq_same, Bool.not_true, Bool.not_false, bc_true, bc_false]
theorem jt2_5_true {D : Int} (h1 : -2048 ≤ D) (h2 : D ≤ 2046) (h3 : ¬ D % 2 = 0) : jt2_5 D D (.ofNat 2) = some (.bool true) := by
  unfold jt2_5
  simp only [ltF (show ¬ D < (.negSucc 2047) by rw [negB]; omega), ltF (show ¬ (.ofNat 2046) < D by rw [natB]; omega), ltT (show D < (.ofNat 2048) by rw [natB]; omega), eqF (show D ≠ (.ofNat 0) by rw [natB]; omega), md2, decide_eq_false h3, leq_same, ieq_same, Bool.not_true, Bool.not_false, bc_true, bc_false]
theorem jt2_6_true {D : Int} (h1 : D = 2047) : jt2_6 D D (.ofNat 2) = some (.bool true) := by
  subst h1
  rfl
theorem jt3_0_true {D : Int} (h : D = 0) : jt3_0 D D (.ofNat 3) = some (.bool true) := by
  subst h
  exact isT_of jc3_0
theorem jt3_1_true {D : Int} (h1 : 0 < D) (h2 : D < 256) (h3 : D % 2 = 0) : jt3_1 D D (.ofNat 3) = some (.bool true) := by
  obtain ⟨i, rfl⟩ : ∃ i : Nat, D = .ofNat (2 * i + 2) := ⟨((D - 2) / 2).toNat, by rw [natB]; omega⟩
  rw [natB] at h2
  exact isT_of (allN_at jc3_1 (by omega))
theorem jt3_2_true {D : Int} (h1 : -256 ≤ D) (h2 : D < 0) (h3 : D % 2 = 0) : jt3_2 D D (.ofNat 3) = some (.bool true) := by
  obtain ⟨i, rfl⟩ : ∃ i : Nat, D = .negSucc (2 * i + 1) := ⟨((-D - 2) / 2).toNat, by rw [negB]; omega⟩
  rw [negB] at h1
  exact isT_of (allN_at jc3_2 (by omega))
theorem jt3_3_true {D : Int} (h1 : 256 ≤ D) : jt3_3 D D (.ofNat 3) = some (.bool true) := by
  unfold jt3_3
  simp only [ltF (show ¬ D < (.negSucc 255) by rw [negB]; omega), ltT (show (.ofNat 254) < D by rw [natB]; omega), ltF (show ¬ D < (.ofNat 256) by rw [natB]; omega), leq_same, ieq_same, Bool.not_true, Bool.not_false, bc_true, bc_false]
theorem jt3_4_true {D : Int} (h1 : D < -256) : jt3_4 D D (.ofNat 3) = some (.bool true) := by
  unfold jt3_4
  simp only [ltT (show D < (.negSucc 255) by rw [negB]; omega), leq_same, ieq_same, Bool.not_true, Bool.not_false, bc_true, bc_false]
theorem jt3_5_true {D : Int} (h1 : -256 ≤ D) (h2 : D ≤ 254) (h3 : ¬ D % 2 = 0) : jt3_5 D D (.ofNat 3) = some (.bool true) := by
  unfold jt3_5
  simp only [ltF (show ¬ D < (.negSucc 255) by rw [negB]; omega), ltF (show ¬ (.ofNat 254) < D by rw [natB]; omega), ltT (show D < (.ofNat 256) by rw [natB]; omega), eqF (show D ≠ (.ofNat 0) by rw [natB]; omega), md2, decide_eq_false h3, leq_same, ieq_same, Bool.not_true, Bool.not_false, bc_true, bc_false]
theorem jt3_6_true {D : Int} (h1 : D = 255) : jt3_6 D D (.ofNat 3) = some (.bool true) := by
  subst h1
  rfl
end
end Go.Proofs.YtpmlihmaodpmfaaGreatDoor
