/- riscv's words of beq and jal as sums, what Decode reads in them, and which numbers are refused. -/
import Derived.Test.YtpmlihmaodpmfaaGreatDoorRvLaw
import Derived.KernelRfl
namespace Go.Proofs.YtpmlihmaodpmfaaGreatDoor
open Go Go.Vai
noncomputable section
set_option maxRecDepth 100000
theorem q5 : ((2 ^ 5 : Nat) : Int) = 32 := rfl
theorem q8 : ((2 ^ 8 : Nat) : Int) = 256 := rfl
theorem q11 : ((2 ^ 11 : Nat) : Int) = 2048 := rfl
theorem q21 : ((2 ^ 21 : Nat) : Int) = 2097152 := rfl
theorem q31 : ((2 ^ 31 : Nat) : Int) = 2147483648 := rfl
theorem imm_B (n : Int) : rvImmE (.ofNat 5) n = n / 2 % 16 * 256 + n / 32 % 64 * 33554432 + n / 2048 % 2 * 128 + n / 4096 % 2 * 2147483648 := by
  show wrapR .u32 (orI .u32 (wrapR .u32 (orI .u32 (wrapR .u32 (orI .u32 (wrapR .u32 (shlI (wrapR .u32 (andI .u32 (wrapR .u32 (shrI n 1)) (.ofNat 15))) 8)) (wrapR .u32 (shlI (wrapR .u32 (andI .u32 (wrapR .u32 (shrI n 5)) (.ofNat 63))) 25)))) (wrapR .u32 (shlI (wrapR .u32 (andI .u32 (wrapR .u32 (shrI n 11)) (.ofNat 1))) 7)))) (wrapR .u32 (shlI (wrapR .u32 (andI .u32 (wrapR .u32 (shrI n 12)) (.ofNat 1))) 31))) = _
  simp only [a15, a63, a1, wrapB_u32, shrB, shlB]
  rw [show n / ((2 ^ 1 : Nat) : Int) % 4294967296 % 16 % 4294967296 * ((2 ^ 8 : Nat) : Int) % 4294967296 = n / 2 % 16 * 256 by omega, show n / ((2 ^ 5 : Nat) : Int) % 4294967296 % 64 % 4294967296 * ((2 ^ 25 : Nat) : Int) % 4294967296 = n / 32 % 64 * 33554432 by omega, show n / ((2 ^ 11 : Nat) : Int) % 4294967296 % 2 % 4294967296 * ((2 ^ 7 : Nat) : Int) % 4294967296 = n / 2048 % 2 * 128 by omega, show n / ((2 ^ 12 : Nat) : Int) % 4294967296 % 2 % 4294967296 * ((2 ^ 31 : Nat) : Int) % 4294967296 = n / 4096 % 2 * 2147483648 by omega]
  have h1 : 0 ≤ n / 2 % 16 ∧ n / 2 % 16 < 16 := by omega
  have h2 : 0 ≤ n / 32 % 64 ∧ n / 32 % 64 < 64 := by omega
  have h3 : 0 ≤ n / 2048 % 2 ∧ n / 2048 % 2 < 2 := by omega
  have h4 : 0 ≤ n / 4096 % 2 ∧ n / 4096 % 2 < 2 := by omega
  generalize n / 2 % 16 = x1 at *
  generalize n / 32 % 64 = x2 at *
  generalize n / 2048 % 2 = x3 at *
  generalize n / 4096 % 2 = x4 at *
  rw [orLo (kd := .u32) (x := x1 * 256) (y := x2 * 33554432) 12 (by omega) (by rw [p12]; omega) (by omega) (by rw [p32]; omega) (by rw [p12]; omega) (by decide)]
  rw [show (x1 * 256 + x2 * 33554432) % 4294967296 = x1 * 256 + x2 * 33554432 by omega]
  rw [orMid (kd := .u32) (x := x1 * 256 + x2 * 33554432) (y := x3 * 128) 7 8 (by omega) (by rw [p32]; omega) (by rw [p7, q8]; omega) (by omega) (by rw [q8]; omega) (by rw [p7]; omega) (by decide)]
  rw [show (x1 * 256 + x2 * 33554432 + x3 * 128) % 4294967296 = x1 * 256 + x2 * 33554432 + x3 * 128 by omega]
  rw [orLo (kd := .u32) (x := x1 * 256 + x2 * 33554432 + x3 * 128) (y := x4 * 2147483648) 31 (by omega) (by rw [q31]; omega) (by omega) (by rw [p32]; omega) (by rw [q31]; omega) (by decide)]
  omega
theorem imm_J (n : Int) : rvImmE (.ofNat 7) n = n / 2 % 1024 * 2097152 + n / 2048 % 2 * 1048576 + n / 4096 % 256 * 4096 + n / 1048576 % 2 * 2147483648 := by
  show wrapR .u32 (orI .u32 (wrapR .u32 (orI .u32 (wrapR .u32 (orI .u32 (wrapR .u32 (shlI (wrapR .u32 (andI .u32 (wrapR .u32 (shrI n 1)) (.ofNat 1023))) 21)) (wrapR .u32 (shlI (wrapR .u32 (andI .u32 (wrapR .u32 (shrI n 11)) (.ofNat 1))) 20)))) (wrapR .u32 (shlI (wrapR .u32 (andI .u32 (wrapR .u32 (shrI n 12)) (.ofNat 255))) 12)))) (wrapR .u32 (shlI (wrapR .u32 (andI .u32 (wrapR .u32 (shrI n 20)) (.ofNat 1))) 31))) = _
  simp only [a1023, a255, a1, wrapB_u32, shrB, shlB]
  rw [show n / ((2 ^ 1 : Nat) : Int) % 4294967296 % 1024 % 4294967296 * ((2 ^ 21 : Nat) : Int) % 4294967296 = n / 2 % 1024 * 2097152 by omega, show n / ((2 ^ 11 : Nat) : Int) % 4294967296 % 2 % 4294967296 * ((2 ^ 20 : Nat) : Int) % 4294967296 = n / 2048 % 2 * 1048576 by omega, show n / ((2 ^ 12 : Nat) : Int) % 4294967296 % 256 % 4294967296 * ((2 ^ 12 : Nat) : Int) % 4294967296 = n / 4096 % 256 * 4096 by omega, show n / ((2 ^ 20 : Nat) : Int) % 4294967296 % 2 % 4294967296 * ((2 ^ 31 : Nat) : Int) % 4294967296 = n / 1048576 % 2 * 2147483648 by omega]
  have h1 : 0 ≤ n / 2 % 1024 ∧ n / 2 % 1024 < 1024 := by omega
  have h2 : 0 ≤ n / 2048 % 2 ∧ n / 2048 % 2 < 2 := by omega
  have h3 : 0 ≤ n / 4096 % 256 ∧ n / 4096 % 256 < 256 := by omega
  have h4 : 0 ≤ n / 1048576 % 2 ∧ n / 1048576 % 2 < 2 := by omega
  generalize n / 2 % 1024 = x1 at *
  generalize n / 2048 % 2 = x2 at *
  generalize n / 4096 % 256 = x3 at *
  generalize n / 1048576 % 2 = x4 at *
  rw [orHi (kd := .u32) (x := x1 * 2097152) (y := x2 * 1048576) 21 (by omega) (by rw [q21]; omega) (by omega) (by rw [p32]; omega) (by rw [q21]; omega) (by decide)]
  rw [show (x1 * 2097152 + x2 * 1048576) % 4294967296 = x1 * 2097152 + x2 * 1048576 by omega]
  rw [orHi (kd := .u32) (x := x1 * 2097152 + x2 * 1048576) (y := x3 * 4096) 20 (by omega) (by rw [p20]; omega) (by omega) (by rw [p32]; omega) (by rw [p20]; omega) (by decide)]
  rw [show (x1 * 2097152 + x2 * 1048576 + x3 * 4096) % 4294967296 = x1 * 2097152 + x2 * 1048576 + x3 * 4096 by omega]
  rw [orLo (kd := .u32) (x := x1 * 2097152 + x2 * 1048576 + x3 * 4096) (y := x4 * 2147483648) 31 (by omega) (by rw [q31]; omega) (by omega) (by rw [p32]; omega) (by rw [q31]; omega) (by decide)]
  omega
theorem num_B (w : Int) (h : 0 ≤ w ∧ w < 4294967296) : rvNumE (.ofNat 5) w = (w / 256 % 16 * 2 + w / 33554432 % 64 * 32 + w / 128 % 2 * 2048 + w / 2147483648 % 2 * 4096 + 4096) % 8192 - 4096 := by
  show wrapR .i64 (shrI (wrapR .i32 (wrapR .u32 (shlI (wrapR .u32 (orI .u32 (wrapR .u32 (orI .u32 (wrapR .u32 (orI .u32 (wrapR .u32 (shlI (wrapR .u32 (andI .u32 (shrI w 8) (.ofNat 15))) 1)) (wrapR .u32 (shlI (wrapR .u32 (andI .u32 (shrI w 25) (.ofNat 63))) 5)))) (wrapR .u32 (shlI (wrapR .u32 (andI .u32 (shrI w 7) (.ofNat 1))) 11)))) (wrapR .u32 (shlI (wrapR .u32 (andI .u32 (shrI w 31) (.ofNat 1))) 12)))) 19))) 19) = _
  simp only [a15, a63, a1, wrapB_u32, wrapB_i32, wrapB_i64, shrB, shlB]
  rw [show w / ((2 ^ 8 : Nat) : Int) % 16 % 4294967296 * ((2 ^ 1 : Nat) : Int) % 4294967296 = w / 256 % 16 * 2 by omega, show w / ((2 ^ 25 : Nat) : Int) % 64 % 4294967296 * ((2 ^ 5 : Nat) : Int) % 4294967296 = w / 33554432 % 64 * 32 by omega, show w / ((2 ^ 7 : Nat) : Int) % 2 % 4294967296 * ((2 ^ 11 : Nat) : Int) % 4294967296 = w / 128 % 2 * 2048 by omega, show w / ((2 ^ 31 : Nat) : Int) % 2 % 4294967296 * ((2 ^ 12 : Nat) : Int) % 4294967296 = w / 2147483648 % 2 * 4096 by omega]
  have h1 : 0 ≤ w / 256 % 16 ∧ w / 256 % 16 < 16 := by omega
  have h2 : 0 ≤ w / 33554432 % 64 ∧ w / 33554432 % 64 < 64 := by omega
  have h3 : 0 ≤ w / 128 % 2 ∧ w / 128 % 2 < 2 := by omega
  have h4 : 0 ≤ w / 2147483648 % 2 ∧ w / 2147483648 % 2 < 2 := by omega
  generalize w / 256 % 16 = x1 at *
  generalize w / 33554432 % 64 = x2 at *
  generalize w / 128 % 2 = x3 at *
  generalize w / 2147483648 % 2 = x4 at *
  rw [orLo (kd := .u32) (x := x1 * 2) (y := x2 * 32) 5 (by omega) (by rw [q5]; omega) (by omega) (by rw [p32]; omega) (by rw [q5]; omega) (by decide)]
  rw [show (x1 * 2 + x2 * 32) % 4294967296 = x1 * 2 + x2 * 32 by omega]
  rw [orLo (kd := .u32) (x := x1 * 2 + x2 * 32) (y := x3 * 2048) 11 (by omega) (by rw [q11]; omega) (by omega) (by rw [p32]; omega) (by rw [q11]; omega) (by decide)]
  rw [show (x1 * 2 + x2 * 32 + x3 * 2048) % 4294967296 = x1 * 2 + x2 * 32 + x3 * 2048 by omega]
  rw [orLo (kd := .u32) (x := x1 * 2 + x2 * 32 + x3 * 2048) (y := x4 * 4096) 12 (by omega) (by rw [p12]; omega) (by omega) (by rw [p32]; omega) (by rw [p12]; omega) (by decide)]
  have hx : 0 ≤ x1 * 2 + x2 * 32 + x3 * 2048 + x4 * 4096 ∧ x1 * 2 + x2 * 32 + x3 * 2048 + x4 * 4096 < 8192 := by omega
  generalize x1 * 2 + x2 * 32 + x3 * 2048 + x4 * 4096 = x at hx ⊢
  omega
theorem num_J (w : Int) (h : 0 ≤ w ∧ w < 4294967296) : rvNumE (.ofNat 7) w = (w / 2097152 % 1024 * 2 + w / 1048576 % 2 * 2048 + w / 4096 % 256 * 4096 + w / 2147483648 % 2 * 1048576 + 1048576) % 2097152 - 1048576 := by
  show wrapR .i64 (shrI (wrapR .i32 (wrapR .u32 (shlI (wrapR .u32 (orI .u32 (wrapR .u32 (orI .u32 (wrapR .u32 (orI .u32 (wrapR .u32 (shlI (wrapR .u32 (andI .u32 (shrI w 21) (.ofNat 1023))) 1)) (wrapR .u32 (shlI (wrapR .u32 (andI .u32 (shrI w 20) (.ofNat 1))) 11)))) (wrapR .u32 (shlI (wrapR .u32 (andI .u32 (shrI w 12) (.ofNat 255))) 12)))) (wrapR .u32 (shlI (wrapR .u32 (andI .u32 (shrI w 31) (.ofNat 1))) 20)))) 11))) 11) = _
  simp only [a1023, a255, a1, wrapB_u32, wrapB_i32, wrapB_i64, shrB, shlB]
  rw [show w / ((2 ^ 21 : Nat) : Int) % 1024 % 4294967296 * ((2 ^ 1 : Nat) : Int) % 4294967296 = w / 2097152 % 1024 * 2 by omega, show w / ((2 ^ 20 : Nat) : Int) % 2 % 4294967296 * ((2 ^ 11 : Nat) : Int) % 4294967296 = w / 1048576 % 2 * 2048 by omega, show w / ((2 ^ 12 : Nat) : Int) % 256 % 4294967296 * ((2 ^ 12 : Nat) : Int) % 4294967296 = w / 4096 % 256 * 4096 by omega, show w / ((2 ^ 31 : Nat) : Int) % 2 % 4294967296 * ((2 ^ 20 : Nat) : Int) % 4294967296 = w / 2147483648 % 2 * 1048576 by omega]
  have h1 : 0 ≤ w / 2097152 % 1024 ∧ w / 2097152 % 1024 < 1024 := by omega
  have h2 : 0 ≤ w / 1048576 % 2 ∧ w / 1048576 % 2 < 2 := by omega
  have h3 : 0 ≤ w / 4096 % 256 ∧ w / 4096 % 256 < 256 := by omega
  have h4 : 0 ≤ w / 2147483648 % 2 ∧ w / 2147483648 % 2 < 2 := by omega
  generalize w / 2097152 % 1024 = x1 at *
  generalize w / 1048576 % 2 = x2 at *
  generalize w / 4096 % 256 = x3 at *
  generalize w / 2147483648 % 2 = x4 at *
  rw [orLo (kd := .u32) (x := x1 * 2) (y := x2 * 2048) 11 (by omega) (by rw [q11]; omega) (by omega) (by rw [p32]; omega) (by rw [q11]; omega) (by decide)]
  rw [show (x1 * 2 + x2 * 2048) % 4294967296 = x1 * 2 + x2 * 2048 by omega]
  rw [orLo (kd := .u32) (x := x1 * 2 + x2 * 2048) (y := x3 * 4096) 12 (by omega) (by rw [p12]; omega) (by omega) (by rw [p32]; omega) (by rw [p12]; omega) (by decide)]
  rw [show (x1 * 2 + x2 * 2048 + x3 * 4096) % 4294967296 = x1 * 2 + x2 * 2048 + x3 * 4096 by omega]
  rw [orLo (kd := .u32) (x := x1 * 2 + x2 * 2048 + x3 * 4096) (y := x4 * 1048576) 20 (by omega) (by rw [p20]; omega) (by omega) (by rw [p32]; omega) (by rw [p20]; omega) (by decide)]
  have hx : 0 ≤ x1 * 2 + x2 * 2048 + x3 * 4096 + x4 * 1048576 ∧ x1 * 2 + x2 * 2048 + x3 * 4096 + x4 * 1048576 < 2097152 := by omega
  generalize x1 * 2 + x2 * 2048 + x3 * 4096 + x4 * 1048576 = x at hx ⊢
  omega
theorem word_B {rn nm : List UInt8} {d n : Int} : rvWordE rn (.ofNat 5) (.ofNat 99) nm (.ofNat 0) (.ofNat 0) (.ofNat 0) d n = 99 + (n / 2 % 16 * 256 + n / 32 % 64 * 33554432 + n / 2048 % 2 * 128 + n / 4096 % 2 * 2147483648) := by
  rw [rvWord_eq, regs_sum (by decide) (by decide) (by decide), imm_B n, wrapB_u32, natB, natB]
  rw [orLo (kd := .u32) 7 (by omega) (by rw [p7]; omega) (by omega) (by rw [p32]; omega) (by rw [p7]; omega) (by decide)]
  omega
theorem word_J {rn nm : List UInt8} {d n : Int} : rvWordE rn (.ofNat 7) (.ofNat 111) nm (.ofNat 0) (.ofNat 0) (.ofNat 0) d n = 111 + (n / 2 % 1024 * 2097152 + n / 2048 % 2 * 1048576 + n / 4096 % 256 * 4096 + n / 1048576 % 2 * 2147483648) := by
  rw [rvWord_eq, regs_sum (by decide) (by decide) (by decide), imm_J n, wrapB_u32, natB, natB]
  rw [orLo (kd := .u32) 7 (by omega) (by rw [p7]; omega) (by omega) (by rw [p32]; omega) (by rw [p7]; omega) (by decide)]
  omega
theorem read_B (rn : List UInt8) (rw w : Int) (h : 0 ≤ w ∧ w < 4294967296) : rvRN rn (.ofNat 5) rw w = rn ∧ rvRA rn (.ofNat 5) rw w = .ofNat 0 ∧ rvRB rn (.ofNat 5) rw w = w / 32768 % 32 ∧ rvRC rn (.ofNat 5) rw w = w / 1048576 % 32 ∧ rvRD rn (.ofNat 5) rw w = .ofNat 0 ∧ rvRI rn (.ofNat 5) rw w = (w / 256 % 16 * 2 + w / 33554432 % 64 * 32 + w / 128 % 2 * 2048 + w / 2147483648 % 2 * 4096 + 4096) % 8192 - 4096 := by
  have e := rvReadT_val rn (.ofNat 5) rw w
  unfold rvReadT at e
  simp only [eqb_int, eqb_str, eqb_agg, show rvUA (.ofNat 5) = false by kernel_rfl, show rvUB (.ofNat 5) = true by kernel_rfl, show rvUC (.ofNat 5) = true by kernel_rfl, bc_true, bc_false, Option.some.injEq, AV.agg.injEq, List.cons.injEq, AV.str.injEq, AV.int.injEq, true_and, and_true] at e
  obtain ⟨e1, e2, e3, e4, e5, e6⟩ := e
  rw [← e1, ← e2, ← e3, ← e4, ← e5, ← e6, num_B w h]
  simp only [a31, wrapB_u32, wrapB_i64, shrB, p15, p20]
  refine ⟨trivial, trivial, by omega, by omega, trivial, trivial⟩
theorem read_J (rn : List UInt8) (rw w : Int) (h : 0 ≤ w ∧ w < 4294967296) : rvRN rn (.ofNat 7) rw w = rn ∧ rvRA rn (.ofNat 7) rw w = w / 128 % 32 ∧ rvRB rn (.ofNat 7) rw w = .ofNat 0 ∧ rvRC rn (.ofNat 7) rw w = .ofNat 0 ∧ rvRD rn (.ofNat 7) rw w = .ofNat 0 ∧ rvRI rn (.ofNat 7) rw w = (w / 2097152 % 1024 * 2 + w / 1048576 % 2 * 2048 + w / 4096 % 256 * 4096 + w / 2147483648 % 2 * 1048576 + 1048576) % 2097152 - 1048576 := by
  have e := rvReadT_val rn (.ofNat 7) rw w
  unfold rvReadT at e
  simp only [eqb_int, eqb_str, eqb_agg, show rvUA (.ofNat 7) = true by kernel_rfl, show rvUB (.ofNat 7) = false by kernel_rfl, show rvUC (.ofNat 7) = false by kernel_rfl, bc_true, bc_false, Option.some.injEq, AV.agg.injEq, List.cons.injEq, AV.str.injEq, AV.int.injEq, true_and, and_true] at e
  obtain ⟨e1, e2, e3, e4, e5, e6⟩ := e
  rw [← e1, ← e2, ← e3, ← e4, ← e5, ← e6, num_J w h]
  simp only [a31, wrapB_u32, wrapB_i64, shrB, p7]
  refine ⟨trivial, by omega, trivial, trivial, trivial, trivial⟩
def nBeq : List UInt8 := [98, 101, 113]
def nJal : List UInt8 := [106, 97, 108]
theorem beq_row : rvRows.find? (opIs 99) = some (nBeq, .ofNat 5, .ofNat 99) := by kernel_rfl
theorem jal_row : rvRows.find? (opIs 111) = some (nJal, .ofNat 7, .ofNat 111) := by kernel_rfl
theorem beq_dec {n : Int} (hn : -4096 ≤ n ∧ n ≤ 4095) (h2 : n % 2 = 0) : ∃ W, (∀ d, rvWordE nBeq (.ofNat 5) (.ofNat 99) nBeq (.ofNat 0) (.ofNat 0) (.ofNat 0) d n = W) ∧ (0 ≤ W ∧ W < 4294967296) ∧ W % 4 = 3 ∧ rvDN W = nBeq ∧ rvDA W = .ofNat 0 ∧ rvDB W = .ofNat 0 ∧ rvDC W = .ofNat 0 ∧ rvDD W = .ofNat 0 ∧ rvDI W = n ∧ rvDE W = .ofNat 0 := by
  have e : ∀ d, rvWordE nBeq (.ofNat 5) (.ofNat 99) nBeq (.ofNat 0) (.ofNat 0) (.ofNat 0) d n = 99 + (n / 2 % 16 * 256 + n / 32 % 64 * 33554432 + n / 2048 % 2 * 128 + n / 4096 % 2 * 2147483648) := fun d => word_B
  have hv : (n / 2 % 16 * 2 + n / 32 % 64 * 32 + n / 2048 % 2 * 2048 + n / 4096 % 2 * 4096 + 4096) % 8192 - 4096 = n := by omega
  have h1 : 0 ≤ n / 2 % 16 ∧ n / 2 % 16 < 16 := by omega
  have h3 : 0 ≤ n / 32 % 64 ∧ n / 32 % 64 < 64 := by omega
  have h4 : 0 ≤ n / 2048 % 2 ∧ n / 2048 % 2 < 2 := by omega
  have h5 : 0 ≤ n / 4096 % 2 ∧ n / 4096 % 2 < 2 := by omega
  generalize n / 2 % 16 = x1 at *
  generalize n / 32 % 64 = x2 at *
  generalize n / 2048 % 2 = x3 at *
  generalize n / 4096 % 2 = x4 at *
  refine ⟨_, e, ?_⟩
  generalize hW : 99 + (x1 * 256 + x2 * 33554432 + x3 * 128 + x4 * 2147483648) = W at *
  have hw : 0 ≤ W ∧ W < 4294967296 := by omega
  have k1 : W / 256 % 16 = x1 := by omega
  have k2 : W / 33554432 % 64 = x2 := by omega
  have k3 : W / 128 % 2 = x3 := by omega
  have k4 : W / 2147483648 % 2 = x4 := by omega
  have k5 : W / 32768 % 32 = .ofNat 0 := by rw [natB]; omega
  have k6 : W / 1048576 % 32 = .ofNat 0 := by rw [natB]; omega
  obtain ⟨r0, r1, r2, r3, r4, r5⟩ := read_B nBeq (.ofNat 99) _ hw
  rw [k5] at r2
  rw [k6] at r3
  rw [k1, k2, k3, k4, hv] at r5
  have := dec_of (w := W) (op := 99) (by omega) beq_row (by
    show rvWordE nBeq (.ofNat 5) (.ofNat 99) _ _ _ _ _ _ = _
    rw [r0, r1, r2, r3, r5]
    exact e _)
  refine ⟨hw, by omega, ?_⟩
  simp only [r0, r1, r2, r3, r4, r5] at this
  exact this
theorem jal_dec {n : Int} (hn : -1048576 ≤ n ∧ n ≤ 1048575) (h2 : n % 2 = 0) : ∃ W, (∀ d, rvWordE nJal (.ofNat 7) (.ofNat 111) nJal (.ofNat 0) (.ofNat 0) (.ofNat 0) d n = W) ∧ (0 ≤ W ∧ W < 4294967296) ∧ W % 4 = 3 ∧ rvDN W = nJal ∧ rvDA W = .ofNat 0 ∧ rvDB W = .ofNat 0 ∧ rvDC W = .ofNat 0 ∧ rvDD W = .ofNat 0 ∧ rvDI W = n ∧ rvDE W = .ofNat 0 := by
  have e : ∀ d, rvWordE nJal (.ofNat 7) (.ofNat 111) nJal (.ofNat 0) (.ofNat 0) (.ofNat 0) d n = 111 + (n / 2 % 1024 * 2097152 + n / 2048 % 2 * 1048576 + n / 4096 % 256 * 4096 + n / 1048576 % 2 * 2147483648) := fun d => word_J
  have hv : (n / 2 % 1024 * 2 + n / 2048 % 2 * 2048 + n / 4096 % 256 * 4096 + n / 1048576 % 2 * 1048576 + 1048576) % 2097152 - 1048576 = n := by omega
  have h1 : 0 ≤ n / 2 % 1024 ∧ n / 2 % 1024 < 1024 := by omega
  have h3 : 0 ≤ n / 2048 % 2 ∧ n / 2048 % 2 < 2 := by omega
  have h4 : 0 ≤ n / 4096 % 256 ∧ n / 4096 % 256 < 256 := by omega
  have h5 : 0 ≤ n / 1048576 % 2 ∧ n / 1048576 % 2 < 2 := by omega
  generalize n / 2 % 1024 = x1 at *
  generalize n / 2048 % 2 = x2 at *
  generalize n / 4096 % 256 = x3 at *
  generalize n / 1048576 % 2 = x4 at *
  refine ⟨_, e, ?_⟩
  generalize hW : 111 + (x1 * 2097152 + x2 * 1048576 + x3 * 4096 + x4 * 2147483648) = W at *
  have hw : 0 ≤ W ∧ W < 4294967296 := by omega
  have k1 : W / 2097152 % 1024 = x1 := by omega
  have k2 : W / 1048576 % 2 = x2 := by omega
  have k3 : W / 4096 % 256 = x3 := by omega
  have k4 : W / 2147483648 % 2 = x4 := by omega
  have k5 : W / 128 % 32 = .ofNat 0 := by rw [natB]; omega
  obtain ⟨r0, r1, r2, r3, r4, r5⟩ := read_J nJal (.ofNat 111) _ hw
  rw [k5] at r1
  rw [k1, k2, k3, k4, hv] at r5
  have := dec_of (w := W) (op := 111) (by omega) jal_row (by
    show rvWordE nJal (.ofNat 7) (.ofNat 111) _ _ _ _ _ _ = _
    rw [r0, r1, r2, r3, r5]
    exact e _)
  refine ⟨hw, by omega, ?_⟩
  simp only [r0, r1, r2, r3, r4, r5] at this
  exact this
theorem tm_iff {n : Int} : Int.tmod n 2 = 0 ↔ n % 2 = 0 := ⟨fun h => Int.emod_eq_zero_of_dvd (Int.dvd_of_tmod_eq_zero h), fun h => Int.tmod_eq_zero_of_dvd (Int.dvd_of_emod_eq_zero h)⟩
theorem rv_flt {fm : Int} {rn nm : List UInt8} {rw n lo hi : Int} (h1 : rvRegB (.ofNat 0) (rvUA fm) = true) (h2 : rvRegB (.ofNat 0) (rvUB fm) = true) (h3 : rvRegB (.ofNat 0) (rvUC fm) = true) (h4 : ieq lo hi = false) (hl : rvLo fm = lo) (hh : rvHi fm = hi) (hy : rvBy fm = .ofNat 2) :
    (lo ≤ n → n ≤ hi → n % 2 = 0 → rvFault rn fm rw nm (.ofNat 0) (.ofNat 0) (.ofNat 0) (.ofNat 0) n = .ofNat 0) ∧ (n < lo ∨ hi < n ∨ n % 2 ≠ 0 → ieq (rvFault rn fm rw nm (.ofNat 0) (.ofNat 0) (.ofNat 0) (.ofNat 0) n) (.ofNat 0) = false) := by
  have e := rvFaultyT_val rn fm rw nm (.ofNat 0) (.ofNat 0) (.ofNat 0) (.ofNat 0) n
  have tm : ieq (Int.tmod n (.ofNat 2)) (.ofNat 0) = decide (n % 2 = 0) := by
    rw [ieqB]
    exact decide_eq_decide.2 tm_iff
  unfold rvFaultyT at e
  simp only [h1, h2, h3, h4, hl, hh, hy, tm, iltB, show ieq (.ofNat 0) (.ofNat 0) = true from rfl, show ieq (.ofNat 2) (.ofNat 0) = false from rfl, Bool.not_true, bc_false] at e
  refine ⟨fun g1 g2 g3 => ?_, fun g => ?_⟩
  · rw [decide_eq_false (by omega), decide_eq_false (by omega), decide_eq_true g3] at e
    simp only [Bool.not_true, bc_false, Option.some.injEq, AV.int.injEq, true_and] at e
    exact e.symm
  · by_cases g1 : n < lo
    · rw [decide_eq_true g1] at e
      simp only [bc_true, Option.some.injEq, AV.int.injEq, true_and] at e
      rw [← e]; rfl
    · rw [decide_eq_false g1] at e
      by_cases g2 : hi < n
      · rw [decide_eq_true g2] at e
        simp only [bc_true, bc_false, Option.some.injEq, AV.int.injEq, true_and] at e
        rw [← e]; rfl
      · rw [decide_eq_false g2, decide_eq_false (show ¬ n % 2 = 0 by omega)] at e
        simp only [Bool.not_false, bc_true, bc_false, Option.some.injEq, AV.int.injEq, true_and] at e
        rw [← e]; rfl
theorem beq_flt {rn nm : List UInt8} {rw n : Int} : (-4096 ≤ n → n ≤ 4094 → n % 2 = 0 → rvFault rn (.ofNat 5) rw nm (.ofNat 0) (.ofNat 0) (.ofNat 0) (.ofNat 0) n = .ofNat 0) ∧ (n < -4096 ∨ 4094 < n ∨ n % 2 ≠ 0 → ieq (rvFault rn (.ofNat 5) rw nm (.ofNat 0) (.ofNat 0) (.ofNat 0) (.ofNat 0) n) (.ofNat 0) = false) :=
  rv_flt (by kernel_rfl) (by kernel_rfl) (by kernel_rfl) (by kernel_rfl) (by kernel_rfl) (by kernel_rfl) (by kernel_rfl)
theorem jal_flt {rn nm : List UInt8} {rw n : Int} : (-1048576 ≤ n → n ≤ 1048574 → n % 2 = 0 → rvFault rn (.ofNat 7) rw nm (.ofNat 0) (.ofNat 0) (.ofNat 0) (.ofNat 0) n = .ofNat 0) ∧ (n < -1048576 ∨ 1048574 < n ∨ n % 2 ≠ 0 → ieq (rvFault rn (.ofNat 7) rw nm (.ofNat 0) (.ofNat 0) (.ofNat 0) (.ofNat 0) n) (.ofNat 0) = false) :=
  rv_flt (by kernel_rfl) (by kernel_rfl) (by kernel_rfl) (by kernel_rfl) (by kernel_rfl) (by kernel_rfl) (by kernel_rfl)
end
end Go.Proofs.YtpmlihmaodpmfaaGreatDoor
