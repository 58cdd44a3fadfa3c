/- riscv's words of some forms as sums, and what Decode reads in them. -/
import Derived.Test.YtpmlihmaodpmfaaGreatDoorHeads
import Derived.Test.YtpmlihmaodpmfaaGreatDoorVaiH
import Derived.KernelRfl
namespace Go.Proofs.YtpmlihmaodpmfaaGreatDoor
open Go Go.Vai
noncomputable section
set_option maxRecDepth 100000
theorem rvWord_eq (rn : List UInt8) (fm rw : Int) (nm : List UInt8) (a b c d im : Int) : rvWordE rn fm rw nm a b c d im = wrapR .u32 (orI .u32 (wrapR .u32 (orI .u32 (wrapR .u32 (orI .u32 (wrapR .u32 (orI .u32 rw (wrapR .u32 (shlI (wrapR .u32 a) 7)))) (wrapR .u32 (shlI (wrapR .u32 b) 15)))) (wrapR .u32 (shlI (wrapR .u32 c) 20)))) (rvImmE fm im)) := by
  have h := rvWordT_val rn fm rw nm a b c d im
  unfold rvWordT at h
  simp only [eqb_int, bc_true, Option.some.injEq, AV.int.injEq, true_and] at h
  exact h.symm
/-! Masks -/
theorem a1 (x : Int) : andI .u32 x (.ofNat 1) = x % 2 := andB 1 rfl (by decide)
theorem a3 (x : Int) : andI .u32 x (.ofNat 3) = x % 4 := andB 2 rfl (by decide)
theorem a15 (x : Int) : andI .u32 x (.ofNat 15) = x % 16 := andB 4 rfl (by decide)
theorem a31 (x : Int) : andI .u32 x (.ofNat 31) = x % 32 := andB 5 rfl (by decide)
theorem a63 (x : Int) : andI .u32 x (.ofNat 63) = x % 64 := andB 6 rfl (by decide)
theorem a127 (x : Int) : andI .u32 x (.ofNat 127) = x % 128 := andB 7 rfl (by decide)
theorem a255 (x : Int) : andI .u32 x (.ofNat 255) = x % 256 := andB 8 rfl (by decide)
theorem a1023 (x : Int) : andI .u32 x (.ofNat 1023) = x % 1024 := andB 10 rfl (by decide)
theorem a4095 (x : Int) : andI .u32 x (.ofNat 4095) = x % 4096 := andB 12 rfl (by decide)
theorem a20 (x : Int) : andI .u32 x (.ofNat 1048575) = x % 1048576 := andB 20 rfl (by decide)
/-! The forms' numbers -/
theorem imm_I (n : Int) : rvImmE (.ofNat 1) n = n % 4096 * 1048576 := by
  show wrapR .u32 (shlI (wrapR .u32 (andI .u32 (wrapR .u32 (shrI n 0)) (.ofNat 4095))) 20) = _
  simp only [a4095, wrapB_u32, shrB, shlB]
  omega
theorem imm_U (n : Int) : rvImmE (.ofNat 6) n = n % 1048576 * 4096 := by
  show wrapR .u32 (shlI (wrapR .u32 (andI .u32 (wrapR .u32 (shrI n 0)) (.ofNat 1048575))) 12) = _
  simp only [a20, wrapB_u32, shrB, shlB]
  omega
theorem num_I (w : Int) (h : 0 ≤ w ∧ w < 4294967296) : rvNumE (.ofNat 1) w = (w / 1048576 + 2048) % 4096 - 2048 := by
  show wrapR .i64 (shrI (wrapR .i32 (wrapR .u32 (shlI (shrI w 20) 20))) 20) = _
  simp only [wrapB_u32, wrapB_i32, wrapB_i64, shrB, shlB]
  omega
theorem num_U (w : Int) (h : 0 ≤ w ∧ w < 4294967296) : rvNumE (.ofNat 6) w = (w / 4096 + 524288) % 1048576 - 524288 := by
  show wrapR .i64 (shrI (wrapR .i32 (wrapR .u32 (shlI (shrI w 12) 12))) 12) = _
  simp only [wrapB_u32, wrapB_i32, wrapB_i64, shrB, shlB]
  omega
theorem p7 : ((2 ^ 7 : Nat) : Int) = 128 := rfl
theorem p12 : ((2 ^ 12 : Nat) : Int) = 4096 := rfl
theorem p15 : ((2 ^ 15 : Nat) : Int) = 32768 := rfl
theorem p20 : ((2 ^ 20 : Nat) : Int) = 1048576 := rfl
theorem p32 : ((2 ^ IntKind.u32.bits : Nat) : Int) = 4294967296 := rfl
/-- The registers' part of a word whose own bits are the lowest seven. -/
theorem regs_sum {rw a b : Int} (hrw : 0 ≤ rw ∧ rw < 128) (ha : 0 ≤ a ∧ a < 32) (hb : 0 ≤ b ∧ b < 32) : wrapR .u32 (orI .u32 (wrapR .u32 (orI .u32 (wrapR .u32 (orI .u32 rw (wrapR .u32 (shlI (wrapR .u32 a) 7)))) (wrapR .u32 (shlI (wrapR .u32 b) 15)))) (wrapR .u32 (shlI (wrapR .u32 (.ofNat 0)) 20))) = rw + a * 128 + b * 32768 := by
  simp only [wrapB_u32, shlB, p7, p15, p20, natB]
  rw [show a % 4294967296 * 128 % 4294967296 = a * 128 by omega, show b % 4294967296 * 32768 % 4294967296 = b * 32768 by omega, show ((0 : Nat) : Int) % 4294967296 * 1048576 % 4294967296 = .ofNat 0 by rfl]
  rw [orLo (kd := .u32) (x := rw) (y := a * 128) 7 (by omega) (by rw [p7]; omega) (by omega) (by rw [p32]; omega) (by rw [p7]; omega) (by decide)]
  rw [show (rw + a * 128) % 4294967296 = rw + a * 128 by omega]
  rw [orLo (kd := .u32) (x := rw + a * 128) (y := b * 32768) 15 (by omega) (by rw [p15]; omega) (by omega) (by rw [p32]; omega) (by rw [p15]; omega) (by decide)]
  rw [show (rw + a * 128 + b * 32768) % 4294967296 = rw + a * 128 + b * 32768 by omega]
  rw [or0 (by omega) (by rw [p32]; omega)]
  omega
theorem word_I {rn nm : List UInt8} {rw a b d n : Int} (hrw : 0 ≤ rw ∧ rw < 128) (ha : 0 ≤ a ∧ a < 32) (hb : 0 ≤ b ∧ b < 32) : rvWordE rn (.ofNat 1) rw nm a b (.ofNat 0) d n = rw + a * 128 + b * 32768 + n % 4096 * 1048576 := by
  rw [rvWord_eq, regs_sum hrw ha hb, imm_I n, wrapB_u32]
  rw [orLo (kd := .u32) (x := rw + a * 128 + b * 32768) 20 (by omega) (by rw [p20]; omega) (by omega) (by rw [p32]; omega) (by rw [p20]; omega) (by decide)]
  omega
theorem word_U {rn nm : List UInt8} {rw a d n : Int} (hrw : 0 ≤ rw ∧ rw < 128) (ha : 0 ≤ a ∧ a < 32) : rvWordE rn (.ofNat 6) rw nm a (.ofNat 0) (.ofNat 0) d n = rw + a * 128 + n % 1048576 * 4096 := by
  rw [rvWord_eq, regs_sum hrw ha (by decide), imm_U n, wrapB_u32, natB]
  rw [orLo (kd := .u32) 12 (by omega) (by rw [p12]; omega) (by omega) (by rw [p32]; omega) (by rw [p12]; omega) (by decide)]
  omega
/-! What is read -/
theorem read_I (rn : List UInt8) (rw w : Int) (h : 0 ≤ w ∧ w < 4294967296) : rvRN rn (.ofNat 1) rw w = rn ∧ rvRA rn (.ofNat 1) rw w = w / 128 % 32 ∧ rvRB rn (.ofNat 1) rw w = w / 32768 % 32 ∧ rvRC rn (.ofNat 1) rw w = .ofNat 0 ∧ rvRD rn (.ofNat 1) rw w = .ofNat 0 ∧ rvRI rn (.ofNat 1) rw w = (w / 1048576 + 2048) % 4096 - 2048 := by
  have e := rvReadT_val rn (.ofNat 1) rw w
  unfold rvReadT at e
  simp only [eqb_int, eqb_str, eqb_agg, show rvUA (.ofNat 1) = true by kernel_rfl, show rvUB (.ofNat 1) = true by kernel_rfl, show rvUC (.ofNat 1) = false by kernel_rfl, bc_true, bc_false, Option.some.injEq, AV.agg.injEq, List.cons.injEq, AV.str.injEq, AV.int.injEq, true_and, and_true] at e
  obtain ⟨e1, e2, e3, e4, e5, e6⟩ := e
  rw [← e1, ← e2, ← e3, ← e4, ← e5, ← e6, num_I w h]
  simp only [a31, wrapB_u32, wrapB_i64, shrB, p7, p15]
  refine ⟨trivial, by omega, by omega, trivial, trivial, trivial⟩
theorem read_U (rn : List UInt8) (rw w : Int) (h : 0 ≤ w ∧ w < 4294967296) : rvRN rn (.ofNat 6) rw w = rn ∧ rvRA rn (.ofNat 6) rw w = w / 128 % 32 ∧ rvRB rn (.ofNat 6) rw w = .ofNat 0 ∧ rvRC rn (.ofNat 6) rw w = .ofNat 0 ∧ rvRD rn (.ofNat 6) rw w = .ofNat 0 ∧ rvRI rn (.ofNat 6) rw w = (w / 4096 + 524288) % 1048576 - 524288 := by
  have e := rvReadT_val rn (.ofNat 6) rw w
  unfold rvReadT at e
  simp only [eqb_int, eqb_str, eqb_agg, show rvUA (.ofNat 6) = true by kernel_rfl, show rvUB (.ofNat 6) = false by kernel_rfl, show rvUC (.ofNat 6) = false by kernel_rfl, bc_true, bc_false, Option.some.injEq, AV.agg.injEq, List.cons.injEq, AV.str.injEq, AV.int.injEq, true_and, and_true] at e
  obtain ⟨e1, e2, e3, e4, e5, e6⟩ := e
  rw [← e1, ← e2, ← e3, ← e4, ← e5, ← e6, num_U w h]
  simp only [a31, wrapB_u32, wrapB_i64, shrB, p7]
  refine ⟨trivial, by omega, trivial, trivial, trivial, trivial⟩
/-! The row -/
def opIs (op : Nat) (x : RvRow) : Bool := ieq (wrapR .u32 (andI .u32 x.2.2 (.ofNat 127))) (.ofNat op)
theorem find_and {α : Type} {q r : α → Bool} {x : α} : ∀ {l : List α}, l.find? q = some x → r x = true → l.find? (fun y => q y && r y) = some x
  | [], h, _ => by cases h
  | y :: l, h, hr => by
    simp only [List.find?] at h ⊢
    cases hq : q y with
    | true =>
      rw [hq] at h
      simp only [Option.some.injEq] at h
      subst h
      rw [hr]; rfl
    | false =>
      rw [hq] at h
      rw [Bool.false_and]
      exact find_and h hr
theorem hit_eq {w : Int} {op : Nat} (h : w % 128 = op) : rvHit w = fun y => opIs op y && ieq (rvWordE y.1 y.2.1 y.2.2 (rvRN y.1 y.2.1 y.2.2 w) (rvRA y.1 y.2.1 y.2.2 w) (rvRB y.1 y.2.1 y.2.2 w) (rvRC y.1 y.2.1 y.2.2 w) (rvRD y.1 y.2.1 y.2.2 w) (rvRI y.1 y.2.1 y.2.2 w)) w := by
  funext y
  have e : wrapR .u32 (andI .u32 w (.ofNat 127)) = .ofNat op := by rw [a127, wrapB_u32, h, natB]; omega
  unfold rvHit opIs
  rw [e]
/-- What is decoded, where the row is known. -/
theorem dec_of {w : Int} {op : Nat} {x : RvRow} (h : w % 128 = op) (hf : rvRows.find? (opIs op) = some x) (hw : rvWordE x.1 x.2.1 x.2.2 (rvRN x.1 x.2.1 x.2.2 w) (rvRA x.1 x.2.1 x.2.2 w) (rvRB x.1 x.2.1 x.2.2 w) (rvRC x.1 x.2.1 x.2.2 w) (rvRD x.1 x.2.1 x.2.2 w) (rvRI x.1 x.2.1 x.2.2 w) = w) :
    rvDN w = rvRN x.1 x.2.1 x.2.2 w ∧ rvDA w = rvRA x.1 x.2.1 x.2.2 w ∧ rvDB w = rvRB x.1 x.2.1 x.2.2 w ∧ rvDC w = rvRC x.1 x.2.1 x.2.2 w ∧ rvDD w = rvRD x.1 x.2.1 x.2.2 w ∧ rvDI w = rvRI x.1 x.2.1 x.2.2 w ∧ rvDE w = .ofNat 0 := by
  have e : rvO w = rvOut w (some x) := by
    unfold rvO
    rw [hit_eq h, find_and hf (by simp only [hw]; rw [ieqB]; simp)]
  unfold rvDN rvDA rvDB rvDC rvDD rvDI rvDE
  rw [e]
  exact ⟨rfl, rfl, rfl, rfl, rfl, rfl, rfl⟩
def nLui : List UInt8 := [108, 117, 105]
def nAddi : List UInt8 := [97, 100, 100, 105]
theorem lui_row : rvRows.find? (opIs 55) = some (nLui, .ofNat 6, .ofNat 55) := by kernel_rfl
theorem addi_row : rvRows.find? (opIs 19) = some (nAddi, .ofNat 1, .ofNat 19) := by kernel_rfl
theorem lui_dec {a n : Int} (ha : 0 ≤ a ∧ a < 32) (hn : -524288 ≤ n ∧ n ≤ 524287) : rvDN (55 + a * 128 + n % 1048576 * 4096) = nLui ∧ rvDA (55 + a * 128 + n % 1048576 * 4096) = a ∧ rvDB (55 + a * 128 + n % 1048576 * 4096) = 0 ∧ rvDC (55 + a * 128 + n % 1048576 * 4096) = 0 ∧ rvDD (55 + a * 128 + n % 1048576 * 4096) = 0 ∧ rvDI (55 + a * 128 + n % 1048576 * 4096) = n ∧ rvDE (55 + a * 128 + n % 1048576 * 4096) = 0 := by
  have hw : 0 ≤ 55 + a * 128 + n % 1048576 * 4096 ∧ 55 + a * 128 + n % 1048576 * 4096 < 4294967296 := by omega
  obtain ⟨r0, r1, r2, r3, r4, r5⟩ := read_U nLui (.ofNat 55) _ hw
  have k1 : (55 + a * 128 + n % 1048576 * 4096) / 128 % 32 = a := by omega
  have k2 : ((55 + a * 128 + n % 1048576 * 4096) / 4096 + 524288) % 1048576 - 524288 = n := by omega
  rw [k1] at r1
  rw [k2] at r5
  have := dec_of (w := 55 + a * 128 + n % 1048576 * 4096) (op := 55) (by omega) lui_row (by
    show rvWordE nLui (.ofNat 6) (.ofNat 55) _ _ _ _ _ _ = _
    simp only [r1, r2, r3, r5]
    exact word_U (by decide) ha)
  simp only [r0, r1, r2, r3, r4, r5] at this
  exact this
theorem addi_dec {a b n : Int} (ha : 0 ≤ a ∧ a < 32) (hb : 0 ≤ b ∧ b < 32) (hn : -2048 ≤ n ∧ n ≤ 2047) : rvDN (19 + a * 128 + b * 32768 + n % 4096 * 1048576) = nAddi ∧ rvDA (19 + a * 128 + b * 32768 + n % 4096 * 1048576) = a ∧ rvDB (19 + a * 128 + b * 32768 + n % 4096 * 1048576) = b ∧ rvDC (19 + a * 128 + b * 32768 + n % 4096 * 1048576) = 0 ∧ rvDD (19 + a * 128 + b * 32768 + n % 4096 * 1048576) = 0 ∧ rvDI (19 + a * 128 + b * 32768 + n % 4096 * 1048576) = n ∧ rvDE (19 + a * 128 + b * 32768 + n % 4096 * 1048576) = 0 := by
  have hw : 0 ≤ 19 + a * 128 + b * 32768 + n % 4096 * 1048576 ∧ 19 + a * 128 + b * 32768 + n % 4096 * 1048576 < 4294967296 := by omega
  obtain ⟨r0, r1, r2, r3, r4, r5⟩ := read_I nAddi (.ofNat 19) _ hw
  have k1 : (19 + a * 128 + b * 32768 + n % 4096 * 1048576) / 128 % 32 = a := by omega
  have k3 : (19 + a * 128 + b * 32768 + n % 4096 * 1048576) / 32768 % 32 = b := by omega
  have k2 : ((19 + a * 128 + b * 32768 + n % 4096 * 1048576) / 1048576 + 2048) % 4096 - 2048 = n := by omega
  rw [k1] at r1
  rw [k3] at r2
  rw [k2] at r5
  have := dec_of (w := 19 + a * 128 + b * 32768 + n % 4096 * 1048576) (op := 19) (by omega) addi_row (by
    show rvWordE nAddi (.ofNat 1) (.ofNat 19) _ _ _ _ _ _ = _
    simp only [r1, r2, r3, r5]
    exact word_I (by decide) ha hb)
  simp only [r0, r1, r2, r3, r4, r5] at this
  exact this
end
end Go.Proofs.YtpmlihmaodpmfaaGreatDoor
