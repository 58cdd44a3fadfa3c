/- riscv's words of some forms as sums, and what Decode reads in them. -/
import Derived.Test.YtpmlihmaodpmfaaGreatDoorHeads
import Derived.Test.YtpmlihmaodpmfaaGreatDoorVaiH
import Derived.KernelRfl
namespace Go.Proofs.YtpmlihmaodpmfaaGreatDoor
open Go Go.Vai
noncomputable section
set_option maxRecDepth 100000
theorem rvWord_eq (rn : List UInt8) (fm rw : Int) (nm : List UInt8) (a b c d im : Int) : rvWordE rn fm rw nm a b c d im = wrapR .u32 (orI .u32 (wrapR .u32 (orI .u32 (wrapR .u32 (orI .u32 (wrapR .u32 (orI .u32 rw (wrapR .u32 (shlI (wrapR .u32 a) 7)))) (wrapR .u32 (shlI (wrapR .u32 b) 15)))) (wrapR .u32 (shlI (wrapR .u32 c) 20)))) (rvImmE fm im)) := by
  have h := rvWordT_val rn fm rw nm a b c d im
  unfold rvWordT at h
  simp only [eqb_int, bc_true, Option.some.injEq, AV.int.injEq, true_and] at h
  exact h.symm
theorem a1 (x : Int) : andI .u32 x (.ofNat 1) = x % 2 := andB 1 rfl (by decide)
theorem a3 (x : Int) : andI .u32 x (.ofNat 3) = x % 4 := andB 2 rfl (by decide)
theorem a15 (x : Int) : andI .u32 x (.ofNat 15) = x % 16 := andB 4 rfl (by decide)
theorem a31 (x : Int) : andI .u32 x (.ofNat 31) = x % 32 := andB 5 rfl (by decide)
theorem a63 (x : Int) : andI .u32 x (.ofNat 63) = x % 64 := andB 6 rfl (by decide)
theorem a127 (x : Int) : andI .u32 x (.ofNat 127) = x % 128 := andB 7 rfl (by decide)
theorem a255 (x : Int) : andI .u32 x (.ofNat 255) = x % 256 := andB 8 rfl (by decide)
theorem a1023 (x : Int) : andI .u32 x (.ofNat 1023) = x % 1024 := andB 10 rfl (by decide)
theorem p7 : ((2 ^ 7 : Nat) : Int) = 128 := rfl
theorem p12 : ((2 ^ 12 : Nat) : Int) = 4096 := rfl
theorem p15 : ((2 ^ 15 : Nat) : Int) = 32768 := rfl
theorem p20 : ((2 ^ 20 : Nat) : Int) = 1048576 := rfl
theorem p32 : ((2 ^ IntKind.u32.bits : Nat) : Int) = 4294967296 := rfl
theorem regs_sum {rw a b : Int} (hrw : 0 ≤ rw ∧ rw < 128) (ha : 0 ≤ a ∧ a < 32) (hb : 0 ≤ b ∧ b < 32) : wrapR .u32 (orI .u32 (wrapR .u32 (orI .u32 (wrapR .u32 (orI .u32 rw (wrapR .u32 (shlI (wrapR .u32 a) 7)))) (wrapR .u32 (shlI (wrapR .u32 b) 15)))) (wrapR .u32 (shlI (wrapR .u32 (.ofNat 0)) 20))) = rw + a * 128 + b * 32768 := by
  simp only [wrapB_u32, shlB, p7, p15, p20, natB]
  rw [show a % 4294967296 * 128 % 4294967296 = a * 128 by omega, show b % 4294967296 * 32768 % 4294967296 = b * 32768 by omega, show ((0 : Nat) : Int) % 4294967296 * 1048576 % 4294967296 = .ofNat 0 by rfl]
  rw [orLo (kd := .u32) (x := rw) (y := a * 128) 7 (by omega) (by rw [p7]; omega) (by omega) (by rw [p32]; omega) (by rw [p7]; omega) (by decide)]
  rw [show (rw + a * 128) % 4294967296 = rw + a * 128 by omega]
  rw [orLo (kd := .u32) (x := rw + a * 128) (y := b * 32768) 15 (by omega) (by rw [p15]; omega) (by omega) (by rw [p32]; omega) (by rw [p15]; omega) (by decide)]
  rw [show (rw + a * 128 + b * 32768) % 4294967296 = rw + a * 128 + b * 32768 by omega]
  rw [or0 (by omega) (by rw [p32]; omega)]
  omega
def opIs (op : Nat) (x : RvRow) : Bool := ieq (wrapR .u32 (andI .u32 x.2.2 (.ofNat 127))) (.ofNat op)
theorem find_and {α : Type} {q r : α → Bool} {x : α} : ∀ {l : List α}, l.find? q = some x → r x = true → l.find? (fun y => q y && r y) = some x
  | [], h, _ => by cases h
  | y :: l, h, hr => by
    simp only [List.find?] at h ⊢
    cases hq : q y with
    | true =>
      rw [hq] at h
      simp only [Option.some.injEq] at h
      subst h
      rw [hr]; rfl
    | false =>
      rw [hq] at h
      rw [Bool.false_and]
      exact find_and h hr
theorem hit_eq {w : Int} {op : Nat} (h : w % 128 = op) : rvHit w = fun y => opIs op y && ieq (rvWordE y.1 y.2.1 y.2.2 (rvRN y.1 y.2.1 y.2.2 w) (rvRA y.1 y.2.1 y.2.2 w) (rvRB y.1 y.2.1 y.2.2 w) (rvRC y.1 y.2.1 y.2.2 w) (rvRD y.1 y.2.1 y.2.2 w) (rvRI y.1 y.2.1 y.2.2 w)) w := by
  funext y
  have e : wrapR .u32 (andI .u32 w (.ofNat 127)) = .ofNat op := by rw [a127, wrapB_u32, h, natB]; omega
  unfold rvHit opIs
  rw [e]
theorem dec_of {w : Int} {op : Nat} {x : RvRow} (h : w % 128 = op) (hf : rvRows.find? (opIs op) = some x) (hw : rvWordE x.1 x.2.1 x.2.2 (rvRN x.1 x.2.1 x.2.2 w) (rvRA x.1 x.2.1 x.2.2 w) (rvRB x.1 x.2.1 x.2.2 w) (rvRC x.1 x.2.1 x.2.2 w) (rvRD x.1 x.2.1 x.2.2 w) (rvRI x.1 x.2.1 x.2.2 w) = w) :
    rvDN w = rvRN x.1 x.2.1 x.2.2 w ∧ rvDA w = rvRA x.1 x.2.1 x.2.2 w ∧ rvDB w = rvRB x.1 x.2.1 x.2.2 w ∧ rvDC w = rvRC x.1 x.2.1 x.2.2 w ∧ rvDD w = rvRD x.1 x.2.1 x.2.2 w ∧ rvDI w = rvRI x.1 x.2.1 x.2.2 w ∧ rvDE w = .ofNat 0 := by
  have e : rvO w = rvOut w (some x) := by
    unfold rvO
    rw [hit_eq h, find_and hf (by simp only [hw]; rw [ieqB]; simp)]
  unfold rvDN rvDA rvDB rvDC rvDD rvDI rvDE
  rw [e]
  exact ⟨rfl, rfl, rfl, rfl, rfl, rfl, rfl⟩
end
end Go.Proofs.YtpmlihmaodpmfaaGreatDoor
