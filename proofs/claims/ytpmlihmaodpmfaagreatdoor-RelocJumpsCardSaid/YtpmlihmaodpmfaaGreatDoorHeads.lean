/- riscv.Decode and arm.Decode where four bytes are known. -/
import Derived.Test.YtpmlihmaodpmfaaGreatDoorRvDec
import Derived.Test.YtpmlihmaodpmfaaGreatDoorArmDec
import Derived.Test.YtpmlihmaodpmfaaGreatDoorVaiH
import Derived.KernelRfl
namespace Go.Proofs.YtpmlihmaodpmfaaGreatDoor
open Go Go.Vai
noncomputable section
set_option maxRecDepth 100000
theorem hsame (k : IntKind) : sameKind k k = true := by simp [sameKind]
theorem sub_word {l a : Nat} (h : a ≤ l) (hl : l < 4611686018427387904) : wrapR .i64 (Int.sub (.ofNat l) (.ofNat a)) = .ofNat (l - a) := by
  have : Int.sub (.ofNat l) (.ofNat a) = .ofNat (l - a) := by
    show (Int.ofNat l) - (Int.ofNat a) = Int.ofNat (l - a)
    simp only [Int.ofNat_eq_natCast]
    omega
  rw [this]
  exact wrapR_nat (by show l - a < 9223372036854775808; omega)
theorem add_word {a k : Nat} (h : a + k < 4611686018427387904) : wrapR .i64 (Int.add (.ofNat a) (.ofNat k)) = .ofNat (a + k) := wrapR_nat (n := a + k) (by show a + k < 9223372036854775808; omega)
theorem rv_word {o l n a : Nat} {T : Tr AV} {b0 b1 b2 b3 : Int} (h : a + 4 ≤ l) (hl : l < 4611686018427387904) (h0 : T.get (o + a) = some (.int .u8 b0)) (h1 : T.get (o + (a + 1)) = some (.int .u8 b1)) (h2 : T.get (o + (a + 2)) = some (.int .u8 b2)) (h3 : T.get (o + (a + 3)) = some (.int .u8 b3)) :
    rvD0 o l n (.ofNat a) T = lf .normal 80 ([.ptr 12 0, .int .i64 (.ofNat 0), .int .i64 (.ofNat 0), .int .u32 (word4 b0 b1 b2 b3)].map some) ([rowI insZ].map some) := by
  have e0 : Tr.get T (Nat.add o (Nat.mul (Int.toNat (.ofNat a)) 1)) = some (.int .u8 b0) := by rw [← h0]; show T.get (o + a * 1) = _; rw [Nat.mul_one]
  have e1 : Tr.get T (Nat.add o (Nat.mul (Int.toNat (.ofNat (a + 1))) 1)) = some (.int .u8 b1) := by rw [← h1]; show T.get (o + (a + 1) * 1) = _; rw [Nat.mul_one]
  have e2 : Tr.get T (Nat.add o (Nat.mul (Int.toNat (.ofNat (a + 2))) 1)) = some (.int .u8 b2) := by rw [← h2]; show T.get (o + (a + 2) * 1) = _; rw [Nat.mul_one]
  have e3 : Tr.get T (Nat.add o (Nat.mul (Int.toNat (.ofNat (a + 3))) 1)) = some (.int .u8 b3) := by rw [← h3]; show T.get (o + (a + 3) * 1) = _; rw [Nat.mul_one]
  have f2 : ilt (.ofNat l) (.ofNat a) = false := by rw [ilt_iff, decide_eq_false_iff_not]; exact Int.not_lt.2 (Int.ofNat_le.2 (by omega))
  have f3 : ilt (wrapR .i64 (Int.sub (.ofNat l) (.ofNat a))) (.ofNat 4) = false := by
    rw [sub_word (by omega) hl, ilt_iff, decide_eq_false_iff_not]; exact Int.not_lt.2 (Int.ofNat_le.2 (by omega))
  have g : ∀ k, a + k < l → Nat.blt (Int.toNat (.ofNat (a + k))) l = true := fun k hk => by rw [Nat.blt_eq]; exact hk
  have z : ∀ k : Nat, ilt (.ofNat k) (.ofNat 0) = false := fun _ => rfl
  unfold rvD0
  simp only [z, f2, f3, add_word (k := 1) (show a + 1 < 4611686018427387904 by omega), add_word (k := 2) (show a + 2 < 4611686018427387904 by omega), add_word (k := 3) (show a + 3 < 4611686018427387904 by omega), e0, e1, e2, e3, g 0 (by omega), g 1 (by omega), g 2 (by omega), g 3 (by omega), show Nat.blt (Int.toNat (.ofNat a)) l = true from g 0 (by omega), isI, asI, hsame, bc_true, bc_false]
  rfl
section
variable {P : Program} {I : List MEnt → AHeap → World → Prop} {ro : Option Nat}
theorem rv_body (hE : EnvOk EV P I) (hI : Carried I) {o l c n a : Nat} {T : Tr AV} {b0 b1 b2 b3 : Int} (h : a + 4 ≤ l) (hl : l < 4611686018427387904) (h0 : T.get (o + a) = some (.int .u8 b0)) (h1 : T.get (o + (a + 1)) = some (.int .u8 b1)) (h2 : T.get (o + (a + 2)) = some (.int .u8 b2)) (h3 : T.get (o + (a + 3)) = some (.int .u8 b3)) :
    Tri EV P I ro fnD.body (newFr fnD [.sl 12 o l (some c), .int .i64 (.ofNat a)]) (mkH 12 [.cells n T 0 none 0 true false]) (EndD (rvOut (word4 b0 b1 b2 b3) (rvRows.find? (rvHit (word4 b0 b1 b2 b3))))) := by
  refine tri_of_triL _ ?_
  rw [flatD, List.append_assoc]
  exact TriL.leafXC hE hI (callKK_ok EV 3) (vs := [.ptr 12 0, .int .i64 (.ofNat 0), .int .i64 (.ofNat 0), .int .u32 (word4 b0 b1 b2 b3)]) (os := [rowI insZ]) (os2 := [rowI insZ]) ((d0_eq o l c n (.ofNat a) T).trans (rv_word h hl h0 h1 h2 h3)) (by decide) rfl rfl (rows1 insZ_plain) (.inl ⟨rfl, dec_rest hE hI _⟩)
end
theorem ar_word {o l n a : Nat} {T : Tr AV} {b0 b1 b2 b3 : Int} (h : a + 4 ≤ l) (hl : l < 4611686018427387904) (h0 : T.get (o + a) = some (.int .u8 b0)) (h1 : T.get (o + (a + 1)) = some (.int .u8 b1)) (h2 : T.get (o + (a + 2)) = some (.int .u8 b2)) (h3 : T.get (o + (a + 3)) = some (.int .u8 b3)) :
    arD0 o l n (.ofNat a) T = lf .normal 100 ([.ptr 12 0, .int .i64 (.ofNat 0), .int .i64 (.ofNat 0), .int .u32 (word4 b0 b1 b2 b3)].map some) ([rowIA arZ].map some) := by
  have e0 : Tr.get T (Nat.add o (Nat.mul (Int.toNat (.ofNat a)) 1)) = some (.int .u8 b0) := by rw [← h0]; show T.get (o + a * 1) = _; rw [Nat.mul_one]
  have e1 : Tr.get T (Nat.add o (Nat.mul (Int.toNat (.ofNat (a + 1))) 1)) = some (.int .u8 b1) := by rw [← h1]; show T.get (o + (a + 1) * 1) = _; rw [Nat.mul_one]
  have e2 : Tr.get T (Nat.add o (Nat.mul (Int.toNat (.ofNat (a + 2))) 1)) = some (.int .u8 b2) := by rw [← h2]; show T.get (o + (a + 2) * 1) = _; rw [Nat.mul_one]
  have e3 : Tr.get T (Nat.add o (Nat.mul (Int.toNat (.ofNat (a + 3))) 1)) = some (.int .u8 b3) := by rw [← h3]; show T.get (o + (a + 3) * 1) = _; rw [Nat.mul_one]
  have f2 : ilt (.ofNat l) (.ofNat a) = false := by rw [ilt_iff, decide_eq_false_iff_not]; exact Int.not_lt.2 (Int.ofNat_le.2 (by omega))
  have f3 : ilt (wrapR .i64 (Int.sub (.ofNat l) (.ofNat a))) (.ofNat 4) = false := by
    rw [sub_word (by omega) hl, ilt_iff, decide_eq_false_iff_not]; exact Int.not_lt.2 (Int.ofNat_le.2 (by omega))
  have g : ∀ k, a + k < l → Nat.blt (Int.toNat (.ofNat (a + k))) l = true := fun k hk => by rw [Nat.blt_eq]; exact hk
  have z : ∀ k : Nat, ilt (.ofNat k) (.ofNat 0) = false := fun _ => rfl
  unfold arD0
  simp only [z, f2, f3, add_word (k := 1) (show a + 1 < 4611686018427387904 by omega), add_word (k := 2) (show a + 2 < 4611686018427387904 by omega), add_word (k := 3) (show a + 3 < 4611686018427387904 by omega), e0, e1, e2, e3, g 0 (by omega), g 1 (by omega), g 2 (by omega), g 3 (by omega), show Nat.blt (Int.toNat (.ofNat a)) l = true from g 0 (by omega), isI, asI, hsame, bc_true, bc_false]
  rfl
section
variable {P : Program} {I : List MEnt → AHeap → World → Prop} {ro : Option Nat}
theorem ar_body (hE : EnvOk EA P I) (hI : Carried I) {o l c n a : Nat} {T : Tr AV} {b0 b1 b2 b3 : Int} (h : a + 4 ≤ l) (hl : l < 4611686018427387904) (h0 : T.get (o + a) = some (.int .u8 b0)) (h1 : T.get (o + (a + 1)) = some (.int .u8 b1)) (h2 : T.get (o + (a + 2)) = some (.int .u8 b2)) (h3 : T.get (o + (a + 3)) = some (.int .u8 b3)) :
    Tri EA P I ro fnA.body (newFr fnA [.sl 12 o l (some c), .int .i64 (.ofNat a)]) (mkH 12 [.cells n T 0 none 0 true false]) (EndA (arOut (word4 b0 b1 b2 b3) (arRows.find? (arHit (word4 b0 b1 b2 b3))))) := by
  refine tri_of_triL _ ?_
  rw [flatA, List.append_assoc]
  exact TriL.leafXC hE hI clA_ok (vs := [.ptr 12 0, .int .i64 (.ofNat 0), .int .i64 (.ofNat 0), .int .u32 (word4 b0 b1 b2 b3)]) (os := [rowIA arZ]) (os2 := [rowIA arZ]) ((a0_eq o l c n (.ofNat a) T).trans (ar_word h hl h0 h1 h2 h3)) (by decide) rfl rfl (arRows1 arInsZ_plain) (.inl ⟨rfl, arm_rest hE hI _⟩)
end
def rvO (w : Int) : AV := rvOut w (rvRows.find? (rvHit w))
def rvDN (w : Int) : List UInt8 := strV (at_ [0, 0] (rvO w))
def rvDA (w : Int) : Int := intV (at_ [0, 1] (rvO w))
def rvDB (w : Int) : Int := intV (at_ [0, 2] (rvO w))
def rvDC (w : Int) : Int := intV (at_ [0, 3] (rvO w))
def rvDD (w : Int) : Int := intV (at_ [0, 4] (rvO w))
def rvDI (w : Int) : Int := intV (at_ [0, 5] (rvO w))
def rvDS (w : Int) : Int := intV (at_ [1] (rvO w))
def rvDE (w : Int) : Int := intV (at_ [2] (rvO w))
def rvU (w : Int) : AV := .tup [.agg [.str (rvDN w), .int .i64 (rvDA w), .int .i64 (rvDB w), .int .i64 (rvDC w), .int .i64 (rvDD w), .int .i64 (rvDI w)], .int .i64 (rvDS w), .int .i64 (rvDE w)]
theorem rvU_eq (w : Int) : rvOut w (rvRows.find? (rvHit w)) = rvU w := by
  unfold rvU rvDN rvDA rvDB rvDC rvDD rvDI rvDS rvDE rvO
  cases rvRows.find? (rvHit w) <;> rfl
theorem rv_dec_ok : SmOk Tryz.prog gl (dec4 59 rvU) := dec4_ok (E := EV) ev_ok fnD_eq (fun _ _ _ => rfl) fun w hw o l c n a T b0 b1 b2 b3 h hl h0 h1 h2 h3 => by
  have t := rv_body (ro := none) (ev_ok w hw) (kept_carried hw) (c := c) (n := n) h hl h0 h1 h2 h3
  rw [rvU_eq] at t
  exact t
def arO (w : Int) : AV := arOut w (arRows.find? (arHit w))
def arDN (w : Int) : List UInt8 := strV (at_ [0, 0] (arO w))
def arDA (w : Int) : Int := intV (at_ [0, 1] (arO w))
def arDB (w : Int) : Int := intV (at_ [0, 2] (arO w))
def arDC (w : Int) : Int := intV (at_ [0, 3] (arO w))
def arDD (w : Int) : Int := intV (at_ [0, 4] (arO w))
def arDI (w : Int) : Int := intV (at_ [0, 5] (arO w))
def arDS (w : Int) : Int := intV (at_ [1] (arO w))
def arDE (w : Int) : Int := intV (at_ [2] (arO w))
def arU (w : Int) : AV := .tup [.agg [.str (arDN w), .int .i64 (arDA w), .int .i64 (arDB w), .int .i64 (arDC w), .int .i64 (arDD w), .int .i64 (arDI w)], .int .i64 (arDS w), .int .i64 (arDE w)]
theorem arU_eq (w : Int) : arOut w (arRows.find? (arHit w)) = arU w := by
  unfold arU arDN arDA arDB arDC arDD arDI arDS arDE arO
  cases arRows.find? (arHit w) <;> rfl
theorem ar_dec_ok : SmOk Tryz.prog gl (dec4 30 arU) := dec4_ok (E := EA) ea_ok fnA_eq (fun _ _ _ => rfl) fun w hw o l c n a T b0 b1 b2 b3 h hl h0 h1 h2 h3 => by
  have t := ar_body (ro := none) (ea_ok w hw) (kept_carried hw) (c := c) (n := n) h hl h0 h1 h2 h3
  rw [arU_eq] at t
  exact t
end
end Go.Proofs.YtpmlihmaodpmfaaGreatDoor
