/- What arm's fields of some makes put and get; what is refused. -/
import Derived.Test.YtpmlihmaodpmfaaGreatDoorArLaw
import Derived.Test.YtpmlihmaodpmfaaGreatDoorRelVal
import Derived.KernelRfl
namespace Go.Proofs.YtpmlihmaodpmfaaGreatDoor
open Go Go.Vai
noncomputable section
set_option maxRecDepth 100000
abbrev fN : ArNum := ⟨.ofNat 0, .ofNat 0, .ofNat 0, .ofNat 0, .ofNat 0, .ofNat 0⟩
abbrev fR0 : ArNum := ⟨.ofNat 0, .ofNat 5, .ofNat 1, .ofNat 1, .ofNat 0, .ofNat 31⟩
abbrev fR5 : ArNum := ⟨.ofNat 5, .ofNat 5, .ofNat 1, .ofNat 1, .ofNat 0, .ofNat 31⟩
abbrev f22 : ArNum := ⟨.ofNat 22, .ofNat 1, .ofNat 1, .ofNat 1, .ofNat 0, .ofNat 1⟩
abbrev fC4 : ArNum := ⟨.ofNat 0, .ofNat 4, .ofNat 1, .ofNat 1, .ofNat 0, .ofNat 13⟩
abbrev fI12 : ArNum := ⟨.ofNat 10, .ofNat 12, .ofNat 1, .ofNat 1, .ofNat 0, .ofNat 4095⟩
abbrev fAp : ArNum := ⟨.ofNat 0, .ofNat 0, .ofNat 2, .ofNat 1, .negSucc 1048575, .ofNat 1048575⟩
abbrev fB26 : ArNum := ⟨.ofNat 0, .ofNat 26, .ofNat 1, .ofNat 4, .negSucc 134217727, .ofNat 134217724⟩
abbrev fB19 : ArNum := ⟨.ofNat 5, .ofNat 19, .ofNat 1, .ofNat 4, .negSucc 1048575, .ofNat 1048572⟩
theorem a19 (x : Int) : andI .u32 x (.ofNat 524287) = x % 524288 := andB 19 rfl (by decide)
theorem a26 (x : Int) : andI .u32 x (.ofNat 67108863) = x % 67108864 := andB 26 rfl (by decide)
theorem put_N (n : Int) : putOf fN n = .ofNat 0 := by
  show arPutV _ _ _ _ _ _ _ = _
  rfl
theorem get_N (w : Int) : getOf fN w = .ofNat 0 := by
  show arGetV _ _ _ _ _ _ _ = _
  rfl
theorem put_R0 (n : Int) : putOf fR0 n = n % 32 := by
  show wrapR .u32 (shlI (wrapR .u32 (andI .u32 (wrapR .u32 (wrapR .i64 (Int.tdiv n (.ofNat 1)))) (.ofNat 31))) 0) = _
  simp only [a31, tdiv1, wrapB_u32, wrapB_i64, shlB]
  omega
theorem get_R0 (w : Int) : getOf fR0 w = w % 32 := by
  show wrapR .i64 (Int.mul (wrapR .i64 (wrapR .u32 (andI .u32 (shrI w 0) (.ofNat 31)))) (.ofNat 1)) = _
  simp only [a31, mulB, wrapB_u32, wrapB_i64, shrB]
  simp only [natB]
  omega
theorem put_R5 (n : Int) : putOf fR5 n = n % 32 * 32 := by
  show wrapR .u32 (shlI (wrapR .u32 (andI .u32 (wrapR .u32 (wrapR .i64 (Int.tdiv n (.ofNat 1)))) (.ofNat 31))) 5) = _
  simp only [a31, tdiv1, wrapB_u32, wrapB_i64, shlB]
  omega
theorem get_R5 (w : Int) : getOf fR5 w = w / 32 % 32 := by
  show wrapR .i64 (Int.mul (wrapR .i64 (wrapR .u32 (andI .u32 (shrI w 5) (.ofNat 31)))) (.ofNat 1)) = _
  simp only [a31, mulB, wrapB_u32, wrapB_i64, shrB]
  simp only [natB]
  omega
theorem put_22 (n : Int) : putOf f22 n = n % 2 * 4194304 := by
  show wrapR .u32 (shlI (wrapR .u32 (andI .u32 (wrapR .u32 (wrapR .i64 (Int.tdiv n (.ofNat 1)))) (.ofNat 1))) 22) = _
  simp only [a1, tdiv1, wrapB_u32, wrapB_i64, shlB]
  omega
theorem get_22 (w : Int) : getOf f22 w = w / 4194304 % 2 := by
  show wrapR .i64 (Int.mul (wrapR .i64 (wrapR .u32 (andI .u32 (shrI w 22) (.ofNat 1)))) (.ofNat 1)) = _
  simp only [a1, mulB, wrapB_u32, wrapB_i64, shrB]
  simp only [natB]
  omega
theorem put_C4 (n : Int) : putOf fC4 n = n % 16 := by
  show wrapR .u32 (shlI (wrapR .u32 (andI .u32 (wrapR .u32 (wrapR .i64 (Int.tdiv n (.ofNat 1)))) (.ofNat 15))) 0) = _
  simp only [a15, tdiv1, wrapB_u32, wrapB_i64, shlB]
  omega
theorem get_C4 (w : Int) : getOf fC4 w = w % 16 := by
  show wrapR .i64 (Int.mul (wrapR .i64 (wrapR .u32 (andI .u32 (shrI w 0) (.ofNat 15)))) (.ofNat 1)) = _
  simp only [a15, mulB, wrapB_u32, wrapB_i64, shrB]
  simp only [natB]
  omega
theorem put_I12 (n : Int) : putOf fI12 n = n % 4096 * 1024 := by
  show wrapR .u32 (shlI (wrapR .u32 (andI .u32 (wrapR .u32 (wrapR .i64 (Int.tdiv n (.ofNat 1)))) (.ofNat 4095))) 10) = _
  simp only [a4095, tdiv1, wrapB_u32, wrapB_i64, shlB]
  omega
theorem get_I12 (w : Int) : getOf fI12 w = w / 1024 % 4096 := by
  show wrapR .i64 (Int.mul (wrapR .i64 (wrapR .u32 (andI .u32 (shrI w 10) (.ofNat 4095)))) (.ofNat 1)) = _
  simp only [a4095, mulB, wrapB_u32, wrapB_i64, shrB]
  simp only [natB]
  omega
theorem p29 : ((2 ^ 29 : Nat) : Int) = 536870912 := rfl
theorem put_Ap (n : Int) : putOf fAp n = n % 4 * 536870912 + n / 4 % 524288 * 32 := by
  show wrapR .u32 (orI .u32 (wrapR .u32 (shlI (wrapR .u32 (andI .u32 (wrapR .u32 n) (.ofNat 3))) 29)) (wrapR .u32 (shlI (wrapR .u32 (andI .u32 (wrapR .u32 (shrI n 2)) (.ofNat 524287))) 5))) = _
  simp only [a3, a19, wrapB_u32, shlB, shrB]
  rw [show n % 4294967296 % 4 % 4294967296 * ((2 ^ 29 : Nat) : Int) % 4294967296 = n % 4 * 536870912 by omega, show n / ((2 ^ 2 : Nat) : Int) % 4294967296 % 524288 % 4294967296 * ((2 ^ 5 : Nat) : Int) % 4294967296 = n / 4 % 524288 * 32 by omega]
  rw [orHi (kd := .u32) 29 (by omega) (by rw [p29]; omega) (by omega) (by rw [p32]; omega) (by rw [p29]; omega) (by decide)]
  omega
theorem get_Ap (w : Int) (h : 0 ≤ w ∧ w < 4294967296) : getOf fAp w = (w / 32 % 524288 * 4 + w / 536870912 % 4 + 1048576) % 2097152 - 1048576 := by
  show wrapR .i64 (shrI (wrapR .i32 (wrapR .u32 (shlI (wrapR .u32 (orI .u32 (wrapR .u32 (shlI (wrapR .u32 (andI .u32 (shrI w 5) (.ofNat 524287))) 2)) (wrapR .u32 (andI .u32 (shrI w 29) (.ofNat 3))))) 11))) 11) = _
  simp only [a3, a19, wrapB_u32, wrapB_i64, wrapB_i32, shlB, shrB]
  rw [show w / ((2 ^ 5 : Nat) : Int) % 524288 % 4294967296 * ((2 ^ 2 : Nat) : Int) % 4294967296 = w / 32 % 524288 * 4 by omega, show w / ((2 ^ 29 : Nat) : Int) % 4 % 4294967296 = w / 536870912 % 4 by omega]
  rw [orHi (kd := .u32) 2 (by omega) (by show _ < (4 : Int); omega) (by omega) (by rw [p32]; omega) (by show _ % (4 : Int) = 0; omega) (by decide)]
  have hx : 0 ≤ w / 32 % 524288 * 4 + w / 536870912 % 4 ∧ w / 32 % 524288 * 4 + w / 536870912 % 4 < 2097152 := by omega
  generalize w / 32 % 524288 * 4 + w / 536870912 % 4 = x at hx ⊢
  omega
/-! What is refused -/
theorem small_eq (f : ArNum) (n : Int) : arSmallB f.t f.b f.k f.y f.l f.h n = (!(ilt n (wrapR .i64 f.l)) && !(ilt (wrapR .i64 f.h) n)) := by
  have e := arSmallT_val f.t f.b f.k f.y f.l f.h n
  unfold arSmallT at e
  cases h : ilt n (wrapR .i64 f.l) with
  | true => rw [h] at e; simp only [Bool.not_true, bc_false, Option.some.injEq, AV.bool.injEq] at e; rw [← e]; rfl
  | false => rw [h] at e; simp only [Bool.not_false, bc_true, Option.some.injEq, AV.bool.injEq] at e; rw [← e]; rfl
abbrev smallOf (f : ArNum) (n : Int) : Bool := arSmallB f.t f.b f.k f.y f.l f.h n
theorem small_N : smallOf fN (.ofNat 0) = true := by rw [smallOf, small_eq]; rfl
theorem small_R0 {n : Int} (h : 0 ≤ n ∧ n < 32) : smallOf fR0 n = true := by
  rw [smallOf, small_eq]
  rw [iltB, iltB]
  simp only [show wrapR .i64 fR0.l = 0 from rfl, show wrapR .i64 fR0.h = 31 from rfl, Bool.and_eq_true, Bool.not_eq_true', decide_eq_false_iff_not]
  omega
theorem small_R5 {n : Int} (h : 0 ≤ n ∧ n < 32) : smallOf fR5 n = true := by
  rw [smallOf, small_eq]
  rw [iltB, iltB]
  simp only [show wrapR .i64 fR5.l = 0 from rfl, show wrapR .i64 fR5.h = 31 from rfl, Bool.and_eq_true, Bool.not_eq_true', decide_eq_false_iff_not]
  omega
theorem small_22 {n : Int} (h : 0 ≤ n ∧ n < 2) : smallOf f22 n = true := by
  rw [smallOf, small_eq]
  rw [iltB, iltB]
  simp only [show wrapR .i64 f22.l = 0 from rfl, show wrapR .i64 f22.h = 1 from rfl, Bool.and_eq_true, Bool.not_eq_true', decide_eq_false_iff_not]
  omega
def faultOf (x : ArRow) (nm : List UInt8) (a b c d m : Int) : Int := arFault x.nm x.w x.a.t x.a.b x.a.k x.a.y x.a.l x.a.h x.b.t x.b.b x.b.k x.b.y x.b.l x.b.h x.c.t x.c.b x.c.k x.c.y x.c.l x.c.h x.d.t x.d.b x.d.k x.d.y x.d.l x.d.h x.m.t x.m.b x.m.k x.m.y x.m.l x.m.h x.ops nm a b c d m
/-- Where nothing is refused: a number of bounds. -/
theorem fault_num {x : ArRow} {nm : List UInt8} {a b c d m : Int} (hok : okImm x.m.k x.m.y = true) (h1 : smallOf x.a a = true) (h2 : smallOf x.b b = true) (h3 : smallOf x.c c = true) (h4 : smallOf x.d d = true) (k0 : ieq x.m.k (.ofNat 0) = false) (k3 : ieq x.m.k (.ofNat 3) = false) (hl : ilt m (wrapR .i64 x.m.l) = false) (hh : ilt (wrapR .i64 x.m.h) m = false) (y0 : ieq (wrapR .i64 x.m.y) (.ofNat 0) = false) (hm : ieq (Int.tmod m (wrapR .i64 x.m.y)) (.ofNat 0) = true) : faultOf x nm a b c d m = .ofNat 0 := by
  have e := arFaultyT_val x.nm x.w x.a.t x.a.b x.a.k x.a.y x.a.l x.a.h x.b.t x.b.b x.b.k x.b.y x.b.l x.b.h x.c.t x.c.b x.c.k x.c.y x.c.l x.c.h x.d.t x.d.b x.d.k x.d.y x.d.l x.d.h x.m.t x.m.b x.m.k x.m.y x.m.l x.m.h x.ops nm a b c d m hok
  unfold arFaultyT at e
  simp only [h1, h2, h3, h4, k0, k3, hl, hh, y0, hm, Bool.not_true, bc_false, Option.some.injEq, AV.int.injEq, true_and] at e
  exact e.symm
end
end Go.Proofs.YtpmlihmaodpmfaaGreatDoor
