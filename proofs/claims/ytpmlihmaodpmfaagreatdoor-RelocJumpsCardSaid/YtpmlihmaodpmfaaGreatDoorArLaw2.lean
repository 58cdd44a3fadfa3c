/- What arm's fields of some makes put and get; what is refused. -/
import Derived.Test.YtpmlihmaodpmfaaGreatDoorArLaw
import Derived.Test.YtpmlihmaodpmfaaGreatDoorRelVal
import Derived.KernelRfl
namespace Go.Proofs.YtpmlihmaodpmfaaGreatDoor
open Go Go.Vai
noncomputable section
set_option maxRecDepth 100000
abbrev fN : ArNum := ⟨.ofNat 0, .ofNat 0, .ofNat 0, .ofNat 0, .ofNat 0, .ofNat 0⟩
abbrev fR0 : ArNum := ⟨.ofNat 0, .ofNat 5, .ofNat 1, .ofNat 1, .ofNat 0, .ofNat 31⟩
abbrev fR5 : ArNum := ⟨.ofNat 5, .ofNat 5, .ofNat 1, .ofNat 1, .ofNat 0, .ofNat 31⟩
abbrev fC4 : ArNum := ⟨.ofNat 0, .ofNat 4, .ofNat 1, .ofNat 1, .ofNat 0, .ofNat 13⟩
abbrev fB26 : ArNum := ⟨.ofNat 0, .ofNat 26, .ofNat 1, .ofNat 4, .negSucc 134217727, .ofNat 134217724⟩
abbrev fB19 : ArNum := ⟨.ofNat 5, .ofNat 19, .ofNat 1, .ofNat 4, .negSucc 1048575, .ofNat 1048572⟩
theorem a19 (x : Int) : andI .u32 x (.ofNat 524287) = x % 524288 := andB 19 rfl (by decide)
theorem a26 (x : Int) : andI .u32 x (.ofNat 67108863) = x % 67108864 := andB 26 rfl (by decide)
theorem put_N (n : Int) : putOf fN n = .ofNat 0 := by
  show arPutV _ _ _ _ _ _ _ = _
  rfl
theorem get_N (w : Int) : getOf fN w = .ofNat 0 := by
  show arGetV _ _ _ _ _ _ _ = _
  rfl
theorem put_R0 (n : Int) : putOf fR0 n = n % 32 := by
  show wrapR .u32 (shlI (wrapR .u32 (andI .u32 (wrapR .u32 (wrapR .i64 (Int.tdiv n (.ofNat 1)))) (.ofNat 31))) 0) = _
  simp only [a31, tdiv1, wrapB_u32, wrapB_i64, shlB]
  omega
theorem get_R0 (w : Int) : getOf fR0 w = w % 32 := by
  show wrapR .i64 (Int.mul (wrapR .i64 (wrapR .u32 (andI .u32 (shrI w 0) (.ofNat 31)))) (.ofNat 1)) = _
  simp only [a31, mulB, wrapB_u32, wrapB_i64, shrB]
  simp only [natB]
  omega
theorem put_C4 (n : Int) : putOf fC4 n = n % 16 := by
  show wrapR .u32 (shlI (wrapR .u32 (andI .u32 (wrapR .u32 (wrapR .i64 (Int.tdiv n (.ofNat 1)))) (.ofNat 15))) 0) = _
  simp only [a15, tdiv1, wrapB_u32, wrapB_i64, shlB]
  omega
theorem get_C4 (w : Int) : getOf fC4 w = w % 16 := by
  show wrapR .i64 (Int.mul (wrapR .i64 (wrapR .u32 (andI .u32 (shrI w 0) (.ofNat 15)))) (.ofNat 1)) = _
  simp only [a15, mulB, wrapB_u32, wrapB_i64, shrB]
  simp only [natB]
  omega
theorem small_eq (f : ArNum) (n : Int) : arSmallB f.t f.b f.k f.y f.l f.h n = (!(ilt n (wrapR .i64 f.l)) && !(ilt (wrapR .i64 f.h) n)) := by
  have e := arSmallT_val f.t f.b f.k f.y f.l f.h n
  unfold arSmallT at e
  cases h : ilt n (wrapR .i64 f.l) with
  | true => rw [h] at e; simp only [Bool.not_true, bc_false, Option.some.injEq, AV.bool.injEq] at e; rw [← e]; rfl
  | false => rw [h] at e; simp only [Bool.not_false, bc_true, Option.some.injEq, AV.bool.injEq] at e; rw [← e]; rfl
abbrev smallOf (f : ArNum) (n : Int) : Bool := arSmallB f.t f.b f.k f.y f.l f.h n
theorem small_N : smallOf fN (.ofNat 0) = true := by rw [smallOf, small_eq]; rfl
theorem small_R0 {n : Int} (h : 0 ≤ n ∧ n < 32) : smallOf fR0 n = true := by
  rw [smallOf, small_eq]
  rw [iltB, iltB]
  simp only [show wrapR .i64 fR0.l = 0 from rfl, show wrapR .i64 fR0.h = 31 from rfl, Bool.and_eq_true, Bool.not_eq_true', decide_eq_false_iff_not]
  omega
def faultOf (x : ArRow) (nm : List UInt8) (a b c d m : Int) : Int := arFault x.nm x.w x.a.t x.a.b x.a.k x.a.y x.a.l x.a.h x.b.t x.b.b x.b.k x.b.y x.b.l x.b.h x.c.t x.c.b x.c.k x.c.y x.c.l x.c.h x.d.t x.d.b x.d.k x.d.y x.d.l x.d.h x.m.t x.m.b x.m.k x.m.y x.m.l x.m.h x.ops nm a b c d m
end
end Go.Proofs.YtpmlihmaodpmfaaGreatDoor
