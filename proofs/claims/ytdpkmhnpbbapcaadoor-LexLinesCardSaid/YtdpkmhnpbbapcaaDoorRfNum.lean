/- The document's number: a number from a place on: its worth, its end, or a fault. -/
import Derived.Test.YtdpkmhnpbbapcaaDoorLxNum
import Derived.Test.YtdpkmhnpbbapcaaDoorVaiH
import Derived.KernelRfl
namespace Go.Proofs.YtdpkmhnpbbapcaaDoor
open Go Go.Vai
noncomputable section
set_option maxRecDepth 100000
theorem Z81 : ((List.range 256).all fun n => (Yo (.ofNat n) == K6 (.ofNat n)) && ((Yh (.ofNat n) == Zeo (.ofNat n)) && (((Yh (.ofNat n) || Yo (.ofNat n)) == Zfe (.ofNat n)) && ((Yc (Zaz (.ofNat n)) (.ofNat 0) == !(Zcq (.ofNat n))) && ((!(Zcq (.ofNat n)) || Xz (Zaz (.ofNat n)) (.ofNat (dv n))) && (!(K6 (.ofNat n)) || Zcq (.ofNat n))))))) = true := by kernel_rfl
theorem Zb9 (c : UInt8) : Yo (.ofNat c.toNat) = Z1 c ∧ Yh (.ofNat c.toNat) = Zeo (.ofNat c.toNat) ∧ (Yh (.ofNat c.toNat) || Yo (.ofNat c.toNat)) = Qq c ∧ Yc (Zaz (.ofNat c.toNat)) (.ofNat 0) = !(Z9 c) ∧ (Z9 c = true → Zaz (.ofNat c.toNat) = .ofNat (dv c.toNat)) ∧ (Z1 c = true → Z9 c = true) := by
  have h := List.all_eq_true.1 Z81 c.toNat (List.mem_range.2 c.toNat_lt)
  simp only [Bool.and_eq_true, beq_iff_eq] at h
  obtain ⟨h1, h2, h3, h4, h5, h6⟩ := h
  refine ⟨h1, h2, h3, h4, fun hx => ?_, fun hx => ?_⟩
  · rw [show Zcq (.ofNat c.toNat) = true from hx, Bool.not_true, Bool.false_or, Vt, decide_eq_true_eq] at h5
    exact h5
  · rw [show K6 (.ofNat c.toNat) = true from hx, Bool.not_true, Bool.false_or] at h6
    exact h6
theorem u64n (x : Int) : ∃ n : Nat, Zf .u64 x = .ofNat n := by
  rw [Zhh]
  refine ⟨(x % 18446744073709551616).toNat, ?_⟩
  have := Int.emod_nonneg x (show (18446744073709551616 : Int) ≠ 0 by decide)
  exact (Int.toNat_of_nonneg this).symm
def rnS : List Nat := [0, 7, 8, 9, 10, 11, 12]
def rnW (s : List UInt8) (j b most f v : Nat) (o : Bool) : List AV := [.str s, .int .i64 (.ofNat j), .int .u64 (.ofNat b), .int .i64 (.ofNat most), .int .i64 (.ofNat f), .int .u64 (.ofNat v), .bool o]
def Qz : AFunc := (Yb.fn 21).getD default
theorem Z8s : Yb.fn 21 = some Qz := by kernel_rfl
theorem Zwy : flat Qz.body = (flat Qz.body).take 9 ++ .block 0 (.loop (Zc [9, 0] Qz.body)) :: (flat Qz.body).drop 10 := by kernel_rfl
theorem Zqj : Qz.results = [4, 5, 6].map .tmp := by kernel_rfl
theorem Yb3 (s : List UInt8) (a : Nat) : Zu Yb (Yw Yb 3) ((flat Qz.body).take 9) (Yj 8 [0, 7, 8, 9, 10, 11, 12] [0, 1, 2, 3, 4, 5, 6, 7]) (Z8 Qz [.str s, .int .i64 (.ofNat a)]) (Zs 8 []) = bc (Nat.blt a (Zb s)) (bc (Nat.beq (UInt8.toNat (Za s a)) 48) (bc (Yc (up a) (.ofNat (Zb s))) (bc (Yc (up a) (.ofNat 0)) (none) (bc (Nat.blt (Int.toNat (up a)) (Zb s)) (bc (Nat.beq (UInt8.toNat (Za s (Int.toNat (up a)))) 120) (lf .normal 125 ([.str s, .int .i64 (Zf .i64 (.ofNat (Nat.add a 2))), .int .u64 (.ofNat 16), .int .i64 (.ofNat 16), .int .i64 (Zf .i64 (.ofNat (Nat.add a 2))), .int .u64 (.ofNat 0), .bool false].map some) ([].map some)) (lf .normal 125 ([.str s, .int .i64 (.ofNat a), .int .u64 (.ofNat 10), .int .i64 (.ofNat 20), .int .i64 (.ofNat a), .int .u64 (.ofNat 0), .bool false].map some) ([].map some))) (none))) (lf .normal 125 ([.str s, .int .i64 (.ofNat a), .int .u64 (.ofNat 10), .int .i64 (.ofNat 20), .int .i64 (.ofNat a), .int .u64 (.ofNat 0), .bool false].map some) ([].map some))) (lf .normal 125 ([.str s, .int .i64 (.ofNat a), .int .u64 (.ofNat 10), .int .i64 (.ofNat 20), .int .i64 (.ofNat a), .int .u64 (.ofNat 0), .bool false].map some) ([].map some))) (none) := by kernel_rfl
theorem Zn3 (s : List UInt8) (j b most f v : Nat) (o : Bool) : Zu Yb (Yw Yb 3) (flat (Zc [9, 0] Qz.body)) (Yj 8 [0, 7, 8, 9, 10, 11, 12] [0, 1, 2, 3, 4, 5, 6, 7]) (Zd 125 [0, 7, 8, 9, 10, 11, 12] [.str s, .int .i64 (.ofNat j), .int .u64 (.ofNat b), .int .i64 (.ofNat most), .int .i64 (.ofNat f), .int .u64 (.ofNat v), .bool o]) (Zs 8 []) = bc (Nat.blt j (Zb s)) (bc (Nat.blt j (Zb s)) (bc (Yo (.ofNat (UInt8.toNat (Za s j)))) (bc (Nat.blt j (Zb s)) (bc o (lf .normal 125 ([.str s, .int .i64 (up j), .int .u64 (.ofNat b), .int .i64 (.ofNat most), .int .i64 (.ofNat f), .int .u64 (Zf .u64 (Int.add (Zf .u64 (.ofNat (Nat.mul v b))) (Zf .u64 (Zaz (.ofNat (UInt8.toNat (Za s j))))))), .bool true].map some) ([].map some)) (bc (Nat.beq b 0) (none) (lf .normal 125 ([.str s, .int .i64 (up j), .int .u64 (.ofNat b), .int .i64 (.ofNat most), .int .i64 (.ofNat f), .int .u64 (Zf .u64 (Int.add (Zf .u64 (.ofNat (Nat.mul v b))) (Zf .u64 (Zaz (.ofNat (UInt8.toNat (Za s j))))))), .bool (Yc (Zf .u64 (Int.tdiv (Zf .u64 (Int.sub (.ofNat 18446744073709551615) (Zf .u64 (Zaz (.ofNat (UInt8.toNat (Za s j))))))) (.ofNat b))) (.ofNat v))].map some) ([].map some)))) (none)) (bc (Nat.beq b 16) (bc (Nat.blt j (Zb s)) (bc (!(Yc (Zaz (.ofNat (UInt8.toNat (Za s j)))) (.ofNat 0))) (bc (Nat.blt j (Zb s)) (bc o (lf .normal 125 ([.str s, .int .i64 (up j), .int .u64 (.ofNat b), .int .i64 (.ofNat most), .int .i64 (.ofNat f), .int .u64 (Zf .u64 (Int.add (Zf .u64 (.ofNat (Nat.mul v b))) (Zf .u64 (Zaz (.ofNat (UInt8.toNat (Za s j))))))), .bool true].map some) ([].map some)) (bc (Nat.beq b 0) (none) (lf .normal 125 ([.str s, .int .i64 (up j), .int .u64 (.ofNat b), .int .i64 (.ofNat most), .int .i64 (.ofNat f), .int .u64 (Zf .u64 (Int.add (Zf .u64 (.ofNat (Nat.mul v b))) (Zf .u64 (Zaz (.ofNat (UInt8.toNat (Za s j))))))), .bool (Yc (Zf .u64 (Int.tdiv (Zf .u64 (Int.sub (.ofNat 18446744073709551615) (Zf .u64 (Zaz (.ofNat (UInt8.toNat (Za s j))))))) (.ofNat b))) (.ofNat v))].map some) ([].map some)))) (none)) (lf (.exit 0) 125 ([.str s, .int .i64 (.ofNat j), .int .u64 (.ofNat b), .int .i64 (.ofNat most), .int .i64 (.ofNat f), .int .u64 (.ofNat v), .bool o].map some) ([].map some))) (none)) (lf (.exit 0) 125 ([.str s, .int .i64 (.ofNat j), .int .u64 (.ofNat b), .int .i64 (.ofNat most), .int .i64 (.ofNat f), .int .u64 (.ofNat v), .bool o].map some) ([].map some)))) (none)) (lf (.exit 0) 125 ([.str s, .int .i64 (.ofNat j), .int .u64 (.ofNat b), .int .i64 (.ofNat most), .int .i64 (.ofNat f), .int .u64 (.ofNat v), .bool o].map some) ([].map some)) := by kernel_rfl
theorem Zyz (s : List UInt8) (j b most f v : Nat) (o : Bool) : Zu Yb (Yw Yb 3) ((flat Qz.body).drop 10) (Yj 8 [4, 5, 6] [0, 1, 2, 3, 4, 5, 6, 7]) (Zd 125 [0, 7, 8, 9, 10, 11, 12] [.str s, .int .i64 (.ofNat j), .int .u64 (.ofNat b), .int .i64 (.ofNat most), .int .i64 (.ofNat f), .int .u64 (.ofNat v), .bool o]) (Zs 8 []) = bc (Nat.beq j f) (lf .ret 125 ([.int .u64 (.ofNat 0), .int .i64 (.ofNat 0), .int .i64 (.ofNat 12)].map some) ([].map some)) (bc (Nat.blt j (Zb s)) (bc (Nat.blt j (Zb s)) (bc (Yh (.ofNat (UInt8.toNat (Za s j)))) (lf .ret 125 ([.int .u64 (.ofNat 0), .int .i64 (.ofNat 0), .int .i64 (.ofNat 12)].map some) ([].map some)) (bc (Nat.blt j (Zb s)) (bc (Yo (.ofNat (UInt8.toNat (Za s j)))) (lf .ret 125 ([.int .u64 (.ofNat 0), .int .i64 (.ofNat 0), .int .i64 (.ofNat 12)].map some) ([].map some)) (bc (Nat.beq b 10) (bc (Yc (.ofNat 1) (Zf .i64 (Int.sub (.ofNat j) (.ofNat f)))) (bc (Nat.blt f (Zb s)) (bc (Nat.beq (UInt8.toNat (Za s f)) 48) (lf .ret 125 ([.int .u64 (.ofNat 0), .int .i64 (.ofNat 0), .int .i64 (.ofNat 12)].map some) ([].map some)) (bc o (lf .ret 125 ([.int .u64 (.ofNat 0), .int .i64 (.ofNat 0), .int .i64 (.ofNat 3)].map some) ([].map some)) (bc (Yc (.ofNat most) (Zf .i64 (Int.sub (.ofNat j) (.ofNat f)))) (lf .ret 125 ([.int .u64 (.ofNat 0), .int .i64 (.ofNat 0), .int .i64 (.ofNat 3)].map some) ([].map some)) (lf .ret 125 ([.int .u64 (.ofNat v), .int .i64 (.ofNat j), .int .i64 (.ofNat 0)].map some) ([].map some))))) (none)) (bc o (lf .ret 125 ([.int .u64 (.ofNat 0), .int .i64 (.ofNat 0), .int .i64 (.ofNat 3)].map some) ([].map some)) (bc (Yc (.ofNat most) (Zf .i64 (Int.sub (.ofNat j) (.ofNat f)))) (lf .ret 125 ([.int .u64 (.ofNat 0), .int .i64 (.ofNat 0), .int .i64 (.ofNat 3)].map some) ([].map some)) (lf .ret 125 ([.int .u64 (.ofNat v), .int .i64 (.ofNat j), .int .i64 (.ofNat 0)].map some) ([].map some))))) (bc o (lf .ret 125 ([.int .u64 (.ofNat 0), .int .i64 (.ofNat 0), .int .i64 (.ofNat 3)].map some) ([].map some)) (bc (Yc (.ofNat most) (Zf .i64 (Int.sub (.ofNat j) (.ofNat f)))) (lf .ret 125 ([.int .u64 (.ofNat 0), .int .i64 (.ofNat 0), .int .i64 (.ofNat 3)].map some) ([].map some)) (lf .ret 125 ([.int .u64 (.ofNat v), .int .i64 (.ofNat j), .int .i64 (.ofNat 0)].map some) ([].map some)))))) (none))) (none)) (bc (Nat.beq b 10) (bc (Yc (.ofNat 1) (Zf .i64 (Int.sub (.ofNat j) (.ofNat f)))) (bc (Nat.blt f (Zb s)) (bc (Nat.beq (UInt8.toNat (Za s f)) 48) (lf .ret 125 ([.int .u64 (.ofNat 0), .int .i64 (.ofNat 0), .int .i64 (.ofNat 12)].map some) ([].map some)) (bc o (lf .ret 125 ([.int .u64 (.ofNat 0), .int .i64 (.ofNat 0), .int .i64 (.ofNat 3)].map some) ([].map some)) (bc (Yc (.ofNat most) (Zf .i64 (Int.sub (.ofNat j) (.ofNat f)))) (lf .ret 125 ([.int .u64 (.ofNat 0), .int .i64 (.ofNat 0), .int .i64 (.ofNat 3)].map some) ([].map some)) (lf .ret 125 ([.int .u64 (.ofNat v), .int .i64 (.ofNat j), .int .i64 (.ofNat 0)].map some) ([].map some))))) (none)) (bc o (lf .ret 125 ([.int .u64 (.ofNat 0), .int .i64 (.ofNat 0), .int .i64 (.ofNat 3)].map some) ([].map some)) (bc (Yc (.ofNat most) (Zf .i64 (Int.sub (.ofNat j) (.ofNat f)))) (lf .ret 125 ([.int .u64 (.ofNat 0), .int .i64 (.ofNat 0), .int .i64 (.ofNat 3)].map some) ([].map some)) (lf .ret 125 ([.int .u64 (.ofNat v), .int .i64 (.ofNat j), .int .i64 (.ofNat 0)].map some) ([].map some))))) (bc o (lf .ret 125 ([.int .u64 (.ofNat 0), .int .i64 (.ofNat 0), .int .i64 (.ofNat 3)].map some) ([].map some)) (bc (Yc (.ofNat most) (Zf .i64 (Int.sub (.ofNat j) (.ofNat f)))) (lf .ret 125 ([.int .u64 (.ofNat 0), .int .i64 (.ofNat 0), .int .i64 (.ofNat 3)].map some) ([].map some)) (lf .ret 125 ([.int .u64 (.ofNat v), .int .i64 (.ofNat j), .int .i64 (.ofNat 0)].map some) ([].map some)))))) := by kernel_rfl
abbrev rnT (s : List UInt8) (j b most f v : Nat) (o : Bool) : Option Leaf := Zu Yb (Yw Yb 3) (flat (Zc [9, 0] Qz.body)) (Yj 8 rnS [0, 1, 2, 3, 4, 5, 6, 7]) (Zd 125 rnS (rnW s j b most f v o)) (Zs 8 [])
section
variable {s : List UInt8} {j most f v : Nat} {o : Bool} (hs : s.length < 4294967296)
theorem Yag {b d v : Nat} (hb : 0 < b) (hd : d < 16) : Yc (Zf .u64 (Int.tdiv (Zf .u64 (Int.sub (.ofNat 18446744073709551615) (Zf .u64 (.ofNat d)))) (.ofNat b))) (.ofNat v) = decide (18446744073709551616 ≤ v * b + d) := by
  rw [Zc2 (show d < 18446744073709551616 by omega)]
  rw [show Int.sub (.ofNat 18446744073709551615) (.ofNat d) = .ofNat (18446744073709551615 - d) from by show (18446744073709551615 : Int) - (d : Int) = ((18446744073709551615 - d : Nat) : Int); omega, Zc2 (show 18446744073709551615 - d < 18446744073709551616 by omega)]
  rw [show Int.tdiv (.ofNat (18446744073709551615 - d)) (.ofNat b) = .ofNat ((18446744073709551615 - d) / b) from rfl]
  have hq : (18446744073709551615 - d) / b ≤ 18446744073709551615 - d := Nat.div_le_self _ _
  rw [Zc2 (by omega)]
  show Nat.blt _ _ = _
  by_cases h : 18446744073709551616 ≤ v * b + d
  · rw [decide_eq_true h]
    refine Zm ?_
    rw [Nat.div_lt_iff_lt_mul hb]
    omega
  · rw [decide_eq_false h]
    refine Yg fun h2 => h ?_
    rw [Nat.div_lt_iff_lt_mul hb] at h2
    omega
theorem Yap {b d v : Nat} : ∃ v' : Nat, Zf .u64 (Int.add (Zf .u64 (.ofNat (Nat.mul v b))) (Zf .u64 (.ofNat d))) = .ofNat v' ∧ (v * b + d < 18446744073709551616 → v' = v * b + d) := by
  by_cases h : v * b + d < 18446744073709551616
  · refine ⟨v * b + d, ?_, fun _ => rfl⟩
    rw [Zc2 (show Nat.mul v b < 18446744073709551616 by show v * b < _; omega), Zc2 (show d < 18446744073709551616 by omega)]
    exact Zc2 (n := v * b + d) h
  · obtain ⟨n, hn⟩ := u64n (Int.add (Zf .u64 (.ofNat (Nat.mul v b))) (Zf .u64 (.ofNat d)))
    exact ⟨n, hn, fun h2 => absurd h2 h⟩
include hs in
theorem Z7g (h : j < s.length) (hp : Z1 (Za s j) = true) : ∃ v' : Nat, ∃ o' : Bool, rnT s j 10 most f v o = lf .normal 125 ((rnW s (j + 1) 10 most f v' o').map some) ([].map some) ∧ (v * 10 + dv (Za s j).toNat < 18446744073709551616 → v' = v * 10 + dv (Za s j).toNat) ∧ o' = (o || decide (18446744073709551616 ≤ v * 10 + dv (Za s j).toNat)) := by
  have h0 := Zm (show j < Zb s from h)
  obtain ⟨r1, r2, r3, r4, r5, r6⟩ := Zb9 (Za s j)
  have hx : Z9 (Za s j) = true := r6 hp
  have hd : dv (Za s j).toNat < 16 := Zsf _ hx
  obtain ⟨v', e1, e2⟩ := Yap (b := 10) (d := dv (Za s j).toNat) (v := v)
  have e3 := Yag (b := 10) (d := dv (Za s j).toNat) (v := v) (by decide) hd
  refine ⟨v', _, ?_, e2, rfl⟩
  refine (Zn3 s j 10 most f v o).trans ?_
  rw [r5 hx] 
  rw [e1, e3, h0, r1, Yv (by omega)]
  have k0 : Yc (.ofNat (dv (Za s j).toNat)) (.ofNat 0) = false := rfl
  rw [hp]
  cases o <;> rfl
theorem Z1u (h : j < s.length → Z1 (Za s j) = false) : rnT s j 10 most f v o = lf (.exit 0) 125 ((rnW s j 10 most f v o).map some) ([].map some) := by
  refine (Zn3 s j 10 most f v o).trans ?_
  by_cases h1 : j < s.length
  · obtain ⟨r1, r2, r3, r4, r5, r6⟩ := Zb9 (Za s j)
    have hp := h h1
    rw [Zm (show j < Zb s from h1), r1, r4]
    rw [hp]; rfl
  · rw [Yg (show ¬ j < Zb s from h1)]; rfl
include hs in
theorem Z6i (h : j < s.length) (hp : Z9 (Za s j) = true) : ∃ v' : Nat, ∃ o' : Bool, rnT s j 16 most f v o = lf .normal 125 ((rnW s (j + 1) 16 most f v' o').map some) ([].map some) ∧ (v * 16 + dv (Za s j).toNat < 18446744073709551616 → v' = v * 16 + dv (Za s j).toNat) ∧ o' = (o || decide (18446744073709551616 ≤ v * 16 + dv (Za s j).toNat)) := by
  have h0 := Zm (show j < Zb s from h)
  obtain ⟨r1, r2, r3, r4, r5, r6⟩ := Zb9 (Za s j)
  have hx : Z9 (Za s j) = true := hp
  have hd : dv (Za s j).toNat < 16 := Zsf _ hx
  obtain ⟨v', e1, e2⟩ := Yap (b := 16) (d := dv (Za s j).toNat) (v := v)
  have e3 := Yag (b := 16) (d := dv (Za s j).toNat) (v := v) (by decide) hd
  refine ⟨v', _, ?_, e2, rfl⟩
  refine (Zn3 s j 16 most f v o).trans ?_
  rw [r5 hx] 
  rw [e1, e3, h0, r1, Yv (by omega)]
  have k0 : Yc (.ofNat (dv (Za s j).toNat)) (.ofNat 0) = false := rfl
  cases Z1 (Za s j) <;> cases o <;> rfl
theorem Z0x (h : j < s.length → Z9 (Za s j) = false) : rnT s j 16 most f v o = lf (.exit 0) 125 ((rnW s j 16 most f v o).map some) ([].map some) := by
  refine (Zn3 s j 16 most f v o).trans ?_
  by_cases h1 : j < s.length
  · obtain ⟨r1, r2, r3, r4, r5, r6⟩ := Zb9 (Za s j)
    have hp := h h1
    rw [Zm (show j < Zb s from h1), r1, r4]
    have hd : Z1 (Za s j) = false := by
      cases hd : Z1 (Za s j) with
      | false => rfl
      | true => rw [r6 hd] at hp; cases hp
    rw [hp, hd]; rfl
  · rw [Yg (show ¬ j < Zb s from h1)]; rfl
end
section
variable {P : Program} {I : List MEnt → AHeap → World → Prop} {ro : Option Nat}
def Zio (s : List UInt8) (f : Nat) (x : Nat × Nat × Bool) : Prop := f ≤ x.1 ∧ x.1 ≤ f + Zi Z1 (s.drop f) ∧ (x.2.2 = false → x.2.1 = Ym 10 ((s.drop f).take (x.1 - f)) ∧ x.2.1 < 18446744073709551616) ∧ (x.2.2 = true → 18446744073709551616 ≤ Ym 10 ((s.drop f).take (x.1 - f)))
theorem Zw2 (hE : EnvOk Yb P I) (hI : Carried I) {s : List UInt8} {f most : Nat} (hs : s.length < 4294967296) (hf : f ≤ s.length) : Yk Yb P I ro (.block 0 (.loop (Zc [9, 0] Qz.body))) (Zd 125 rnS (rnW s f 10 most f 0 false)) (Zs 8 []) fun e fr H => e = .normal ∧ ∃ v o keep, Zio s f (f + Zi Z1 (s.drop f), v, o) ∧ Ren 8 keep fr H (Zd 125 rnS (rnW s (f + Zi Z1 (s.drop f)) 10 most f v o)) (Zs 8 []) := by
  refine Yk.mono (Yk.block (Q := fun e fr H => e = .normal ∧ ∃ v o keep, Zio s f (f + Zi Z1 (s.drop f), v, o) ∧ Ren 8 keep fr H (Zd 125 rnS (rnW s (f + Zi Z1 (s.drop f)) 10 most f v o)) (Zs 8 [])) (Yk.loop (X := Nat × Nat × Bool) (fr := fun x => Zd 125 rnS (rnW s x.1 10 most f x.2.1 x.2.2)) (H := fun _ => Zs 8 []) (Inv := Zio s f) (fun x => s.length - x.1) hI ?_ (f, 0, false) ⟨Nat.le_refl _, Nat.le_add_right _ _, fun _ => ⟨by rw [Nat.sub_self]; rfl, by simp only; decide⟩, fun h => by cases h⟩)) fun e fr H h => h
  rintro ⟨j, v, o⟩ ⟨i1, i2, i3, i4⟩
  simp only at i1 i2 i3 i4
  have hrl := X4 Z1 (s.drop f)
  rw [List.length_drop] at hrl
  refine Z0 _ ?_
  by_cases h : j < f + Zi Z1 (s.drop f)
  · have hp : Z1 (Za s j) = true := by
      have := Zav (p := Z1) (s := s.drop f) (k := j - f) (by omega)
      rwa [Y7, show f + (j - f) = j by omega] at this
    obtain ⟨v', o', e1, e2, e3⟩ := Z7g (most := most) (f := f) (v := v) (o := o) hs (show j < s.length by omega) hp
    have ev : Ym 10 ((s.drop f).take (j + 1 - f)) = Ym 10 ((s.drop f).take (j - f)) * 10 + dv (Za s j).toNat := by
      rw [show j + 1 - f = (j - f) + 1 by omega, Kg (by rw [List.length_drop]; omega), Y7, show f + (j - f) = j by omega]
    refine Zg.leafE hE e1 (by decide) rfl rfl Y3 fun fr' H' r => .inl ⟨rfl, (j + 1, v', o'), _, ⟨by simp only; omega, by simp only; omega, fun ho => ?_, fun ho => ?_⟩, by simp only; omega, r⟩
    · simp only at ho ⊢
      rw [e3] at ho
      rw [Bool.or_eq_false_iff] at ho
      obtain ⟨a1, a2⟩ := i3 ho.1
      have a3 := of_decide_eq_false ho.2
      have a4 := e2 (by omega)
      rw [ev, ← a1]
      exact ⟨a4, by omega⟩
    · simp only at ho ⊢
      rw [ev]
      cases o with
      | true =>
        have := i4 rfl
        omega
      | false =>
        rw [e3, Bool.false_or] at ho
        have := of_decide_eq_true ho
        rw [← (i3 rfl).1]
        exact this
  · obtain rfl : j = f + Zi Z1 (s.drop f) := by omega
    refine Zg.leafE hE (Z1u (most := most) (f := f) (v := v) (o := o) fun h2 => ?_) (by decide) rfl rfl Y3 fun fr' H' r => .inr ⟨(by intro h; cases h), rfl, v, o, _, ⟨i1, i2, i3, i4⟩, r⟩
    have := J1 (p := Z1) (s := s.drop f) (by rw [List.length_drop]; omega)
    rwa [Y7] at this
def Zih (s : List UInt8) (f : Nat) (x : Nat × Nat × Bool) : Prop := f ≤ x.1 ∧ x.1 ≤ f + Zi Z9 (s.drop f) ∧ (x.2.2 = false → x.2.1 = Ym 16 ((s.drop f).take (x.1 - f)) ∧ x.2.1 < 18446744073709551616) ∧ (x.2.2 = true → 18446744073709551616 ≤ Ym 16 ((s.drop f).take (x.1 - f)))
theorem Zw9 (hE : EnvOk Yb P I) (hI : Carried I) {s : List UInt8} {f most : Nat} (hs : s.length < 4294967296) (hf : f ≤ s.length) : Yk Yb P I ro (.block 0 (.loop (Zc [9, 0] Qz.body))) (Zd 125 rnS (rnW s f 16 most f 0 false)) (Zs 8 []) fun e fr H => e = .normal ∧ ∃ v o keep, Zih s f (f + Zi Z9 (s.drop f), v, o) ∧ Ren 8 keep fr H (Zd 125 rnS (rnW s (f + Zi Z9 (s.drop f)) 16 most f v o)) (Zs 8 []) := by
  refine Yk.mono (Yk.block (Q := fun e fr H => e = .normal ∧ ∃ v o keep, Zih s f (f + Zi Z9 (s.drop f), v, o) ∧ Ren 8 keep fr H (Zd 125 rnS (rnW s (f + Zi Z9 (s.drop f)) 16 most f v o)) (Zs 8 [])) (Yk.loop (X := Nat × Nat × Bool) (fr := fun x => Zd 125 rnS (rnW s x.1 16 most f x.2.1 x.2.2)) (H := fun _ => Zs 8 []) (Inv := Zih s f) (fun x => s.length - x.1) hI ?_ (f, 0, false) ⟨Nat.le_refl _, Nat.le_add_right _ _, fun _ => ⟨by rw [Nat.sub_self]; rfl, by simp only; decide⟩, fun h => by cases h⟩)) fun e fr H h => h
  rintro ⟨j, v, o⟩ ⟨i1, i2, i3, i4⟩
  simp only at i1 i2 i3 i4
  have hrl := X4 Z9 (s.drop f)
  rw [List.length_drop] at hrl
  refine Z0 _ ?_
  by_cases h : j < f + Zi Z9 (s.drop f)
  · have hp : Z9 (Za s j) = true := by
      have := Zav (p := Z9) (s := s.drop f) (k := j - f) (by omega)
      rwa [Y7, show f + (j - f) = j by omega] at this
    obtain ⟨v', o', e1, e2, e3⟩ := Z6i (most := most) (f := f) (v := v) (o := o) hs (show j < s.length by omega) hp
    have ev : Ym 16 ((s.drop f).take (j + 1 - f)) = Ym 16 ((s.drop f).take (j - f)) * 16 + dv (Za s j).toNat := by
      rw [show j + 1 - f = (j - f) + 1 by omega, Kg (by rw [List.length_drop]; omega), Y7, show f + (j - f) = j by omega]
    refine Zg.leafE hE e1 (by decide) rfl rfl Y3 fun fr' H' r => .inl ⟨rfl, (j + 1, v', o'), _, ⟨by simp only; omega, by simp only; omega, fun ho => ?_, fun ho => ?_⟩, by simp only; omega, r⟩
    · simp only at ho ⊢
      rw [e3] at ho
      rw [Bool.or_eq_false_iff] at ho
      obtain ⟨a1, a2⟩ := i3 ho.1
      have a3 := of_decide_eq_false ho.2
      have a4 := e2 (by omega)
      rw [ev, ← a1]
      exact ⟨a4, by omega⟩
    · simp only at ho ⊢
      rw [ev]
      cases o with
      | true =>
        have := i4 rfl
        omega
      | false =>
        rw [e3, Bool.false_or] at ho
        have := of_decide_eq_true ho
        rw [← (i3 rfl).1]
        exact this
  · obtain rfl : j = f + Zi Z9 (s.drop f) := by omega
    refine Zg.leafE hE (Z0x (most := most) (f := f) (v := v) (o := o) fun h2 => ?_) (by decide) rfl rfl Y3 fun fr' H' r => .inr ⟨(by intro h; cases h), rfl, v, o, _, ⟨i1, i2, i3, i4⟩, r⟩
    have := J1 (p := Z9) (s := s.drop f) (by rw [List.length_drop]; omega)
    rwa [Y7] at this
def Za6 (b most : Nat) (p : UInt8 → Bool) (s : List UInt8) (f : Nat) : Nat × Nat × Nat :=
  bif Nat.beq (Zi p (s.drop f)) 0 then (0, 0, 12) else
  bif (Nat.blt (f + Zi p (s.drop f)) s.length && Qq (Za s (f + Zi p (s.drop f)))) || (Nat.beq b 10 && (Nat.blt 1 (Zi p (s.drop f)) && Nat.beq (Za s f).toNat 48)) then (0, 0, 12) else
  bif Nat.blt most (Zi p (s.drop f)) then (0, 0, 3) else
  bif Nat.blt (Ym b ((s.drop f).take (Zi p (s.drop f)))) 18446744073709551616 then (Ym b ((s.drop f).take (Zi p (s.drop f))), f + Zi p (s.drop f), 0) else (0, 0, 3)
theorem Zol {f d : Nat} (h : f + d < 4611686018427387904) : Zf .i64 (Int.sub (.ofNat (f + d)) (.ofNat f)) = .ofNat d := by
  rw [show Int.sub (.ofNat (f + d)) (.ofNat f) = .ofNat d from by show ((f + d : Nat) : Int) - (f : Int) = (d : Int); omega]
  exact Vo (by omega)
theorem Z0t {s : List UInt8} {f v : Nat} {o : Bool} (hs : s.length < 4294967296) (hf : f ≤ s.length) (hi : Zio s f (f + Zi Z1 (s.drop f), v, o)) : Zu Yb (Yw Yb 3) ((flat Qz.body).drop 10) (Yj 8 [4, 5, 6] [0, 1, 2, 3, 4, 5, 6, 7]) (Zd 125 rnS (rnW s (f + Zi Z1 (s.drop f)) 10 20 f v o)) (Zs 8 []) = lf .ret 125 ([.int .u64 (.ofNat (Za6 10 20 Z1 s f).1), .int .i64 (.ofNat (Za6 10 20 Z1 s f).2.1), .int .i64 (.ofNat (Za6 10 20 Z1 s f).2.2)].map some) ([].map some) := by
  obtain ⟨_, _, i3, i4⟩ := hi
  simp only at i3 i4
  rw [show f + Zi Z1 (s.drop f) - f = Zi Z1 (s.drop f) by omega] at i3 i4
  have hrl := X4 Z1 (s.drop f)
  rw [List.length_drop] at hrl
  refine (Zyz s (f + Zi Z1 (s.drop f)) 10 20 f v o).trans ?_
  obtain ⟨r1, r2, r3, r4, r5, r6⟩ := Zb9 (Za s (f + Zi Z1 (s.drop f)))
  rw [Zol (by omega)]
  unfold Za6
  generalize hD : Zi Z1 (s.drop f) = D at *
  generalize hV : Ym 10 ((s.drop f).take D) = V at *
  by_cases h0 : D = 0
  · rw [Zat (show f + D = f by omega), Zat h0]; rfl
  rw [J2 (show ¬ f + D = f by omega), J2 h0, show Nat.blt f (Zb s) = true from Zm (show f < s.length by omega)]
  rw [← r3]
  rw [show Yc (.ofNat 1) (.ofNat D) = Nat.blt 1 D from rfl, show Yc (.ofNat 20) (.ofNat D) = Nat.blt 20 D from rfl, show Nat.blt (f + D) (Zb s) = Nat.blt (f + D) s.length from rfl]
  have ho : o = false → v = V ∧ Nat.blt V 18446744073709551616 = true := fun h => ⟨(i3 h).1, Zm (by have := i3 h; omega)⟩
  have ho2 : o = true → Nat.blt V 18446744073709551616 = false := fun h => Yg (by have := i4 h; omega)
  cases o with
  | false =>
    obtain ⟨rfl, h2⟩ := ho rfl
    rw [h2]
    cases Nat.blt (f + D) s.length <;> cases Yh (.ofNat (Za s (f + D)).toNat) <;> cases Yo (.ofNat (Za s (f + D)).toNat) <;> cases Nat.blt 1 D <;> cases Nat.beq (Za s f).toNat 48 <;> cases Nat.blt 20 D <;> rfl
  | true =>
    rw [ho2 rfl]
    cases Nat.blt (f + D) s.length <;> cases Yh (.ofNat (Za s (f + D)).toNat) <;> cases Yo (.ofNat (Za s (f + D)).toNat) <;> cases Nat.blt 1 D <;> cases Nat.beq (Za s f).toNat 48 <;> cases Nat.blt 20 D <;> rfl
theorem Z0w {s : List UInt8} {f v : Nat} {o : Bool} (hs : s.length < 4294967296) (hf : f ≤ s.length) (hi : Zih s f (f + Zi Z9 (s.drop f), v, o)) : Zu Yb (Yw Yb 3) ((flat Qz.body).drop 10) (Yj 8 [4, 5, 6] [0, 1, 2, 3, 4, 5, 6, 7]) (Zd 125 rnS (rnW s (f + Zi Z9 (s.drop f)) 16 16 f v o)) (Zs 8 []) = lf .ret 125 ([.int .u64 (.ofNat (Za6 16 16 Z9 s f).1), .int .i64 (.ofNat (Za6 16 16 Z9 s f).2.1), .int .i64 (.ofNat (Za6 16 16 Z9 s f).2.2)].map some) ([].map some) := by
  obtain ⟨_, _, i3, i4⟩ := hi
  simp only at i3 i4
  rw [show f + Zi Z9 (s.drop f) - f = Zi Z9 (s.drop f) by omega] at i3 i4
  have hrl := X4 Z9 (s.drop f)
  rw [List.length_drop] at hrl
  refine (Zyz s (f + Zi Z9 (s.drop f)) 16 16 f v o).trans ?_
  obtain ⟨r1, r2, r3, r4, r5, r6⟩ := Zb9 (Za s (f + Zi Z9 (s.drop f)))
  rw [Zol (by omega)]
  unfold Za6
  generalize hD : Zi Z9 (s.drop f) = D at *
  generalize hV : Ym 16 ((s.drop f).take D) = V at *
  by_cases h0 : D = 0
  · rw [Zat (show f + D = f by omega), Zat h0]; rfl
  rw [J2 (show ¬ f + D = f by omega), J2 h0, show Nat.blt f (Zb s) = true from Zm (show f < s.length by omega)]
  rw [← r3]
  rw [show Yc (.ofNat 1) (.ofNat D) = Nat.blt 1 D from rfl, show Yc (.ofNat 16) (.ofNat D) = Nat.blt 16 D from rfl, show Nat.blt (f + D) (Zb s) = Nat.blt (f + D) s.length from rfl]
  have ho : o = false → v = V ∧ Nat.blt V 18446744073709551616 = true := fun h => ⟨(i3 h).1, Zm (by have := i3 h; omega)⟩
  have ho2 : o = true → Nat.blt V 18446744073709551616 = false := fun h => Yg (by have := i4 h; omega)
  cases o with
  | false =>
    obtain ⟨rfl, h2⟩ := ho rfl
    rw [h2]
    cases Nat.blt (f + D) s.length <;> cases Yh (.ofNat (Za s (f + D)).toNat) <;> cases Yo (.ofNat (Za s (f + D)).toNat) <;> cases Nat.blt 1 D <;> cases Nat.beq (Za s f).toNat 48 <;> cases Nat.blt 16 D <;> rfl
  | true =>
    rw [ho2 rfl]
    cases Nat.blt (f + D) s.length <;> cases Yh (.ofNat (Za s (f + D)).toNat) <;> cases Yo (.ofNat (Za s (f + D)).toNat) <;> cases Nat.blt 1 D <;> cases Nat.beq (Za s f).toNat 48 <;> cases Nat.blt 16 D <;> rfl
def rnQ (x : Nat × Nat × Nat) : TQ := fun e fr H => (e = .normal ∨ e = .ret) ∧ fr.df = [] ∧ ∃ l, Xm Yb fr.t H Qz.results = some l ∧ Vf (Ja l) = Zkx x
theorem Z18 (hE : EnvOk Yb P I) (hI : Carried I) {s : List UInt8} {f : Nat} (hs : s.length < 4294967296) (hf : f ≤ s.length) : Zg Yb P I ro (.block 0 (.loop (Zc [9, 0] Qz.body)) :: (flat Qz.body).drop 10) (Zd 125 rnS (rnW s f 10 20 f 0 false)) (Zs 8 []) (rnQ (Za6 10 20 Z1 s f)) := by
  refine Yk.mono (Zw2 (most := 20) hE hI hs hf) ?_
  rintro e fr H ⟨rfl, v, o, keep, hi, r⟩
  refine .inl ⟨rfl, Zg.ren hI r (Zg.leafE hE (Z0t hs hf hi) (by decide) rfl rfl Y3 fun fr' H' r => ⟨.inr rfl, r.df.1, _, by rw [Zqj]; exact Va r (l := [.int .u64 (.ofNat (Za6 10 20 Z1 s f).1), .int .i64 (.ofNat (Za6 10 20 Z1 s f).2.1), .int .i64 (.ofNat (Za6 10 20 Z1 s f).2.2)]) rfl rfl, rfl⟩)⟩
theorem Z0n (hE : EnvOk Yb P I) (hI : Carried I) {s : List UInt8} {f : Nat} (hs : s.length < 4294967296) (hf : f ≤ s.length) : Zg Yb P I ro (.block 0 (.loop (Zc [9, 0] Qz.body)) :: (flat Qz.body).drop 10) (Zd 125 rnS (rnW s f 16 16 f 0 false)) (Zs 8 []) (rnQ (Za6 16 16 Z9 s f)) := by
  refine Yk.mono (Zw9 (most := 16) hE hI hs hf) ?_
  rintro e fr H ⟨rfl, v, o, keep, hi, r⟩
  refine .inl ⟨rfl, Zg.ren hI r (Zg.leafE hE (Z0w hs hf hi) (by decide) rfl rfl Y3 fun fr' H' r => ⟨.inr rfl, r.df.1, _, by rw [Zqj]; exact Va r (l := [.int .u64 (.ofNat (Za6 16 16 Z9 s f).1), .int .i64 (.ofNat (Za6 16 16 Z9 s f).2.1), .int .i64 (.ofNat (Za6 16 16 Z9 s f).2.2)]) rfl rfl, rfl⟩)⟩
def Yx (s : List UInt8) (a : Nat) : Nat × Nat × Nat := ((Qy (s.drop a)).1, bif Nat.beq (Qy (s.drop a)).2.2 0 then a + (Qy (s.drop a)).2.1 else 0, (Qy (s.drop a)).2.2)
theorem Zqq {b most fr a : Nat} {p : UInt8 → Bool} {s : List UInt8} (h1 : ¬ Zi p (s.drop (a + fr)) = 0) (h2 : fr = 0 ∨ b = 16) : Za6 b most p s (a + fr) = ((Zbl b fr most p (s.drop a)).1, bif Nat.beq (Zbl b fr most p (s.drop a)).2.2 0 then a + (Zbl b fr most p (s.drop a)).2.1 else 0, (Zbl b fr most p (s.drop a)).2.2) := by
  unfold Za6 Zbl
  rw [List.drop_drop, Y7, Y7, List.length_drop, J2 h1, Nat.add_zero]
  rw [show Nat.blt (fr + Zi p (s.drop (a + fr))) (s.length - a) = Nat.blt (a + fr + Zi p (s.drop (a + fr))) s.length from by
    by_cases h : a + fr + Zi p (s.drop (a + fr)) < s.length
    · rw [Zm h, Zm (by omega)]
    · rw [Yg h, Yg (by omega)], show a + (fr + Zi p (s.drop (a + fr))) = a + fr + Zi p (s.drop (a + fr)) by omega]
  have hz : (Nat.beq b 10 && (Nat.blt 1 (Zi p (s.drop (a + fr))) && Nat.beq (Za s (a + fr)).toNat 48)) = (Nat.beq b 10 && (Nat.blt 1 (Zi p (s.drop (a + fr))) && Nat.beq (Za s a).toNat 48)) := by
    rcases h2 with rfl | rfl <;> rfl
  rw [hz]
  simp only [cond_false]
  generalize ((Nat.blt (a + fr + Zi p (s.drop (a + fr))) s.length && Qq (Za s (a + fr + Zi p (s.drop (a + fr))))) || (Nat.beq b 10 && (Nat.blt 1 (Zi p (s.drop (a + fr))) && Nat.beq (Za s a).toNat 48))) = x
  cases x with
  | true => rfl
  | false =>
    simp only [cond_false]
    cases Nat.blt most (Zi p (s.drop (a + fr))) with
    | true => rfl
    | false =>
      simp only [cond_false]
      cases Nat.blt (Ym b ((s.drop (a + fr)).take (Zi p (s.drop (a + fr))))) 18446744073709551616 with
      | true => simp only [cond_true, Nat.beq_refl]; rw [show a + (fr + Zi p (s.drop (a + fr))) = a + fr + Zi p (s.drop (a + fr)) by omega]
      | false => rfl
theorem Zg2 {c : UInt8} {n : Nat} (h : Nat.beq c.toNat n = true) : c = UInt8.ofNat n := by
  rw [Nat.beq_eq] at h
  rw [← h, UInt8.ofNat_toNat]
theorem Ztb {s : List UInt8} {a : Nat} (h : a + 1 < s.length) (h1 : Nat.beq (Za s a).toNat 48 = true) (h2 : Nat.beq (Za s (a + 1)).toNat 120 = true) : Za6 16 16 Z9 s (a + 2) = Yx s a := by
  have e0 : s.drop a = 48 :: 120 :: s.drop (a + 2) := by
    rw [drop_at (show a < s.length by omega), drop_at h, Zg2 h1, Zg2 h2]; rfl
  have ht : leq ((s.drop a).take 2) [48, 120] = true := by rw [e0]; rfl
  have hd : (s.drop a).drop 2 = s.drop (a + 2) := by rw [List.drop_drop]
  by_cases h3 : Zi Z9 (s.drop (a + 2)) = 0
  · have hm : Zew (s.drop a) = false := by unfold Zew; rw [hd, h3, show Nat.blt 0 0 = false from rfl, Bool.and_false, Bool.and_false]
    have hr : Zi Z1 (s.drop a) = 1 := by rw [e0]; rfl
    unfold Yx Qy Za6
    rw [hm, h3]
    simp only [cond_false]
    unfold Zbl
    rw [List.drop_zero, hr]
    have e1 : Za (s.drop a) (0 + 1) = 120 := by rw [e0]; rfl
    have e2 : Qq 120 = true := by kernel_rfl
    rw [e1, e2, show Nat.blt (0 + 1) (s.drop a).length = true from Zm (by rw [List.length_drop]; omega)]
    rfl
  · have hm : Zew (s.drop a) = true := by unfold Zew; rw [hd, ht, Yn (by rw [List.length_drop]; omega), Zm (by omega)]; rfl
    unfold Yx Qy
    rw [hm]
    exact Zqq h3 (.inr rfl)
theorem Zsn {s : List UInt8} {a : Nat} (h : a < s.length) (hd : Z1 (Za s a) = true) (h2 : ¬ (a + 1 < s.length ∧ Nat.beq (Za s a).toNat 48 = true ∧ Nat.beq (Za s (a + 1)).toNat 120 = true)) : Za6 10 20 Z1 s a = Yx s a := by
  have hm : Zew (s.drop a) = false := by
    unfold Zew
    by_cases h3 : a + 1 < s.length
    · have ht : leq ((s.drop a).take 2) [48, 120] = (bif Nat.beq (Za s a).toNat 48 then (bif Nat.beq (Za s (a + 1)).toNat 120 then true else false) else false) := by
        rw [drop_at h, drop_at h3]; rfl
      rw [ht]
      cases e1 : Nat.beq (Za s a).toNat 48 with
      | false => simp
      | true =>
        cases e2 : Nat.beq (Za s (a + 1)).toNat 120 with
        | false => simp
        | true => exact absurd ⟨h3, e1, e2⟩ h2
    · rw [Yab (by rw [List.length_drop]; omega)]; rfl
  have hr : ¬ Zi Z1 (s.drop (a + 0)) = 0 := by
    rw [Nat.add_zero, drop_at h]
    unfold Zi
    rw [hd]
    exact Nat.succ_ne_zero _
  unfold Yx Qy
  rw [hm]
  exact Zqq (a := a) (fr := 0) hr (.inl rfl)
theorem Ydm (hE : EnvOk Yb P I) (hI : Carried I) {s : List UInt8} {a : Nat} (hs : s.length < 4294967296) (ha : a < s.length) (hd : Z1 (Za s a) = true) : Yk Yb P I ro Qz.body (Z8 Qz [.str s, .int .i64 (.ofNat a)]) (Zs 8 []) (rnQ (Yx s a)) := by
  refine Z0 _ ?_
  rw [Zwy]
  have et := Yb3 s a
  have hu := Yv (k := a) (by omega)
  rw [hu, show Nat.blt a (Zb s) = true from Zm ha, show Yc (.ofNat (a + 1)) (.ofNat (Zb s)) = Nat.blt (a + 1) s.length from rfl, show Yc (.ofNat (a + 1)) (.ofNat 0) = false from rfl, show Nat.blt (Int.toNat (.ofNat (a + 1))) (Zb s) = Nat.blt (a + 1) s.length from rfl, show Int.toNat (.ofNat (a + 1)) = a + 1 from rfl] at et
  rw [show Zf .i64 (.ofNat (Nat.add a 2)) = .ofNat (a + 2) from Vo (k := a + 2) (by omega)] at et
  have dec : ¬ (a + 1 < s.length ∧ Nat.beq (Za s a).toNat 48 = true ∧ Nat.beq (Za s (a + 1)).toNat 120 = true) → Zu Yb (Yw Yb 3) ((flat Qz.body).take 9) (Yj 8 rnS [0, 1, 2, 3, 4, 5, 6, 7]) (Z8 Qz [.str s, .int .i64 (.ofNat a)]) (Zs 8 []) = lf .normal 125 ((rnW s a 10 20 a 0 false).map some) ([].map some) → Zg Yb P I ro ((flat Qz.body).take 9 ++ .block 0 (.loop (Zc [9, 0] Qz.body)) :: (flat Qz.body).drop 10) (Z8 Qz [.str s, .int .i64 (.ofNat a)]) (Zs 8 []) (rnQ (Yx s a)) := fun h e => by
    refine Zg.leafX hE hI e (by decide) rfl rfl Y3 (.inl ⟨rfl, ?_⟩)
    rw [← Zsn ha hd h]
    exact Z18 hE hI hs (by omega)
  cases h1 : Nat.beq (Za s a).toNat 48 with
  | false => rw [h1] at et; exact dec (fun h => by rw [h1] at h; cases h.2.1) et
  | true =>
    rw [h1] at et
    by_cases h2 : a + 1 < s.length
    · rw [Zm h2] at et
      cases h3 : Nat.beq (Za s (a + 1)).toNat 120 with
      | false => rw [h3] at et; exact dec (fun h => by rw [h3] at h; cases h.2.2) et
      | true =>
        rw [h3] at et
        refine Zg.leafX hE hI (vs := rnW s (a + 2) 16 16 (a + 2) 0 false) et (by decide) rfl rfl Y3 (.inl ⟨rfl, ?_⟩)
        rw [← Ztb h2 h1 h3]
        exact Z0n hE hI hs (by omega)
    · rw [Yg h2] at et; exact dec (fun h => h2 h.1) et
end
def Zjz (s : List UInt8) (a : Nat) : Bool := Nat.blt a (Zb s) && (Z1 (Za s a) && Nat.blt (Zb s) 4294967296)
def K7 : Nat → List AV → Option AV := fun g args => match args with
  | [.str s, .int .i64 (.ofNat a)] => bif Nat.beq g 21 && Zjz s a then some (Zkx (Yx s a)) else none
  | _ => none
theorem Zx5 : Qm Tryd.prog gl (Zx K7) := Km fun g args v h => by
  unfold K7 at h
  split at h
  case h_2 => cases h
  rename_i s a
  rw [Bool.cond_eq_ite] at h
  split at h
  case isFalse => cases h
  rename_i hb
  unfold Zjz at hb
  simp only [Bool.and_eq_true, Nat.beq_eq, Nat.blt_eq] at hb
  obtain ⟨rfl, h1, hd, hs⟩ := hb
  simp only [Option.some.injEq] at h
  subst h
  exact ⟨Yb, Qz, Ql, Wl, Z8s, Z2 rfl, Ji rfl, fun w hw => Ydm (Ql w hw) (Zt hw) hs h1 hd⟩
end
end Go.Proofs.YtdpkmhnpbbapcaaDoor
