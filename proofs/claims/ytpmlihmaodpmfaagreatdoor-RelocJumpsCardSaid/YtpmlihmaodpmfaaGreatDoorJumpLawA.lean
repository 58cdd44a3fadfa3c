/- arm's words of b, bl, b.c and cbz as sums, what Decode reads in them, and which numbers are refused. -/
import Derived.Test.YtpmlihmaodpmfaaGreatDoorArLaw2
import Derived.KernelRfl
namespace Go.Proofs.YtpmlihmaodpmfaaGreatDoor
open Go Go.Vai
noncomputable section
set_option maxRecDepth 100000
theorem q26 : ((2 ^ 26 : Nat) : Int) = 67108864 := rfl
theorem q24 : ((2 ^ 24 : Nat) : Int) = 16777216 := rfl
theorem tdiv4 {n : Int} (h : n % 4 = 0) : Int.tdiv n (.ofNat 4) = n / 4 := by
  obtain ⟨k, rfl⟩ := Int.dvd_of_emod_eq_zero h
  show Int.tdiv (4 * k) 4 = _
  rw [Int.mul_tdiv_cancel_left k (by decide)]
  omega
theorem put_B26 {n : Int} (h : n % 4 = 0) : putOf fB26 n = n / 4 % 67108864 := by
  show wrapR .u32 (shlI (wrapR .u32 (andI .u32 (wrapR .u32 (wrapR .i64 (Int.tdiv n (.ofNat 4)))) (.ofNat 67108863))) 0) = _
  simp only [a26, tdiv4 h, wrapB_u32, wrapB_i64, shlB]
  omega
theorem get_B26 (w : Int) : getOf fB26 w = ((w % 67108864 + 33554432) % 67108864 - 33554432) * 4 := by
  show wrapR .i64 (Int.mul (wrapR .i64 (shrI (wrapR .i32 (wrapR .u32 (shlI (wrapR .u32 (andI .u32 (shrI w 0) (.ofNat 67108863))) 6))) 6)) (.ofNat 4)) = _
  simp only [a26, mulB, wrapB_u32, wrapB_i64, wrapB_i32, shrB, shlB]
  simp only [natB]
  rw [show w / ((2 ^ 0 : Nat) : Int) % 67108864 % 4294967296 = w % 67108864 by omega]
  have hx : 0 ≤ w % 67108864 ∧ w % 67108864 < 67108864 := by omega
  generalize w % 67108864 = x at hx ⊢
  omega
theorem put_B19 {n : Int} (h : n % 4 = 0) : putOf fB19 n = n / 4 % 524288 * 32 := by
  show wrapR .u32 (shlI (wrapR .u32 (andI .u32 (wrapR .u32 (wrapR .i64 (Int.tdiv n (.ofNat 4)))) (.ofNat 524287))) 5) = _
  simp only [a19, tdiv4 h, wrapB_u32, wrapB_i64, shlB]
  omega
theorem get_B19 (w : Int) : getOf fB19 w = ((w / 32 % 524288 + 262144) % 524288 - 262144) * 4 := by
  show wrapR .i64 (Int.mul (wrapR .i64 (shrI (wrapR .i32 (wrapR .u32 (shlI (wrapR .u32 (andI .u32 (shrI w 5) (.ofNat 524287))) 13))) 13)) (.ofNat 4)) = _
  simp only [a19, mulB, wrapB_u32, wrapB_i64, wrapB_i32, shrB, shlB]
  simp only [natB]
  rw [show w / ((2 ^ 5 : Nat) : Int) % 524288 % 4294967296 = w / 32 % 524288 by omega]
  have hx : 0 ≤ w / 32 % 524288 ∧ w / 32 % 524288 < 524288 := by omega
  generalize w / 32 % 524288 = x at hx ⊢
  omega
abbrev rB : ArRow := ⟨[98], .ofNat 335544320, fN, fN, fN, fN, fB26, [106]⟩
abbrev rBl : ArRow := ⟨[98, 108], .ofNat 2483027968, fN, fN, fN, fN, fB26, [106]⟩
abbrev rBc : ArRow := ⟨[98, 46, 99], .ofNat 1409286144, fN, fN, fN, fC4, fB19, [99, 106]⟩
abbrev rCbz : ArRow := ⟨[99, 98, 122], .ofNat 3019898880, fR0, fN, fN, fN, fB19, [65, 106]⟩
theorem b_at : arRows[43]? = some rB := by kernel_rfl
theorem bl_at : arRows[44]? = some rBl := by kernel_rfl
theorem bc_at : arRows[45]? = some rBc := by kernel_rfl
theorem cbz_at : arRows[46]? = some rCbz := by kernel_rfl
theorem or_z {x : Int} (h : 0 ≤ x ∧ x < 4294967296) : wrapR .u32 (orI .u32 x (.ofNat 0)) = x := by
  rw [or0 h.1 (by rw [p32]; exact h.2), wrapB_u32]; omega
theorem b_word {n : Int} (h : n % 4 = 0) : wordOf rB (.ofNat 0) (.ofNat 0) (.ofNat 0) (.ofNat 0) n = 335544320 + n / 4 % 67108864 := by
  show wrapR .u32 (orI .u32 (wrapR .u32 (orI .u32 (wrapR .u32 (orI .u32 (wrapR .u32 (orI .u32 (wrapR .u32 (orI .u32 (.ofNat 335544320) (putOf fN _))) (putOf fN _))) (putOf fN _))) (putOf fN _))) (putOf fB26 n)) = _
  simp only [put_N]
  rw [put_B26 h, or_z (x := .ofNat 335544320) (by decide), or_z (x := .ofNat 335544320) (by decide), or_z (x := .ofNat 335544320) (by decide), or_z (x := .ofNat 335544320) (by decide)]
  rw [orHi (kd := .u32) 26 (by omega) (by rw [q26]; omega) (by decide) (by decide) (by decide) (by decide), wrapB_u32, natB]
  omega
theorem bl_word {n : Int} (h : n % 4 = 0) : wordOf rBl (.ofNat 0) (.ofNat 0) (.ofNat 0) (.ofNat 0) n = 2483027968 + n / 4 % 67108864 := by
  show wrapR .u32 (orI .u32 (wrapR .u32 (orI .u32 (wrapR .u32 (orI .u32 (wrapR .u32 (orI .u32 (wrapR .u32 (orI .u32 (.ofNat 2483027968) (putOf fN _))) (putOf fN _))) (putOf fN _))) (putOf fN _))) (putOf fB26 n)) = _
  simp only [put_N]
  rw [put_B26 h, or_z (x := .ofNat 2483027968) (by decide), or_z (x := .ofNat 2483027968) (by decide), or_z (x := .ofNat 2483027968) (by decide), or_z (x := .ofNat 2483027968) (by decide)]
  rw [orHi (kd := .u32) 26 (by omega) (by rw [q26]; omega) (by decide) (by decide) (by decide) (by decide), wrapB_u32, natB]
  omega
theorem bc_word {n : Int} (h : n % 4 = 0) : wordOf rBc (.ofNat 0) (.ofNat 0) (.ofNat 0) (.ofNat 0) n = 1409286144 + n / 4 % 524288 * 32 := by
  show wrapR .u32 (orI .u32 (wrapR .u32 (orI .u32 (wrapR .u32 (orI .u32 (wrapR .u32 (orI .u32 (wrapR .u32 (orI .u32 (.ofNat 1409286144) (putOf fN _))) (putOf fN _))) (putOf fN _))) (putOf fC4 (.ofNat 0)))) (putOf fB19 n)) = _
  simp only [put_N]
  rw [put_B19 h, put_C4, show (Int.ofNat 0) % 16 = .ofNat 0 from rfl, or_z (x := .ofNat 1409286144) (by decide), or_z (x := .ofNat 1409286144) (by decide), or_z (x := .ofNat 1409286144) (by decide), or_z (x := .ofNat 1409286144) (by decide)]
  rw [orHi (kd := .u32) 24 (by omega) (by rw [q24]; omega) (by decide) (by decide) (by decide) (by decide), wrapB_u32, natB]
  omega
theorem cbz_word {n : Int} (h : n % 4 = 0) : wordOf rCbz (.ofNat 0) (.ofNat 0) (.ofNat 0) (.ofNat 0) n = 3019898880 + n / 4 % 524288 * 32 := by
  show wrapR .u32 (orI .u32 (wrapR .u32 (orI .u32 (wrapR .u32 (orI .u32 (wrapR .u32 (orI .u32 (wrapR .u32 (orI .u32 (.ofNat 3019898880) (putOf fR0 (.ofNat 0)))) (putOf fN _))) (putOf fN _))) (putOf fN _))) (putOf fB19 n)) = _
  simp only [put_N]
  rw [put_B19 h, put_R0, show (Int.ofNat 0) % 32 = .ofNat 0 from rfl, or_z (x := .ofNat 3019898880) (by decide), or_z (x := .ofNat 3019898880) (by decide), or_z (x := .ofNat 3019898880) (by decide), or_z (x := .ofNat 3019898880) (by decide)]
  rw [orHi (kd := .u32) 24 (by omega) (by rw [q24]; omega) (by decide) (by decide) (by decide) (by decide), wrapB_u32, natB]
  omega
def kB (i : Nat) : List (Nat × Bool) := [(31, i.testBit 5), (30, i.testBit 4), (29, i.testBit 3), (28, i.testBit 2), (27, i.testBit 1), (26, i.testBit 0)]
def kC (i : Nat) : List (Nat × Bool) := [(31, i.testBit 7), (30, i.testBit 6), (29, i.testBit 5), (28, i.testBit 4), (27, i.testBit 3), (26, i.testBit 2), (25, i.testBit 1), (24, i.testBit 0)]
theorem b_pre : (arRows.take 43).all (conf (kB 5)) = true := by kernel_rfl
theorem bl_pre1 : (arRows.take 15).all (conf (kB 37)) = true := by kernel_rfl
theorem bl_pre2 : ((arRows.drop 16).take 28).all (conf (kB 37)) = true := by kernel_rfl
def okOf (x : Option AV) : Prop := ∃ n r s b, x = some (.tup [.int .i64 n, .int .i64 r, .int .i64 s, .bool b]) ∧ (∃ k : Nat, n = .ofNat k ∧ k < 2) ∧ (∃ k : Nat, r = .ofNat k ∧ k < 64) ∧ -1 ≤ s ∧ s ≤ 127
theorem okOf_bc {b : Bool} {x y : Option AV} (hx : okOf x) (hy : okOf y) : okOf (bc b x y) := by cases b <;> assumption
theorem okOf_lit {n r s : Nat} {b : Bool} (hn : n < 2) (hr : r < 64) (hs : s ≤ 127) : okOf (some (.tup [.int .i64 (.ofNat n), .int .i64 (.ofNat r), .int .i64 (.ofNat s), .bool b])) := ⟨_, _, _, _, rfl, ⟨n, rfl, hn⟩, ⟨r, rfl, hr⟩, by rw [natB]; omega, by rw [natB]; omega⟩
theorem okOf_pr {n r p : Nat} {b : Bool} (hn : n < 2) (hr : r < 64) (hp : p ≤ 127) : okOf (some (.tup [.int .i64 (.ofNat n), .int .i64 (.ofNat r), .int .i64 (pr p), .bool b])) := by
  have e : pr p = (p : Int) - 1 := by
    show wrapR .i64 (Int.sub (.ofNat p) (.ofNat 1)) = _
    rw [wrapB_i64, subB, natB, natB]; omega
  exact ⟨_, _, _, _, rfl, ⟨n, rfl, hn⟩, ⟨r, rfl, hr⟩, by rw [e]; omega, by rw [e]; omega⟩
theorem okOf_or {n r c p : Nat} {b : Bool} (hn : n < 2) (hr : r < 64) (hc : c ≤ 127) (hp : p ≤ 127) : okOf (some (.tup [.int .i64 (.ofNat n), .int .i64 (.ofNat r), .int .i64 (wrapR .i64 (Int.sub (wrapR .i64 (orI .i64 (.ofNat c) (.ofNat p))) (.ofNat 1))), .bool b])) := by
  have h : ∃ q : Nat, orI .i64 (.ofNat c) (.ofNat p) = (q : Int) ∧ q < 128 := by
    refine ⟨c ||| p, ?_, Nat.or_lt_two_pow (n := 7) (by omega) (by omega)⟩
    unfold orI
    rw [natB, natB, natB, Go.Vai.bits_nat (k := .i64) (by show c < 18446744073709551616; omega), Go.Vai.bits_nat (k := .i64) (by show p < 18446744073709551616; omega)]
    rfl
  obtain ⟨q, hq, hl⟩ := h
  have e : wrapR .i64 (Int.sub (wrapR .i64 (orI .i64 (.ofNat c) (.ofNat p))) (.ofNat 1)) = (q : Int) - 1 := by
    rw [hq, subB]
    simp only [wrapB_i64, natB]
    omega
  exact ⟨_, _, _, _, rfl, ⟨n, rfl, hn⟩, ⟨r, rfl, hr⟩, by rw [e]; omega, by rw [e]; omega⟩
set_option maxHeartbeats 2000000 in
theorem ofT_ok (m : Int) : okOf (ofT m) := by
  unfold ofT
  repeat (first | with_reducible apply okOf_bc | with_reducible exact okOf_pr (by decide) (by decide) (pcN_le _) | with_reducible exact okOf_or (by decide) (by decide) (by decide) (pcN_le _) | with_reducible exact okOf_lit (by decide) (by decide) (by decide))
abbrev fK3 : ArNum := ⟨.ofNat 0, .ofNat 0, .ofNat 3, .ofNat 0, .ofNat 0, .ofNat 0⟩
abbrev rAndI : ArRow := ⟨[97, 110, 100, 46, 105], .ofNat 2449473536, fR0, fR5, fN, fN, fK3, [65, 66, 105]⟩
theorem andI_at : arRows[15]? = some rAndI := by kernel_rfl
theorem n26 : ∀ k : Nat, k < 2 → (bw (wrapR .u32 (shlI (wrapR .u32 (.ofNat k)) 22))).testBit 26 = false := by decide +kernel
theorem r26 : ∀ k : Nat, k < 64 → (bw (wrapR .u32 (shlI (wrapR .u32 (.ofNat k)) 16))).testBit 26 = false := by decide +kernel
theorem s26 : ∀ k : Nat, k < 128 → (bw (wrapR .u32 (shlI (wrapR .u32 (.ofNat k)) 10))).testBit 26 = false := by decide +kernel
theorem s30 : (bw (wrapR .u32 (shlI (wrapR .u32 (-1)) 10))).testBit 30 = true := by decide +kernel
theorem or_bit {x y : Int} (i : Nat) : (bw (wrapR .u32 (orI .u32 x y))).testBit i = ((bw x).testBit i || (bw y).testBit i) := by
  rw [bw, bits_u32, bits_or, Nat.testBit_or]
theorem put_K3 (n : Int) (h : (bw (putOf fK3 n)).testBit 26 = true) : (bw (putOf fK3 n)).testBit 30 = true := by
  have e : putOf fK3 n = wrapR .u32 (orI .u32 (wrapR .u32 (orI .u32 (wrapR .u32 (shlI (wrapR .u32 (ofN (wrapR .u64 n))) 22)) (wrapR .u32 (shlI (wrapR .u32 (ofR (wrapR .u64 n))) 16)))) (wrapR .u32 (shlI (wrapR .u32 (ofS (wrapR .u64 n))) 10))) := rfl
  rw [e, or_bit, or_bit] at h ⊢
  obtain ⟨a, b, c, d, h1, ⟨k1, rfl, l1⟩, ⟨k2, rfl, l2⟩, g1, g2⟩ := ofT_ok (wrapR .u64 n)
  have h2 := ofT_val (wrapR .u64 n)
  rw [h1] at h2
  simp only [Option.some.injEq, AV.tup.injEq, List.cons.injEq, AV.int.injEq, true_and, and_true] at h2
  obtain ⟨e1, e2, e3, _⟩ := h2
  rw [← e1, ← e2, ← e3, n26 k1 l1, r26 k2 l2, Bool.false_or, Bool.false_or] at h
  rw [← e3]
  by_cases g : 0 ≤ c
  · obtain ⟨k, rfl⟩ := Int.eq_ofNat_of_zero_le g
    have := s26 k (by omega)
    rw [natB] at this
    rw [this] at h
    cases h
  · obtain rfl : c = -1 := by omega
    rw [s30, Bool.or_true]
theorem andI_miss {W : Int} (h26 : (bw W).testBit 26 = true) (h30 : (bw W).testBit 30 = false) : arHit W rAndI = false := by
  cases hh : arHit W rAndI with
  | false => rfl
  | true =>
    exfalso
    unfold arHit at hh
    rw [Bool.and_eq_true] at hh
    have e := hh.2
    rw [ieqB, decide_eq_true_iff, arW_eq rfl] at e
    have eb : ∀ i, (bw W).testBit i = ((((((bw rAndI.w).testBit i || (bw (putOf fR0 (getOf fR0 W))).testBit i) || (bw (putOf fR5 (getOf fR5 W))).testBit i) || (bw (putOf fN (getOf fN W))).testBit i) || (bw (putOf fN (getOf fN W))).testBit i) || (bw (putOf fK3 (getOf fK3 W))).testBit i) := fun i => by
      rw [← or_bit, ← or_bit, ← or_bit, ← or_bit, ← or_bit]
      exact (congrArg (fun z => (bw z).testBit i) e).symm
    have lo : ∀ (f : ArNum) (n : Int), okF f = true → (spanOf f).testBit 26 = false → (bw (putOf f n)).testBit 26 = false := fun f n ok hs => by
      cases hb : (bw (putOf f n)).testBit 26 with
      | false => rfl
      | true => rw [put_sub ok n hb] at hs; cases hs
    have h1 := eb 26
    rw [h26, show (bw rAndI.w).testBit 26 = false by decide +kernel, lo fR0 _ rfl (by decide +kernel), lo fR5 _ rfl (by decide +kernel), lo fN _ rfl (by decide +kernel)] at h1
    simp only [Bool.false_or] at h1
    have h2 := eb 30
    rw [h30, put_K3 _ h1.symm, Bool.or_true] at h2
    cases h2
theorem bc_pre : (arRows.take 45).all (conf (kC 84)) = true := by kernel_rfl
theorem cbz_pre : (arRows.take 46).all (conf (kC 180)) = true := by kernel_rfl
theorem hit_at {w : Int} {x : ArRow} (hok : okRow x = true) (hf : faultOf x x.nm (getOf x.a w) (getOf x.b w) (getOf x.c w) (getOf x.d w) (getOf x.m w) = .ofNat 0) (hw : wordOf x (getOf x.a w) (getOf x.b w) (getOf x.c w) (getOf x.d w) (getOf x.m w) = w) : arHit w x = true := by
  unfold arHit
  rw [arW_eq hok, hw, Bool.and_eq_true]
  refine ⟨?_, by rw [ieqB]; simp⟩
  show ieq (faultOf x x.nm (getOf x.a w) (getOf x.b w) (getOf x.c w) (getOf x.d w) (getOf x.m w)) _ = true
  rw [hf]; rfl
theorem small_C4 : smallOf fC4 (.ofNat 0) = true := by rw [smallOf, small_eq]; rfl
theorem tm4 (n : Int) : ieq (Int.tmod n (.ofNat 4)) (.ofNat 0) = decide (n % 4 = 0) := by
  rw [ieqB]
  exact decide_eq_decide.2 (show Int.tmod n 4 = 0 ↔ n % 4 = 0 from ⟨fun h => Int.emod_eq_zero_of_dvd (Int.dvd_of_tmod_eq_zero h), fun h => Int.tmod_eq_zero_of_dvd (Int.dvd_of_emod_eq_zero h)⟩)
def Flt (x : ArRow) (nm : List UInt8) (n lo hi : Int) : Prop := (lo ≤ n → n ≤ hi → n % 4 = 0 → faultOf x nm (.ofNat 0) (.ofNat 0) (.ofNat 0) (.ofNat 0) n = .ofNat 0) ∧ (n < lo ∨ hi < n ∨ n % 4 ≠ 0 → ieq (faultOf x nm (.ofNat 0) (.ofNat 0) (.ofNat 0) (.ofNat 0) n) (.ofNat 0) = false)
theorem ar_flt {x : ArRow} {nm : List UInt8} {n lo hi : Int} (hok : okImm x.m.k x.m.y = true) (h1 : smallOf x.a (.ofNat 0) = true) (h2 : smallOf x.b (.ofNat 0) = true) (h3 : smallOf x.c (.ofNat 0) = true) (h4 : smallOf x.d (.ofNat 0) = true) (k0 : ieq x.m.k (.ofNat 0) = false) (k3 : ieq x.m.k (.ofNat 3) = false) (hl : wrapR .i64 x.m.l = lo) (hh : wrapR .i64 x.m.h = hi) (hy : wrapR .i64 x.m.y = .ofNat 4) : Flt x nm n lo hi := by
  have e := arFaultyT_val x.nm x.w x.a.t x.a.b x.a.k x.a.y x.a.l x.a.h x.b.t x.b.b x.b.k x.b.y x.b.l x.b.h x.c.t x.c.b x.c.k x.c.y x.c.l x.c.h x.d.t x.d.b x.d.k x.d.y x.d.l x.d.h x.m.t x.m.b x.m.k x.m.y x.m.l x.m.h x.ops nm (.ofNat 0) (.ofNat 0) (.ofNat 0) (.ofNat 0) n hok
  change _ = some (AV.int .i64 (faultOf x nm (.ofNat 0) (.ofNat 0) (.ofNat 0) (.ofNat 0) n)) at e
  unfold arFaultyT at e
  simp only [h1, h2, h3, h4, k0, k3, hl, hh, hy, tm4, iltB, show ieq (.ofNat 4) (.ofNat 0) = false from rfl, Bool.not_true, bc_false] at e
  refine ⟨fun g1 g2 g3 => ?_, fun g => ?_⟩
  · rw [decide_eq_false (by omega), decide_eq_false (by omega), decide_eq_true g3] at e
    simp only [Bool.not_true, bc_false, Option.some.injEq, AV.int.injEq, true_and] at e
    exact e.symm
  · by_cases g1 : n < lo
    · rw [decide_eq_true g1] at e
      simp only [bc_true, Option.some.injEq, AV.int.injEq, true_and] at e
      rw [← e]; rfl
    · rw [decide_eq_false g1] at e
      by_cases g2 : hi < n
      · rw [decide_eq_true g2] at e
        simp only [bc_true, bc_false, Option.some.injEq, AV.int.injEq, true_and] at e
        rw [← e]; rfl
      · rw [decide_eq_false g2, decide_eq_false (show ¬ n % 4 = 0 by omega)] at e
        simp only [Bool.not_false, bc_true, bc_false, Option.some.injEq, AV.int.injEq, true_and] at e
        rw [← e]; rfl
theorem b_flt {nm : List UInt8} {n : Int} : Flt rB nm n (-134217728) 134217724 := ar_flt rfl small_N small_N small_N small_N rfl rfl rfl rfl rfl
theorem bl_flt {nm : List UInt8} {n : Int} : Flt rBl nm n (-134217728) 134217724 := ar_flt rfl small_N small_N small_N small_N rfl rfl rfl rfl rfl
theorem bc_flt {nm : List UInt8} {n : Int} : Flt rBc nm n (-1048576) 1048572 := ar_flt rfl small_N small_N small_N small_C4 rfl rfl rfl rfl rfl
theorem cbz_flt {nm : List UInt8} {n : Int} : Flt rCbz nm n (-1048576) 1048572 := ar_flt rfl (small_R0 (by decide)) small_N small_N small_N rfl rfl rfl rfl rfl
def JumpA (x : ArRow) (n W : Int) : Prop := wordOf x (.ofNat 0) (.ofNat 0) (.ofNat 0) (.ofNat 0) n = W ∧ (0 ≤ W ∧ W < 4294967296) ∧ arDN W = x.nm ∧ arDA W = .ofNat 0 ∧ arDB W = .ofNat 0 ∧ arDC W = .ofNat 0 ∧ arDD W = .ofNat 0 ∧ arDI W = n ∧ arDE W = .ofNat 0
theorem known6 {W : Int} {i : Nat} (h : 0 ≤ W ∧ W < 4294967296) (e : W / 67108864 = (i : Int)) : ∀ k ∈ kB i, (bw W).testBit k.1 = k.2 := by
  intro k hk
  have hi : i < 64 := by omega
  have t : ∀ j : Nat, i.testBit j = decide (i / 2 ^ j % 2 = 1) := fun j => Nat.testBit_eq_decide_div_mod_eq
  simp only [kB, List.mem_cons, List.not_mem_nil, or_false] at hk
  rcases hk with rfl | rfl | rfl | rfl | rfl | rfl <;> refine known_bit h _ _ ?_ <;> simp only [t] <;> (cases hd : decide (i / 2 ^ _ % 2 = 1) <;> first | (have := of_decide_eq_false hd) | (have := of_decide_eq_true hd)) <;> simp only [cond_true, cond_false] <;> omega
theorem known8 {W : Int} {i : Nat} (h : 0 ≤ W ∧ W < 4294967296) (e : W / 16777216 = (i : Int)) : ∀ k ∈ kC i, (bw W).testBit k.1 = k.2 := by
  intro k hk
  have hi : i < 256 := by omega
  have t : ∀ j : Nat, i.testBit j = decide (i / 2 ^ j % 2 = 1) := fun j => Nat.testBit_eq_decide_div_mod_eq
  simp only [kC, List.mem_cons, List.not_mem_nil, or_false] at hk
  rcases hk with rfl | rfl | rfl | rfl | rfl | rfl | rfl | rfl <;> refine known_bit h _ _ ?_ <;> simp only [t] <;> (cases hd : decide (i / 2 ^ _ % 2 = 1) <;> first | (have := of_decide_eq_false hd) | (have := of_decide_eq_true hd)) <;> simp only [cond_true, cond_false] <;> omega
theorem b_dec {n : Int} (hn : -134217728 ≤ n ∧ n ≤ 134217724) (h4 : n % 4 = 0) : ∃ W, JumpA rB n W := by
  refine ⟨_, b_word h4, ?_⟩
  have hv : ((n / 4 % 67108864 + 33554432) % 67108864 - 33554432) * 4 = n := by omega
  have h1 : 0 ≤ n / 4 % 67108864 ∧ n / 4 % 67108864 < 67108864 := by omega
  have hww := b_word h4
  generalize n / 4 % 67108864 = x at *
  generalize hW : 335544320 + x = W at *
  have h : 0 ≤ W ∧ W < 4294967296 := by omega
  have e1 : getOf rB.m W = n := (get_B26 W).trans (by rw [show W % 67108864 = x by omega]; exact hv)
  have hit : arHit W rB = true := hit_at rfl (by simp only [get_N, e1]; exact b_flt.1 hn.1 hn.2 h4) (by simp only [get_N, e1]; exact hww)
  have r := ar_of (find_row (known6 h (i := 5) (by omega)) b_at b_pre hit)
  rw [e1] at r
  simp only [get_N] at r
  exact ⟨h, r⟩
theorem bl_dec {n : Int} (hn : -134217728 ≤ n ∧ n ≤ 134217724) (h4 : n % 4 = 0) : ∃ W, JumpA rBl n W := by
  refine ⟨_, bl_word h4, ?_⟩
  have hv : ((n / 4 % 67108864 + 33554432) % 67108864 - 33554432) * 4 = n := by omega
  have h1 : 0 ≤ n / 4 % 67108864 ∧ n / 4 % 67108864 < 67108864 := by omega
  have hww := bl_word h4
  generalize n / 4 % 67108864 = x at *
  generalize hW : 2483027968 + x = W at *
  have h : 0 ≤ W ∧ W < 4294967296 := by omega
  have e1 : getOf rBl.m W = n := (get_B26 W).trans (by rw [show W % 67108864 = x by omega]; exact hv)
  have hit : arHit W rBl = true := hit_at rfl (by simp only [get_N, e1]; exact bl_flt.1 hn.1 hn.2 h4) (by simp only [get_N, e1]; exact hww)
  have hk := known6 h (i := 37) (by omega)
  have r := ar_of (arFind_at bl_at hit fun i hi y hy => by
    have hl : i < arRows.length := by
      rcases Nat.lt_or_ge i arRows.length with h | h
      · exact h
      · rw [List.getElem?_eq_none h] at hy; cases hy
    rw [List.getElem?_eq_getElem hl] at hy
    rcases Nat.lt_trichotomy i 15 with g | g | g
    · refine miss hk (List.all_eq_true.1 bl_pre1 y ?_)
      rw [List.mem_take_iff_getElem]
      exact ⟨i, by omega, Option.some.inj hy⟩
    · subst g
      have e := andI_at
      rw [List.getElem?_eq_getElem hl, hy] at e
      rw [Option.some.inj e]
      exact andI_miss (hk (26, true) (by decide)) (hk (30, false) (by decide))
    · refine miss hk (List.all_eq_true.1 bl_pre2 y ?_)
      rw [List.mem_take_iff_getElem]
      refine ⟨i - 16, by rw [List.length_drop]; omega, ?_⟩
      rw [List.getElem_drop]
      have : 16 + (i - 16) = i := by omega
      simp only [this]
      exact Option.some.inj hy)
  rw [e1] at r
  simp only [get_N] at r
  exact ⟨h, r⟩
theorem bc_dec {n : Int} (hn : -1048576 ≤ n ∧ n ≤ 1048572) (h4 : n % 4 = 0) : ∃ W, JumpA rBc n W := by
  refine ⟨_, bc_word h4, ?_⟩
  have hv : ((n / 4 % 524288 + 262144) % 524288 - 262144) * 4 = n := by omega
  have h1 : 0 ≤ n / 4 % 524288 ∧ n / 4 % 524288 < 524288 := by omega
  have hww := bc_word h4
  generalize n / 4 % 524288 = x at *
  generalize hW : 1409286144 + x * 32 = W at *
  have h : 0 ≤ W ∧ W < 4294967296 := by omega
  have e1 : getOf rBc.m W = n := (get_B19 W).trans (by rw [show W / 32 % 524288 = x by omega]; exact hv)
  have e2 : getOf rBc.d W = .ofNat 0 := (get_C4 W).trans (by rw [natB]; omega)
  have hit : arHit W rBc = true := hit_at rfl (by simp only [get_N, e1, e2]; exact bc_flt.1 hn.1 hn.2 h4) (by simp only [get_N, e1, e2]; exact hww)
  have r := ar_of (find_row (known8 h (i := 84) (by omega)) bc_at bc_pre hit)
  rw [e1, e2] at r
  simp only [get_N] at r
  exact ⟨h, r⟩
theorem cbz_dec {n : Int} (hn : -1048576 ≤ n ∧ n ≤ 1048572) (h4 : n % 4 = 0) : ∃ W, JumpA rCbz n W := by
  refine ⟨_, cbz_word h4, ?_⟩
  have hv : ((n / 4 % 524288 + 262144) % 524288 - 262144) * 4 = n := by omega
  have h1 : 0 ≤ n / 4 % 524288 ∧ n / 4 % 524288 < 524288 := by omega
  have hww := cbz_word h4
  generalize n / 4 % 524288 = x at *
  generalize hW : 3019898880 + x * 32 = W at *
  have h : 0 ≤ W ∧ W < 4294967296 := by omega
  have e1 : getOf rCbz.m W = n := (get_B19 W).trans (by rw [show W / 32 % 524288 = x by omega]; exact hv)
  have e2 : getOf rCbz.a W = .ofNat 0 := (get_R0 W).trans (by rw [natB]; omega)
  have hit : arHit W rCbz = true := hit_at rfl (by simp only [get_N, e1, e2]; exact cbz_flt.1 hn.1 hn.2 h4) (by simp only [get_N, e1, e2]; exact hww)
  have r := ar_of (find_row (known8 h (i := 180) (by omega)) cbz_at cbz_pre hit)
  rw [e1, e2] at r
  simp only [get_N] at r
  exact ⟨h, r⟩
end
end Go.Proofs.YtpmlihmaodpmfaaGreatDoor
