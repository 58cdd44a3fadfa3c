/- RelocHalves' tree is true at every register and all addresses. -/
import Derived.Test.YtpmlihmaodpmfaaGreatDoorHalvesLaw
import Derived.KernelRfl
namespace Go.Proofs.YtpmlihmaodpmfaaGreatDoor
open Go Go.Vai
noncomputable section
set_option maxRecDepth 100000
theorem p52 : ((2 ^ 52 : Nat) : Int) = 4503599627370496 := rfl
theorem rlLow_v (s p : Int) : rlLowV s p = shrI (wrapR .i64 (wrapR .u64 (shlI s 52))) 52 := rfl
theorem rlHigh_v (s p : Int) : rlHighV s p = shrI (wrapR .i64 (wrapR .u64 (Int.sub s (wrapR .u64 (shrI (wrapR .i64 (wrapR .u64 (shlI s 52))) 52))))) 12 := rfl
theorem rlLow12_v (s p : Int) : rlLow12V s p = wrapR .i64 (wrapR .u64 (andI .u64 s (.ofNat 4095))) := rfl
theorem rlPages_v (s p : Int) : rlPagesV s p = shrI (wrapR .i64 (wrapR .u64 (Int.sub (wrapR .u64 (andNotI .u64 s (.ofNat 4095))) (wrapR .u64 (andNotI .u64 p (.ofNat 4095)))))) 12 := rfl
theorem low_eq {S : Nat} (P : Int) : rlLowV (.ofNat S) P = ((S : Int) + 2048) % 4096 - 2048 := by
  rw [rlLow_v]
  simp only [wrapB_u64, wrapB_i64, shlB, shrB, p52, natB]
  omega
theorem high_eq {S : Nat} (hS : S < 1073741824) (P : Int) : rlHighV (.ofNat S) P = ((S : Int) + 2048) / 4096 := by
  have h := low_eq (S := S) P
  rw [rlLow_v] at h
  rw [rlHigh_v, h]
  simp only [wrapB_u64, wrapB_i64, shrB, subB, p12, natB]
  omega
theorem low12_eq {S : Nat} (P : Int) : rlLow12V (.ofNat S) P = (S : Int) % 4096 := by
  rw [rlLow12_v, andB 12 rfl (by decide)]
  simp only [wrapB_u64, wrapB_i64, p12, natB]
  omega
theorem pages_eq {S P : Nat} (hS : S < 1073741824) (hP : P < 1073741824) : rlPagesV (.ofNat S) (.ofNat P) = (S : Int) / 4096 - (P : Int) / 4096 := by
  rw [rlPages_v, andNot12 (by omega), andNot12 (by omega)]
  simp only [wrapB_u64, wrapB_i64, shrB, subB, p12, natB]
  omega
theorem three {W : Int} (h : W % 4 = 3) : ieq (wrapR .u8 (andI .u8 (wrapR .u8 W) (.ofNat 3))) (.ofNat 3) = true := by
  rw [andB (kd := .u8) 2 rfl (by decide), p2, wrapB_u8, wrapB_u8, ieqB, decide_eq_true_iff, natB]
  omega
theorem lui_pack (a : Nat) (n d : Int) (ha : a < 32) (hn : -524288 ≤ n ∧ n ≤ 524287) : ∃ W, rvWordE [108, 117, 105] (.ofNat 6) (.ofNat 55) [108, 117, 105] (.ofNat a) (.ofNat 0) (.ofNat 0) d n = W ∧ (0 ≤ W ∧ W < 4294967296) ∧ W % 4 = 3 ∧ rvDN W = [108, 117, 105] ∧ rvDA W = .ofNat a ∧ rvDB W = .ofNat 0 ∧ rvDC W = .ofNat 0 ∧ rvDD W = .ofNat 0 ∧ rvDI W = n ∧ rvDE W = .ofNat 0 := by
  have ha' : 0 ≤ (a : Int) ∧ (a : Int) < 32 := by omega
  exact ⟨_, word_U (by decide) ha', by simp only [natB]; omega, by simp only [natB]; omega, lui_dec ha' hn⟩
theorem addi_pack (a b : Nat) (n d : Int) (ha : a < 32) (hb : b < 32) (hn : -2048 ≤ n ∧ n ≤ 2047) : ∃ W, rvWordE [97, 100, 100, 105] (.ofNat 1) (.ofNat 19) [97, 100, 100, 105] (.ofNat a) (.ofNat b) (.ofNat 0) d n = W ∧ (0 ≤ W ∧ W < 4294967296) ∧ W % 4 = 3 ∧ rvDN W = [97, 100, 100, 105] ∧ rvDA W = .ofNat a ∧ rvDB W = .ofNat b ∧ rvDC W = .ofNat 0 ∧ rvDD W = .ofNat 0 ∧ rvDI W = n ∧ rvDE W = .ofNat 0 := by
  have ha' : 0 ≤ (a : Int) ∧ (a : Int) < 32 := by omega
  have hb' : 0 ≤ (b : Int) ∧ (b : Int) < 32 := by omega
  exact ⟨_, word_I (by decide) ha' hb', by simp only [natB]; omega, by simp only [natB]; omega, addi_dec ha' hb' hn⟩
theorem adrp_pack (a : Nat) (n : Int) (ha : a < 32) (hn : -1048576 ≤ n ∧ n ≤ 1048575) : ∃ W, arBitsV [97, 100, 114, 112] (.ofNat 2415919104) (.ofNat 0) (.ofNat 5) (.ofNat 1) (.ofNat 1) (.ofNat 0) (.ofNat 31) (.ofNat 0) (.ofNat 0) (.ofNat 0) (.ofNat 0) (.ofNat 0) (.ofNat 0) (.ofNat 0) (.ofNat 0) (.ofNat 0) (.ofNat 0) (.ofNat 0) (.ofNat 0) (.ofNat 0) (.ofNat 0) (.ofNat 0) (.ofNat 0) (.ofNat 0) (.ofNat 0) (.ofNat 0) (.ofNat 0) (.ofNat 2) (.ofNat 1) (.negSucc 1048575) (.ofNat 1048575) [65, 106] [97, 100, 114, 112] (.ofNat a) (.ofNat 0) (.ofNat 0) (.ofNat 0) n = W ∧ (0 ≤ W ∧ W < 4294967296) ∧ arDN W = [97, 100, 114, 112] ∧ arDA W = .ofNat a ∧ arDB W = .ofNat 0 ∧ arDC W = .ofNat 0 ∧ arDD W = .ofNat 0 ∧ arDI W = n ∧ arDE W = .ofNat 0 := by
  have ha' : 0 ≤ (a : Int) ∧ (a : Int) < 32 := by omega
  exact ⟨_, (bits_eq rAdrp rfl _ _ _ _ _ _).trans (adrp_word (a := (a : Int)) (n := n) ha'), by omega, adrp_dec ha' hn rfl⟩
theorem addI_pack (a b : Nat) (m : Int) (ha : a < 32) (hb : b < 32) (hm : 0 ≤ m ∧ m < 4096) : ∃ W, arBitsV [97, 100, 100, 46, 105] (.ofNat 2432696320) (.ofNat 0) (.ofNat 5) (.ofNat 1) (.ofNat 1) (.ofNat 0) (.ofNat 31) (.ofNat 5) (.ofNat 5) (.ofNat 1) (.ofNat 1) (.ofNat 0) (.ofNat 31) (.ofNat 0) (.ofNat 0) (.ofNat 0) (.ofNat 0) (.ofNat 0) (.ofNat 0) (.ofNat 22) (.ofNat 1) (.ofNat 1) (.ofNat 1) (.ofNat 0) (.ofNat 1) (.ofNat 10) (.ofNat 12) (.ofNat 1) (.ofNat 1) (.ofNat 0) (.ofNat 4095) [65, 66, 105, 115] [97, 100, 100, 46, 105] (.ofNat a) (.ofNat b) (.ofNat 0) (.ofNat 0) m = W ∧ (0 ≤ W ∧ W < 4294967296) ∧ arDN W = [97, 100, 100, 46, 105] ∧ arDA W = .ofNat a ∧ arDB W = .ofNat b ∧ arDC W = .ofNat 0 ∧ arDD W = .ofNat 0 ∧ arDI W = m ∧ arDE W = .ofNat 0 := by
  have ha' : 0 ≤ (a : Int) ∧ (a : Int) < 32 := by omega
  have hb' : 0 ≤ (b : Int) ∧ (b : Int) < 32 := by omega
  exact ⟨_, (bits_eq rAddI rfl _ _ _ _ _ _).trans (addI_word (a := (a : Int)) (b := (b : Int)) (d := 0) (m := m) ha' hb' (by decide) hm), by omega, addI_dec ha' hb' (d := 0) (by decide) hm rfl⟩
set_option maxHeartbeats 2000000 in
theorem halves_core (rvFault : List UInt8 → Int → Int → List UInt8 → Int → Int → Int → Int → Int → Int) (rvWordE : List UInt8 → Int → Int → List UInt8 → Int → Int → Int → Int → Int → Int) (arFault : List UInt8 → Int → Int → Int → Int → Int → Int → Int → Int → Int → Int → Int → Int → Int → Int → Int → Int → Int → Int → Int → Int → Int → Int → Int → Int → Int → Int → Int → Int → Int → Int → Int → List UInt8 → List UInt8 → Int → Int → Int → Int → Int → Int) (arBitsV : List UInt8 → Int → Int → Int → Int → Int → Int → Int → Int → Int → Int → Int → Int → Int → Int → Int → Int → Int → Int → Int → Int → Int → Int → Int → Int → Int → Int → Int → Int → Int → Int → Int → List UInt8 → List UInt8 → Int → Int → Int → Int → Int → Int) (rlNearV : Int → Int → Int) (rlLow12V : Int → Int → Int) (rlLowV : Int → Int → Int) (rlHighV : Int → Int → Int) (rlHighNearV : Int → Int → Int) (rlPagesV : Int → Int → Int) (rvDN : Int → List UInt8) (rvDA : Int → Int) (rvDB : Int → Int) (rvDC : Int → Int) (rvDD : Int → Int) (rvDI : Int → Int) (rvDS : Int → Int) (rvDE : Int → Int) (arDN : Int → List UInt8) (arDA : Int → Int) (arDB : Int → Int) (arDC : Int → Int) (arDD : Int → Int) (arDI : Int → Int) (arDS : Int → Int) (arDE : Int → Int) {s p a S P : Nat} {W1 W2 W3 W4 W5 W6 W7 W8 : Int} (h1 : 1 ≤ a) (h30 : a ≤ 30) (eS : Int.tmod (.ofNat s) (.ofNat 1073741824) = .ofNat S) (eP : wrapR .u64 (Int.mul (wrapR .u64 (Int.tdiv (Int.tmod (.ofNat p) (.ofNat 1073741824)) (.ofNat 4))) (.ofNat 4)) = .ofNat P)
    (b1 : 0 ≤ W1 ∧ W1 < 4294967296)
    (b2 : 0 ≤ W2 ∧ W2 < 4294967296)
    (b3 : 0 ≤ W3 ∧ W3 < 4294967296)
    (b4 : 0 ≤ W4 ∧ W4 < 4294967296)
    (b5 : 0 ≤ W5 ∧ W5 < 4294967296)
    (b6 : 0 ≤ W6 ∧ W6 < 4294967296)
    (b7 : 0 ≤ W7 ∧ W7 < 4294967296)
    (b8 : 0 ≤ W8 ∧ W8 < 4294967296)
    (w1 : rvWordE [108, 117, 105] (.ofNat 6) (.ofNat 55) [108, 117, 105] (.ofNat a) (.ofNat 0) (.ofNat 0) (.ofNat 0) (.ofNat 0) = W1)
    (w2 : rvWordE [108, 117, 105] (.ofNat 6) (.ofNat 55) [108, 117, 105] (.ofNat a) (.ofNat 0) (.ofNat 0) (.ofNat 0) (rlHighV (.ofNat S) (.ofNat P)) = W2)
    (w3 : rvWordE [97, 100, 100, 105] (.ofNat 1) (.ofNat 19) [97, 100, 100, 105] (.ofNat a) (.ofNat a) (.ofNat 0) (.ofNat 0) (.ofNat 0) = W3)
    (w4 : rvWordE [97, 100, 100, 105] (.ofNat 1) (.ofNat 19) [97, 100, 100, 105] (.ofNat a) (.ofNat a) (.ofNat 0) (.ofNat 0) (rlLowV (.ofNat S) (.ofNat P)) = W4)
    (w5 : arBitsV [97, 100, 114, 112] (.ofNat 2415919104) (.ofNat 0) (.ofNat 5) (.ofNat 1) (.ofNat 1) (.ofNat 0) (.ofNat 31) (.ofNat 0) (.ofNat 0) (.ofNat 0) (.ofNat 0) (.ofNat 0) (.ofNat 0) (.ofNat 0) (.ofNat 0) (.ofNat 0) (.ofNat 0) (.ofNat 0) (.ofNat 0) (.ofNat 0) (.ofNat 0) (.ofNat 0) (.ofNat 0) (.ofNat 0) (.ofNat 0) (.ofNat 0) (.ofNat 0) (.ofNat 2) (.ofNat 1) (.negSucc 1048575) (.ofNat 1048575) [65, 106] [97, 100, 114, 112] (.ofNat a) (.ofNat 0) (.ofNat 0) (.ofNat 0) (.ofNat 0) = W5)
    (w6 : arBitsV [97, 100, 114, 112] (.ofNat 2415919104) (.ofNat 0) (.ofNat 5) (.ofNat 1) (.ofNat 1) (.ofNat 0) (.ofNat 31) (.ofNat 0) (.ofNat 0) (.ofNat 0) (.ofNat 0) (.ofNat 0) (.ofNat 0) (.ofNat 0) (.ofNat 0) (.ofNat 0) (.ofNat 0) (.ofNat 0) (.ofNat 0) (.ofNat 0) (.ofNat 0) (.ofNat 0) (.ofNat 0) (.ofNat 0) (.ofNat 0) (.ofNat 0) (.ofNat 0) (.ofNat 2) (.ofNat 1) (.negSucc 1048575) (.ofNat 1048575) [65, 106] [97, 100, 114, 112] (.ofNat a) (.ofNat 0) (.ofNat 0) (.ofNat 0) (rlPagesV (.ofNat S) (.ofNat P)) = W6)
    (w7 : arBitsV [97, 100, 100, 46, 105] (.ofNat 2432696320) (.ofNat 0) (.ofNat 5) (.ofNat 1) (.ofNat 1) (.ofNat 0) (.ofNat 31) (.ofNat 5) (.ofNat 5) (.ofNat 1) (.ofNat 1) (.ofNat 0) (.ofNat 31) (.ofNat 0) (.ofNat 0) (.ofNat 0) (.ofNat 0) (.ofNat 0) (.ofNat 0) (.ofNat 22) (.ofNat 1) (.ofNat 1) (.ofNat 1) (.ofNat 0) (.ofNat 1) (.ofNat 10) (.ofNat 12) (.ofNat 1) (.ofNat 1) (.ofNat 0) (.ofNat 4095) [65, 66, 105, 115] [97, 100, 100, 46, 105] (.ofNat a) (.ofNat a) (.ofNat 0) (.ofNat 0) (.ofNat 0) = W7)
    (w8 : arBitsV [97, 100, 100, 46, 105] (.ofNat 2432696320) (.ofNat 0) (.ofNat 5) (.ofNat 1) (.ofNat 1) (.ofNat 0) (.ofNat 31) (.ofNat 5) (.ofNat 5) (.ofNat 1) (.ofNat 1) (.ofNat 0) (.ofNat 31) (.ofNat 0) (.ofNat 0) (.ofNat 0) (.ofNat 0) (.ofNat 0) (.ofNat 0) (.ofNat 22) (.ofNat 1) (.ofNat 1) (.ofNat 1) (.ofNat 0) (.ofNat 1) (.ofNat 10) (.ofNat 12) (.ofNat 1) (.ofNat 1) (.ofNat 0) (.ofNat 4095) [65, 66, 105, 115] [97, 100, 100, 46, 105] (.ofNat a) (.ofNat a) (.ofNat 0) (.ofNat 0) (rlLow12V (.ofNat S) (.ofNat P)) = W8)
    (f1 : rvFault [108, 117, 105] (.ofNat 6) (.ofNat 55) [108, 117, 105] (.ofNat a) (.ofNat 0) (.ofNat 0) (.ofNat 0) (.ofNat 0) = .ofNat 0)
    (f2 : rvFault [108, 117, 105] (.ofNat 6) (.ofNat 55) [108, 117, 105] (.ofNat a) (.ofNat 0) (.ofNat 0) (.ofNat 0) (rlHighV (.ofNat S) (.ofNat P)) = .ofNat 0)
    (f3 : rvFault [97, 100, 100, 105] (.ofNat 1) (.ofNat 19) [97, 100, 100, 105] (.ofNat a) (.ofNat a) (.ofNat 0) (.ofNat 0) (.ofNat 0) = .ofNat 0)
    (f4 : rvFault [97, 100, 100, 105] (.ofNat 1) (.ofNat 19) [97, 100, 100, 105] (.ofNat a) (.ofNat a) (.ofNat 0) (.ofNat 0) (rlLowV (.ofNat S) (.ofNat P)) = .ofNat 0)
    (f5 : arFault [97, 100, 114, 112] (.ofNat 2415919104) (.ofNat 0) (.ofNat 5) (.ofNat 1) (.ofNat 1) (.ofNat 0) (.ofNat 31) (.ofNat 0) (.ofNat 0) (.ofNat 0) (.ofNat 0) (.ofNat 0) (.ofNat 0) (.ofNat 0) (.ofNat 0) (.ofNat 0) (.ofNat 0) (.ofNat 0) (.ofNat 0) (.ofNat 0) (.ofNat 0) (.ofNat 0) (.ofNat 0) (.ofNat 0) (.ofNat 0) (.ofNat 0) (.ofNat 0) (.ofNat 2) (.ofNat 1) (.negSucc 1048575) (.ofNat 1048575) [65, 106] [97, 100, 114, 112] (.ofNat a) (.ofNat 0) (.ofNat 0) (.ofNat 0) (.ofNat 0) = .ofNat 0)
    (f6 : arFault [97, 100, 114, 112] (.ofNat 2415919104) (.ofNat 0) (.ofNat 5) (.ofNat 1) (.ofNat 1) (.ofNat 0) (.ofNat 31) (.ofNat 0) (.ofNat 0) (.ofNat 0) (.ofNat 0) (.ofNat 0) (.ofNat 0) (.ofNat 0) (.ofNat 0) (.ofNat 0) (.ofNat 0) (.ofNat 0) (.ofNat 0) (.ofNat 0) (.ofNat 0) (.ofNat 0) (.ofNat 0) (.ofNat 0) (.ofNat 0) (.ofNat 0) (.ofNat 0) (.ofNat 2) (.ofNat 1) (.negSucc 1048575) (.ofNat 1048575) [65, 106] [97, 100, 114, 112] (.ofNat a) (.ofNat 0) (.ofNat 0) (.ofNat 0) (rlPagesV (.ofNat S) (.ofNat P)) = .ofNat 0)
    (f7 : arFault [97, 100, 100, 46, 105] (.ofNat 2432696320) (.ofNat 0) (.ofNat 5) (.ofNat 1) (.ofNat 1) (.ofNat 0) (.ofNat 31) (.ofNat 5) (.ofNat 5) (.ofNat 1) (.ofNat 1) (.ofNat 0) (.ofNat 31) (.ofNat 0) (.ofNat 0) (.ofNat 0) (.ofNat 0) (.ofNat 0) (.ofNat 0) (.ofNat 22) (.ofNat 1) (.ofNat 1) (.ofNat 1) (.ofNat 0) (.ofNat 1) (.ofNat 10) (.ofNat 12) (.ofNat 1) (.ofNat 1) (.ofNat 0) (.ofNat 4095) [65, 66, 105, 115] [97, 100, 100, 46, 105] (.ofNat a) (.ofNat a) (.ofNat 0) (.ofNat 0) (.ofNat 0) = .ofNat 0)
    (f8 : arFault [97, 100, 100, 46, 105] (.ofNat 2432696320) (.ofNat 0) (.ofNat 5) (.ofNat 1) (.ofNat 1) (.ofNat 0) (.ofNat 31) (.ofNat 5) (.ofNat 5) (.ofNat 1) (.ofNat 1) (.ofNat 0) (.ofNat 31) (.ofNat 0) (.ofNat 0) (.ofNat 0) (.ofNat 0) (.ofNat 0) (.ofNat 0) (.ofNat 22) (.ofNat 1) (.ofNat 1) (.ofNat 1) (.ofNat 0) (.ofNat 1) (.ofNat 10) (.ofNat 12) (.ofNat 1) (.ofNat 1) (.ofNat 0) (.ofNat 4095) [65, 66, 105, 115] [97, 100, 100, 46, 105] (.ofNat a) (.ofNat a) (.ofNat 0) (.ofNat 0) (rlLow12V (.ofNat S) (.ofNat P)) = .ofNat 0)
    (t1 : W1 % 4 = 3)
    (t2 : W2 % 4 = 3)
    (t3 : W3 % 4 = 3)
    (t4 : W4 % 4 = 3)
    (n1 : rvDN W1 = [108, 117, 105])
    (r1 : rvDA W1 = .ofNat a)
    (q1 : rvDB W1 = .ofNat 0)
    (c1 : rvDC W1 = .ofNat 0)
    (d1 : rvDD W1 = .ofNat 0)
    (z1 : rvDE W1 = .ofNat 0)
    (n3 : rvDN W3 = [97, 100, 100, 105])
    (r3 : rvDA W3 = .ofNat a)
    (q3 : rvDB W3 = .ofNat a)
    (c3 : rvDC W3 = .ofNat 0)
    (d3 : rvDD W3 = .ofNat 0)
    (z3 : rvDE W3 = .ofNat 0)
    (n5 : arDN W5 = [97, 100, 114, 112])
    (r5 : arDA W5 = .ofNat a)
    (q5 : arDB W5 = .ofNat 0)
    (c5 : arDC W5 = .ofNat 0)
    (d5 : arDD W5 = .ofNat 0)
    (z5 : arDE W5 = .ofNat 0)
    (n7 : arDN W7 = [97, 100, 100, 46, 105])
    (r7 : arDA W7 = .ofNat a)
    (q7 : arDB W7 = .ofNat a)
    (c7 : arDC W7 = .ofNat 0)
    (d7 : arDD W7 = .ofNat 0)
    (z7 : arDE W7 = .ofNat 0)
    (i2 : rvDI W2 = (rlHighV (.ofNat S) (.ofNat P)))
    (i4 : rvDI W4 = (rlLowV (.ofNat S) (.ofNat P)))
    (i6 : arDI W6 = (rlPagesV (.ofNat S) (.ofNat P)))
    (i8 : arDI W8 = (rlLow12V (.ofNat S) (.ofNat P)))
    (fin1 : ieq (wrapR .u64 (wrapR .i64 (Int.add (wrapR .i64 (shlI (rlHighV (.ofNat S) (.ofNat P)) 12)) (rlLowV (.ofNat S) (.ofNat P))))) (.ofNat S) = true) (fin2 : ieq (wrapR .u64 (Int.add (wrapR .u64 (Int.add (wrapR .u64 (Int.sub (.ofNat P) (Int.tmod (.ofNat P) (.ofNat 4096)))) (wrapR .u64 (wrapR .i64 (shlI (rlPagesV (.ofNat S) (.ofNat P)) 12))))) (wrapR .u64 (rlLow12V (.ofNat S) (.ofNat P))))) (.ofNat S) = true) : halvesT rvFault rvWordE arFault arBitsV rlNearV rlLow12V rlLowV rlHighV rlHighNearV rlPagesV rvDN rvDA rvDB rvDC rvDD rvDI rvDS rvDE arDN arDA arDB arDC arDD arDI arDS arDE s p a = some (.bool true) := by
  unfold halvesT
  simp only [eS, eP, w1, w3, w5, w7, f1, f3, f5, f7, word4_of b1, word4_of b3, word4_of b5, word4_of b7, n1, r1, q1, c1, d1, z1, n3, r3, q3, c3, d3, z3, n5, r5, q5, c5, d5, z5, n7, r7, q7, c7, d7, z7, w2, w4, w6, w8, f2, f4, f6, f8, word4_of b2, word4_of b4, word4_of b6, word4_of b8, i2, i4, i6, i8, three t1, three t2, three t3, three t4, fin1, fin2, blt_no h1, blt_no h30, show ieq (.ofNat 0) (.ofNat 0) = true from rfl, show ∀ l, leq l l = true from fun l => by rw [leq_iff]; simp, Bool.not_true, bc_true, bc_false]
theorem adrp_flt (a : Nat) (n : Int) (ha : a < 32) (hn : -1048576 ≤ n ∧ n ≤ 1048575) : arFault [97, 100, 114, 112] (.ofNat 2415919104) (.ofNat 0) (.ofNat 5) (.ofNat 1) (.ofNat 1) (.ofNat 0) (.ofNat 31) (.ofNat 0) (.ofNat 0) (.ofNat 0) (.ofNat 0) (.ofNat 0) (.ofNat 0) (.ofNat 0) (.ofNat 0) (.ofNat 0) (.ofNat 0) (.ofNat 0) (.ofNat 0) (.ofNat 0) (.ofNat 0) (.ofNat 0) (.ofNat 0) (.ofNat 0) (.ofNat 0) (.ofNat 0) (.ofNat 0) (.ofNat 2) (.ofNat 1) (.negSucc 1048575) (.ofNat 1048575) [65, 106] [97, 100, 114, 112] (.ofNat a) (.ofNat 0) (.ofNat 0) (.ofNat 0) n = .ofNat 0 := adrp_fault (a := .ofNat a) (by rw [natB]; omega) hn
theorem addI_flt (a b : Nat) (m : Int) (ha : a < 32) (hb : b < 32) (hm : 0 ≤ m ∧ m < 4096) : arFault [97, 100, 100, 46, 105] (.ofNat 2432696320) (.ofNat 0) (.ofNat 5) (.ofNat 1) (.ofNat 1) (.ofNat 0) (.ofNat 31) (.ofNat 5) (.ofNat 5) (.ofNat 1) (.ofNat 1) (.ofNat 0) (.ofNat 31) (.ofNat 0) (.ofNat 0) (.ofNat 0) (.ofNat 0) (.ofNat 0) (.ofNat 0) (.ofNat 22) (.ofNat 1) (.ofNat 1) (.ofNat 1) (.ofNat 0) (.ofNat 1) (.ofNat 10) (.ofNat 12) (.ofNat 1) (.ofNat 1) (.ofNat 0) (.ofNat 4095) [65, 66, 105, 115] [97, 100, 100, 46, 105] (.ofNat a) (.ofNat b) (.ofNat 0) (.ofNat 0) m = .ofNat 0 := addI_fault (a := .ofNat a) (b := .ofNat b) (d := .ofNat 0) (by rw [natB]; omega) (by rw [natB]; omega) (by decide) hm
theorem lui_flt (a : Nat) (n : Int) (ha : a < 32) (hn : -524288 ≤ n ∧ n ≤ 524287) : rvFault [108, 117, 105] (.ofNat 6) (.ofNat 55) [108, 117, 105] (.ofNat a) (.ofNat 0) (.ofNat 0) (.ofNat 0) n = .ofNat 0 := lui_fault (a := .ofNat a) (by rw [natB]; omega) hn
theorem addi_flt (a b : Nat) (n : Int) (ha : a < 32) (hb : b < 32) (hn : -2048 ≤ n ∧ n ≤ 2047) : rvFault [97, 100, 100, 105] (.ofNat 1) (.ofNat 19) [97, 100, 100, 105] (.ofNat a) (.ofNat b) (.ofNat 0) (.ofNat 0) n = .ofNat 0 := addi_fault (a := .ofNat a) (b := .ofNat b) (by rw [natB]; omega) (by rw [natB]; omega) hn
theorem sum1 {S : Nat} {h l : Int} (hS : S < 1073741824) (eh : h = ((S : Int) + 2048) / 4096) (el : l = ((S : Int) + 2048) % 4096 - 2048) : ieq (wrapR .u64 (wrapR .i64 (Int.add (wrapR .i64 (shlI h 12)) l))) (.ofNat S) = true := by
  rw [ieqB, decide_eq_true_iff]
  simp only [wrapB_u64, wrapB_i64, shlB, addB, p12, natB]
  omega
theorem sum2 {S P : Nat} {g w : Int} (hS : S < 1073741824) (hP : P < 1073741824) (eg : g = (S : Int) / 4096 - (P : Int) / 4096) (ew : w = (S : Int) % 4096) : ieq (wrapR .u64 (Int.add (wrapR .u64 (Int.add (wrapR .u64 (Int.sub (.ofNat P) (Int.tmod (.ofNat P) (.ofNat 4096)))) (wrapR .u64 (wrapR .i64 (shlI g 12))))) (wrapR .u64 w))) (.ofNat S) = true := by
  have e1 : wrapR .u64 (Int.sub (.ofNat P) (Int.tmod (.ofNat P) (.ofNat 4096))) = ((P / 4096 * 4096 : Nat) : Int) := by
    rw [tmod_nat, subB, wrapB_u64, natB, natB]
    omega
  rw [e1, ieqB, decide_eq_true_iff]
  simp only [wrapB_u64, wrapB_i64, shlB, addB, p12, natB]
  omega
set_option maxHeartbeats 2000000 in
theorem halves_true {s p a : Nat} (h1 : 1 ≤ a) (h30 : a ≤ 30) : halvesT rvFault rvWordE arFault arBitsV rlNearV rlLow12V rlLowV rlHighV rlHighNearV rlPagesV rvDN rvDA rvDB rvDC rvDD rvDI rvDS rvDE arDN arDA arDB arDC arDD arDI arDS arDE s p a = some (.bool true) := by
  have hS : s % 1073741824 < 1073741824 := Nat.mod_lt _ (by decide)
  have hPn : p % 1073741824 / 4 * 4 < 1073741824 := by have := Nat.mod_lt p (show 0 < 1073741824 by decide); omega
  have eS : Int.tmod (.ofNat s) (.ofNat 1073741824) = .ofNat (s % 1073741824) := tmod_nat _ _
  have eP : wrapR .u64 (Int.mul (wrapR .u64 (Int.tdiv (Int.tmod (.ofNat p) (.ofNat 1073741824)) (.ofNat 4))) (.ofNat 4)) = .ofNat (p % 1073741824 / 4 * 4) := by
    rw [tmod_nat, tdiv_nat, wrap_u64 (by omega), mul_nat, wrap_u64 (by omega)]
  generalize s % 1073741824 = S at hS eS
  generalize p % 1073741824 / 4 * 4 = P at hPn eP
  have ha : a < 32 := by omega
  have eH := high_eq hS (.ofNat P)
  have eL := low_eq (S := S) (.ofNat P)
  have eG := pages_eq hS hPn
  have eW := low12_eq (S := S) (.ofNat P)
  have hH : -524288 ≤ rlHighV (.ofNat S) (.ofNat P) ∧ rlHighV (.ofNat S) (.ofNat P) ≤ 524287 := by rw [eH]; omega
  have hL : -2048 ≤ rlLowV (.ofNat S) (.ofNat P) ∧ rlLowV (.ofNat S) (.ofNat P) ≤ 2047 := by rw [eL]; omega
  have hG : -1048576 ≤ rlPagesV (.ofNat S) (.ofNat P) ∧ rlPagesV (.ofNat S) (.ofNat P) ≤ 1048575 := by rw [eG]; omega
  have hW : 0 ≤ rlLow12V (.ofNat S) (.ofNat P) ∧ rlLow12V (.ofNat S) (.ofNat P) < 4096 := by rw [eW]; omega
  have fin1 := sum1 hS eH eL
  have fin2 := sum2 hS hPn eG eW
  obtain ⟨W1, w1, b1, t1, n1, r1, q1, c1, d1, _, z1⟩ := lui_pack a (.ofNat 0) (.ofNat 0) ha (by decide)
  obtain ⟨W2, w2, b2, t2, _, _, _, _, _, i2, _⟩ := lui_pack a (rlHighV (.ofNat S) (.ofNat P)) (.ofNat 0) ha hH
  obtain ⟨W3, w3, b3, t3, n3, r3, q3, c3, d3, _, z3⟩ := addi_pack a a (.ofNat 0) (.ofNat 0) ha ha (by decide)
  obtain ⟨W4, w4, b4, t4, _, _, _, _, _, i4, _⟩ := addi_pack a a (rlLowV (.ofNat S) (.ofNat P)) (.ofNat 0) ha ha hL
  obtain ⟨W5, w5, b5, n5, r5, q5, c5, d5, _, z5⟩ := adrp_pack a (.ofNat 0) ha (by decide)
  obtain ⟨W6, w6, b6, _, _, _, _, _, i6, _⟩ := adrp_pack a (rlPagesV (.ofNat S) (.ofNat P)) ha hG
  obtain ⟨W7, w7, b7, n7, r7, q7, c7, d7, _, z7⟩ := addI_pack a a (.ofNat 0) ha ha (by decide)
  obtain ⟨W8, w8, b8, _, _, _, _, _, i8, _⟩ := addI_pack a a (rlLow12V (.ofNat S) (.ofNat P)) ha ha hW
  have f1 := lui_flt a (.ofNat 0) ha (by decide)
  have f2 := lui_flt a _ ha hH
  have f3 := addi_flt a a (.ofNat 0) ha ha (by decide)
  have f4 := addi_flt a a _ ha ha hL
  have f5 := adrp_flt a (.ofNat 0) ha (by decide)
  have f6 := adrp_flt a _ ha hG
  have f7 := addI_flt a a (.ofNat 0) ha ha (by decide)
  have f8 := addI_flt a a _ ha ha hW
  exact halves_core rvFault rvWordE arFault arBitsV rlNearV rlLow12V rlLowV rlHighV rlHighNearV rlPagesV rvDN rvDA rvDB rvDC rvDD rvDI rvDS rvDE arDN arDA arDB arDC arDD arDI arDS arDE h1 h30 eS eP b1 b2 b3 b4 b5 b6 b7 b8 w1 w2 w3 w4 w5 w6 w7 w8 f1 f2 f3 f4 f5 f6 f7 f8 t1 t2 t3 t4 n1 r1 q1 c1 d1 z1 n3 r3 q3 c3 d3 z3 n5 r5 q5 c5 d5 z5 n7 r7 q7 c7 d7 z7 i2 i4 i6 i8 fin1 fin2
end
end Go.Proofs.YtpmlihmaodpmfaaGreatDoor
