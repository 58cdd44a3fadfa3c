/- RelocHalves' tree is true. -/
import Derived.Test.YtpmlihmaodpmfaaGreatDoorHalvesT
import Derived.Test.YtpmlihmaodpmfaaGreatDoorRvLaw
import Derived.Test.YtpmlihmaodpmfaaGreatDoorArLaw2
import Derived.KernelRfl
namespace Go.Proofs.YtpmlihmaodpmfaaGreatDoor
open Go Go.Vai
noncomputable section
set_option maxRecDepth 100000
theorem p2 : ((2 ^ 2 : Nat) : Int) = 4 := rfl
theorem p5 : ((2 ^ 5 : Nat) : Int) = 32 := rfl
theorem p10 : ((2 ^ 10 : Nat) : Int) = 1024 := rfl
theorem p22 : ((2 ^ 22 : Nat) : Int) = 4194304 := rfl
theorem p23 : ((2 ^ 23 : Nat) : Int) = 8388608 := rfl
theorem p24 : ((2 ^ 24 : Nat) : Int) = 16777216 := rfl
theorem p31 : ((2 ^ 31 : Nat) : Int) = 2147483648 := rfl
abbrev rAdrp : ArRow := ⟨[97, 100, 114, 112], .ofNat 2415919104, fR0, fN, fN, fN, fAp, [65, 106]⟩
abbrev rAddI : ArRow := ⟨[97, 100, 100, 46, 105], .ofNat 2432696320, fR0, fR5, fN, f22, fI12, [65, 66, 105, 115]⟩
theorem adrp_at : arRows[31]? = some rAdrp := by kernel_rfl
theorem addI_at : arRows[3]? = some rAddI := by kernel_rfl
theorem adrp_word {a n : Int} (ha : 0 ≤ a ∧ a < 32) : wordOf rAdrp a (.ofNat 0) (.ofNat 0) (.ofNat 0) n = 2415919104 + a + n % 4 * 536870912 + n / 4 % 524288 * 32 := by
  show wrapR .u32 (orI .u32 (wrapR .u32 (orI .u32 (wrapR .u32 (orI .u32 (wrapR .u32 (orI .u32 (wrapR .u32 (orI .u32 (.ofNat 2415919104) (putOf fR0 a))) (putOf fN _))) (putOf fN _))) (putOf fN _))) (putOf fAp n)) = _
  have e1 : wrapR .u32 (orI .u32 (.ofNat 2415919104) (putOf fR0 a)) = 2415919104 + a := by
    rw [put_R0, wrapB_u32, orHi (kd := .u32) 5 (by omega) (by rw [p5]; omega) (by decide) (by decide) (by decide) (by decide), natB]
    omega
  have z : ∀ x : Int, 0 ≤ x → x < 4294967296 → wrapR .u32 (orI .u32 x (.ofNat 0)) = x := fun x h1 h2 => by
    rw [or0 h1 (by rw [p32]; exact h2), wrapB_u32]; omega
  simp only [put_N]
  rw [e1, z (2415919104 + a) (by omega) (by omega), z (2415919104 + a) (by omega) (by omega), z (2415919104 + a) (by omega) (by omega), put_Ap]
  rw [← orHi (kd := .u32) (x := n % 4 * 536870912) (y := n / 4 % 524288 * 32) 29 (by omega) (by rw [p29]; omega) (by omega) (by rw [p32]; omega) (by rw [p29]; omega) (by decide)]
  rw [orI_assoc]
  rw [orMid (kd := .u32) (x := 2415919104 + a) (y := n % 4 * 536870912) 29 31 (by omega) (by rw [p32]; omega) (by rw [p29, p31]; omega) (by omega) (by rw [p31]; omega) (by rw [p29]; omega) (by decide)]
  rw [orMid (kd := .u32) (x := 2415919104 + a + n % 4 * 536870912) (y := n / 4 % 524288 * 32) 5 24 (by omega) (by rw [p32]; omega) (by rw [p5, p24]; omega) (by omega) (by rw [p24]; omega) (by rw [p5]; omega) (by decide)]
  rw [wrapB_u32]
  omega
theorem addI_word {a b d m : Int} (ha : 0 ≤ a ∧ a < 32) (hb : 0 ≤ b ∧ b < 32) (hd : 0 ≤ d ∧ d < 2) (hm : 0 ≤ m ∧ m < 4096) : wordOf rAddI a b (.ofNat 0) d m = 2432696320 + a + b * 32 + d * 4194304 + m * 1024 := by
  show wrapR .u32 (orI .u32 (wrapR .u32 (orI .u32 (wrapR .u32 (orI .u32 (wrapR .u32 (orI .u32 (wrapR .u32 (orI .u32 (.ofNat 2432696320) (putOf fR0 a))) (putOf fR5 b))) (putOf fN _))) (putOf f22 d))) (putOf fI12 m)) = _
  have e1 : wrapR .u32 (orI .u32 (.ofNat 2432696320) (putOf fR0 a)) = 2432696320 + a := by
    rw [put_R0, wrapB_u32, orHi (kd := .u32) 5 (by omega) (by rw [p5]; omega) (by decide) (by decide) (by decide) (by decide), natB]
    omega
  simp only [put_N]
  rw [e1, put_R5, put_22, put_I12]
  rw [show b % 32 * 32 = b * 32 by omega, show d % 2 * 4194304 = d * 4194304 by omega, show m % 4096 * 1024 = m * 1024 by omega]
  rw [orMid (kd := .u32) (x := 2432696320 + a) (y := b * 32) 5 10 (by omega) (by rw [p32]; omega) (by rw [p5, p10]; omega) (by omega) (by rw [p10]; omega) (by rw [p5]; omega) (by decide)]
  rw [wrapB_u32 (2432696320 + a + b * 32), show (2432696320 + a + b * 32) % 4294967296 = 2432696320 + a + b * 32 by omega]
  rw [or0 (by omega) (by rw [p32]; omega), wrapB_u32 (2432696320 + a + b * 32), show (2432696320 + a + b * 32) % 4294967296 = 2432696320 + a + b * 32 by omega]
  rw [orMid (kd := .u32) (x := 2432696320 + a + b * 32) (y := d * 4194304) 22 23 (by omega) (by rw [p32]; omega) (by rw [p22, p23]; omega) (by omega) (by rw [p23]; omega) (by rw [p22]; omega) (by decide)]
  rw [wrapB_u32 (2432696320 + a + b * 32 + d * 4194304), show (2432696320 + a + b * 32 + d * 4194304) % 4294967296 = 2432696320 + a + b * 32 + d * 4194304 by omega]
  rw [orMid (kd := .u32) (x := 2432696320 + a + b * 32 + d * 4194304) (y := m * 1024) 10 22 (by omega) (by rw [p32]; omega) (by rw [p10, p22]; omega) (by omega) (by rw [p22]; omega) (by rw [p10]; omega) (by decide)]
  rw [wrapB_u32]
  omega
def kAdrp : List (Nat × Bool) := [(31, true), (28, true), (27, false), (26, false), (25, false), (24, false)]
def kAddI : List (Nat × Bool) := [(25, false)]
theorem adrp_pre : (arRows.take 31).all (conf kAdrp) = true := by kernel_rfl
theorem addI_pre : (arRows.take 3).all (conf kAddI) = true := by kernel_rfl
theorem adrp_fault {nm : List UInt8} {a n : Int} (ha : 0 ≤ a ∧ a < 32) (hn : -1048576 ≤ n ∧ n ≤ 1048575) : faultOf rAdrp nm a (.ofNat 0) (.ofNat 0) (.ofNat 0) n = .ofNat 0 := by
  refine fault_num (x := rAdrp) rfl (small_R0 ha) small_N small_N small_N rfl rfl ?_ ?_ rfl ?_
  · rw [iltB, decide_eq_false_iff_not]; show ¬ n < -1048576; omega
  · rw [iltB, decide_eq_false_iff_not]; show ¬ 1048575 < n; omega
  · show ieq (Int.tmod n (.ofNat 1)) _ = true; rw [tmod1]; rfl
theorem addI_fault {nm : List UInt8} {a b d m : Int} (ha : 0 ≤ a ∧ a < 32) (hb : 0 ≤ b ∧ b < 32) (hd : 0 ≤ d ∧ d < 2) (hm : 0 ≤ m ∧ m < 4096) : faultOf rAddI nm a b (.ofNat 0) d m = .ofNat 0 := by
  refine fault_num (x := rAddI) rfl (small_R0 ha) (small_R5 hb) small_N (small_22 hd) rfl rfl ?_ ?_ rfl ?_
  · rw [iltB, decide_eq_false_iff_not]; show ¬ m < 0; omega
  · rw [iltB, decide_eq_false_iff_not]; show ¬ 4095 < m; omega
  · show ieq (Int.tmod m (.ofNat 1)) _ = true; rw [tmod1]; rfl
theorem hit_of {w : Int} {x : ArRow} (hok : okRow x = true) (hf : faultOf x x.nm (getOf x.a w) (getOf x.b w) (getOf x.c w) (getOf x.d w) (getOf x.m w) = .ofNat 0) (hw : wordOf x (getOf x.a w) (getOf x.b w) (getOf x.c w) (getOf x.d w) (getOf x.m w) = w) : arHit w x = true := by
  unfold arHit
  rw [arW_eq hok, hw, Bool.and_eq_true]
  refine ⟨?_, by rw [ieqB]; simp⟩
  show ieq (faultOf x x.nm (getOf x.a w) (getOf x.b w) (getOf x.c w) (getOf x.d w) (getOf x.m w)) _ = true
  rw [hf]; rfl
theorem adrp_dec {a n w : Int} (ha : 0 ≤ a ∧ a < 32) (hn : -1048576 ≤ n ∧ n ≤ 1048575) (hw : w = 2415919104 + a + n % 4 * 536870912 + n / 4 % 524288 * 32) : arDN w = [97, 100, 114, 112] ∧ arDA w = a ∧ arDB w = .ofNat 0 ∧ arDC w = .ofNat 0 ∧ arDD w = .ofNat 0 ∧ arDI w = n ∧ arDE w = .ofNat 0 := by
  have hww : wordOf rAdrp a (.ofNat 0) (.ofNat 0) (.ofNat 0) n = w := (adrp_word ha).trans hw.symm
  have h : 0 ≤ w ∧ w < 4294967296 := by omega
  have k0 : 0 ≤ n % 4 ∧ n % 4 < 4 := by omega
  have k1 : 0 ≤ n / 4 % 524288 ∧ n / 4 % 524288 < 524288 := by omega
  have k2 : (n / 4 % 524288 * 4 + n % 4 + 1048576) % 2097152 - 1048576 = n := by omega
  generalize n % 4 = g at *
  generalize n / 4 % 524288 = f at *
  have h5 : w / 32 = 75497472 + g * 16777216 + f := by omega
  have h29 : w / 536870912 = 4 + g := by omega
  have h28 : w / 268435456 = 9 + g * 2 := by omega
  have h27 : w / 134217728 = 18 + g * 4 := by omega
  have h26 : w / 67108864 = 36 + g * 8 := by omega
  have h25 : w / 33554432 = 72 + g * 16 := by omega
  have h24 : w / 16777216 = 144 + g * 32 := by omega
  have e1 : getOf rAdrp.a w = a := (get_R0 w).trans (by omega)
  have e2 : getOf rAdrp.m w = n := (get_Ap w h).trans (by rw [h5, h29, show (75497472 + g * 16777216 + f) % 524288 = f by omega, show (4 + g) % 4 = g by omega]; exact k2)
  have hit : arHit w rAdrp = true := hit_of rfl (by rw [e1, e2]; exact adrp_fault ha hn) (by rw [e1, e2]; exact hww)
  have hk : ∀ k ∈ kAdrp, (bw w).testBit k.1 = k.2 := by
    intro k hk
    simp only [kAdrp, List.mem_cons, List.not_mem_nil, or_false] at hk
    rcases hk with rfl | rfl | rfl | rfl | rfl | rfl <;> refine known_bit h _ _ ?_
    · show w / 2147483648 % 2 = 1; omega
    · show w / 268435456 % 2 = 1; rw [h28]; omega
    · show w / 134217728 % 2 = 0; rw [h27]; omega
    · show w / 67108864 % 2 = 0; rw [h26]; omega
    · show w / 33554432 % 2 = 0; rw [h25]; omega
    · show w / 16777216 % 2 = 0; rw [h24]; omega
  have r := ar_of (find_row hk adrp_at adrp_pre hit)
  rw [e1, e2] at r
  exact r
theorem addI_dec {a b d m w : Int} (ha : 0 ≤ a ∧ a < 32) (hb : 0 ≤ b ∧ b < 32) (hd : 0 ≤ d ∧ d < 2) (hm : 0 ≤ m ∧ m < 4096) (hw : w = 2432696320 + a + b * 32 + d * 4194304 + m * 1024) : arDN w = [97, 100, 100, 46, 105] ∧ arDA w = a ∧ arDB w = b ∧ arDC w = .ofNat 0 ∧ arDD w = d ∧ arDI w = m ∧ arDE w = .ofNat 0 := by
  have h : 0 ≤ w ∧ w < 4294967296 := by omega
  have e1 : getOf rAddI.a w = a := (get_R0 w).trans (by omega)
  have e2 : getOf rAddI.b w = b := (get_R5 w).trans (by omega)
  have e3 : getOf rAddI.d w = d := (get_22 w).trans (by omega)
  have e4 : getOf rAddI.m w = m := (get_I12 w).trans (by omega)
  have hit : arHit w rAddI = true := hit_of rfl (by rw [e1, e2, e3, e4]; exact addI_fault ha hb hd hm) (by rw [e1, e2, e3, e4]; exact (addI_word ha hb hd hm).trans hw.symm)
  have hk : ∀ k ∈ kAddI, (bw w).testBit k.1 = k.2 := by
    intro k hk
    simp only [kAddI, List.mem_cons, List.not_mem_nil, or_false] at hk
    subst hk
    refine known_bit h _ _ ?_
    show w / 33554432 % 2 = 0; omega
  have r := ar_of (find_row hk addI_at addI_pre hit)
  rw [e1, e2, e3, e4] at r
  exact r
/-! What riscv refuses -/
theorem reg_ok {n : Int} (h : 0 ≤ n ∧ n < 32) : rvRegB n true = true := by
  have e := rvRegT_val n true
  unfold rvRegT at e
  by_cases h0 : n = 0
  · subst h0; rfl
  · rw [show ieq n (.ofNat 0) = false by rw [ieqB, decide_eq_false_iff_not]; exact h0, show ilt (.ofNat 0) n = true by rw [iltB, decide_eq_true_iff]; show (0 : Int) < n; omega, show ilt n (.ofNat 32) = true by rw [iltB, decide_eq_true_iff]; show n < (32 : Int); omega] at e
    simp only [bc_true, bc_false, Option.some.injEq, AV.bool.injEq] at e
    exact e.symm
theorem rv_fault {fm : Int} {rn nm : List UInt8} {rw a b c n : Int} (h1 : rvRegB a (rvUA fm) = true) (h2 : rvRegB b (rvUB fm) = true) (h3 : rvRegB c (rvUC fm) = true) (h4 : ieq (rvLo fm) (rvHi fm) = false) (hl : ilt n (rvLo fm) = false) (hh : ilt (rvHi fm) n = false) (hy : ieq (rvBy fm) (.ofNat 0) = false) (hm : ieq (Int.tmod n (rvBy fm)) (.ofNat 0) = true) : rvFault rn fm rw nm a b c (.ofNat 0) n = .ofNat 0 := by
  have e := rvFaultyT_val rn fm rw nm a b c (.ofNat 0) n
  unfold rvFaultyT at e
  simp only [h1, h2, h3, h4, hl, hh, hy, hm, show ieq (.ofNat 0) (.ofNat 0) = true from rfl, Bool.not_true, bc_false, Option.some.injEq, AV.int.injEq, true_and] at e
  exact e.symm
theorem lui_fault {rn nm : List UInt8} {rw a n : Int} (ha : 0 ≤ a ∧ a < 32) (hn : -524288 ≤ n ∧ n ≤ 524287) : rvFault rn (.ofNat 6) rw nm a (.ofNat 0) (.ofNat 0) (.ofNat 0) n = .ofNat 0 := by
  refine rv_fault (by rw [show rvUA (.ofNat 6) = true by kernel_rfl]; exact reg_ok ha) (by kernel_rfl) (by kernel_rfl) (by kernel_rfl) ?_ ?_ (by kernel_rfl) ?_
  · rw [iltB, decide_eq_false_iff_not, show rvLo (.ofNat 6) = -524288 by kernel_rfl]; omega
  · rw [iltB, decide_eq_false_iff_not, show rvHi (.ofNat 6) = 524287 by kernel_rfl]; omega
  · rw [show rvBy (.ofNat 6) = .ofNat 1 by kernel_rfl, tmod1]; rfl
theorem addi_fault {rn nm : List UInt8} {rw a b n : Int} (ha : 0 ≤ a ∧ a < 32) (hb : 0 ≤ b ∧ b < 32) (hn : -2048 ≤ n ∧ n ≤ 2047) : rvFault rn (.ofNat 1) rw nm a b (.ofNat 0) (.ofNat 0) n = .ofNat 0 := by
  refine rv_fault (by rw [show rvUA (.ofNat 1) = true by kernel_rfl]; exact reg_ok ha) (by rw [show rvUB (.ofNat 1) = true by kernel_rfl]; exact reg_ok hb) (by kernel_rfl) (by kernel_rfl) ?_ ?_ (by kernel_rfl) ?_
  · rw [iltB, decide_eq_false_iff_not, show rvLo (.ofNat 1) = -2048 by kernel_rfl]; omega
  · rw [iltB, decide_eq_false_iff_not, show rvHi (.ofNat 1) = 2047 by kernel_rfl]; omega
  · rw [show rvBy (.ofNat 1) = .ofNat 1 by kernel_rfl, tmod1]; rfl
end
end Go.Proofs.YtpmlihmaodpmfaaGreatDoor
