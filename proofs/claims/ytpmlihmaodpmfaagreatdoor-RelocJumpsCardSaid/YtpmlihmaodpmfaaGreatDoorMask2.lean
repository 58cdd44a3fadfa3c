/- Package mask: the mask of some fields. -/
import Derived.Test.YtpmlihmaodpmfaaGreatDoorMask1
import Derived.KernelRfl
namespace Go.Proofs.YtpmlihmaodpmfaaGreatDoor
open Go Go.Vai
noncomputable section
set_option maxRecDepth 100000
def isAt : Option AV → Bool
  | some (.tup [.int .u64 _, .bool _]) => true
  | _ => false
def atG (v0 v1 r : Nat) : Option AV := bc (Nat.blt 63 r) (some (.tup [.int .u64 (.ofNat 0), .bool false])) (bc (!(Nat.blt r v0)) (some (.tup [.int .u64 (.ofNat 0), .bool false])) (bc (ilt (wrapR .i64 (Int.sub (.ofNat v0) (.ofNat r))) (.ofNat 0)) (none) (bc (AV.eqb (.int .u64 (wrapR .u64 (orI .u64 (shrI (onV v1) (Nat.min r 64)) (wrapR .u64 (shlI (onV v1) (Nat.min (Int.toNat (wrapR .i64 (Int.sub (.ofNat v0) (.ofNat r)))) 64)))))) (.int .u64 (wrapR .u64 (orI .u64 (shrI (onV v1) (Nat.min r 64)) (wrapR .u64 (shlI (onV v1) (Nat.min (Int.toNat (wrapR .i64 (Int.sub (.ofNat v0) (.ofNat r)))) 64))))))) (bc (ilt (wrapR .i64 (Int.sub (.ofNat v0) (.ofNat r))) (.ofNat 0)) (none) (bc (AV.eqb (.int .u64 (wrapR .u64 (shlI (onV v1) (Nat.min (Int.toNat (wrapR .i64 (Int.sub (.ofNat v0) (.ofNat r)))) 64)))) (.int .u64 (wrapR .u64 (shlI (onV v1) (Nat.min (Int.toNat (wrapR .i64 (Int.sub (.ofNat v0) (.ofNat r)))) 64))))) (bc (AV.eqb (.int .i64 (wrapR .i64 (Int.sub (.ofNat v0) (.ofNat r)))) (.int .i64 (wrapR .i64 (Int.sub (.ofNat v0) (.ofNat r))))) (bc (AV.eqb (.int .i64 (.ofNat r)) (.int .i64 (.ofNat r))) (bc (AV.eqb (.int .u64 (onV v1)) (.int .u64 (onV v1))) (bc (AV.eqb (.int .u64 (shrI (onV v1) (Nat.min r 64))) (.int .u64 (shrI (onV v1) (Nat.min r 64)))) (bc (AV.eqb (.int .i64 (.ofNat r)) (.int .i64 (.ofNat r))) (bc (AV.eqb (.int .u64 (onV v1)) (.int .u64 (onV v1))) (some (.tup [.int .u64 (spV (wrapR .u64 (andI .u64 (wrapR .u64 (orI .u64 (shrI (onV v1) (Nat.min r 64)) (wrapR .u64 (shlI (onV v1) (Nat.min (Int.toNat (wrapR .i64 (Int.sub (.ofNat v0) (.ofNat r)))) 64))))) (onV v0))) v0), .bool true])) (none)) (none)) (none)) (none)) (none)) (none)) (none))) (none))))
def at0T (r : Nat) : Option AV := atG 32 1 r
theorem at0T_eq (r : Nat) : callP ML1 1000 (.call 99 [.int .i64 (.ofNat 0), .int .i64 (.ofNat r), .int .i64 (.ofNat 0)] (gHeap 12 gl)) [] jK = at0T r := by kernel_rfl
theorem at0_tot (r : Nat) : isAt (at0T r) = true := by
  unfold at0T atG
  by_cases h : r < 32
  · simp only [sub_nat (Nat.le_of_lt h) (by decide), ilt_nat0, bc_false, bc_true, eqb_int]
    repeat (first | rfl | apply bc_sh)
  · have g : Nat.blt r 32 = false := by rw [Bool.eq_false_iff]; intro hc; rw [Nat.blt_eq] at hc; exact h hc
    simp only [g, bc_true, Bool.not_false]
    repeat (first | rfl | apply bc_sh)
def at1T (r : Nat) : Option AV := atG 32 2 r
theorem at1T_eq (r : Nat) : callP ML1 1000 (.call 99 [.int .i64 (.ofNat 0), .int .i64 (.ofNat r), .int .i64 (.ofNat 1)] (gHeap 12 gl)) [] jK = at1T r := by kernel_rfl
theorem at1_tot (r : Nat) : isAt (at1T r) = true := by
  unfold at1T atG
  by_cases h : r < 32
  · simp only [sub_nat (Nat.le_of_lt h) (by decide), ilt_nat0, bc_false, bc_true, eqb_int]
    repeat (first | rfl | apply bc_sh)
  · have g : Nat.blt r 32 = false := by rw [Bool.eq_false_iff]; intro hc; rw [Nat.blt_eq] at hc; exact h hc
    simp only [g, bc_true, Bool.not_false]
    repeat (first | rfl | apply bc_sh)
def at2T (r : Nat) : Option AV := atG 32 3 r
theorem at2T_eq (r : Nat) : callP ML1 1000 (.call 99 [.int .i64 (.ofNat 0), .int .i64 (.ofNat r), .int .i64 (.ofNat 2)] (gHeap 12 gl)) [] jK = at2T r := by kernel_rfl
theorem at2_tot (r : Nat) : isAt (at2T r) = true := by
  unfold at2T atG
  by_cases h : r < 32
  · simp only [sub_nat (Nat.le_of_lt h) (by decide), ilt_nat0, bc_false, bc_true, eqb_int]
    repeat (first | rfl | apply bc_sh)
  · have g : Nat.blt r 32 = false := by rw [Bool.eq_false_iff]; intro hc; rw [Nat.blt_eq] at hc; exact h hc
    simp only [g, bc_true, Bool.not_false]
    repeat (first | rfl | apply bc_sh)
def at3T (r : Nat) : Option AV := atG 32 4 r
theorem at3T_eq (r : Nat) : callP ML1 1000 (.call 99 [.int .i64 (.ofNat 0), .int .i64 (.ofNat r), .int .i64 (.ofNat 3)] (gHeap 12 gl)) [] jK = at3T r := by kernel_rfl
theorem at3_tot (r : Nat) : isAt (at3T r) = true := by
  unfold at3T atG
  by_cases h : r < 32
  · simp only [sub_nat (Nat.le_of_lt h) (by decide), ilt_nat0, bc_false, bc_true, eqb_int]
    repeat (first | rfl | apply bc_sh)
  · have g : Nat.blt r 32 = false := by rw [Bool.eq_false_iff]; intro hc; rw [Nat.blt_eq] at hc; exact h hc
    simp only [g, bc_true, Bool.not_false]
    repeat (first | rfl | apply bc_sh)
def at4T (r : Nat) : Option AV := atG 32 5 r
theorem at4T_eq (r : Nat) : callP ML1 1000 (.call 99 [.int .i64 (.ofNat 0), .int .i64 (.ofNat r), .int .i64 (.ofNat 4)] (gHeap 12 gl)) [] jK = at4T r := by kernel_rfl
theorem at4_tot (r : Nat) : isAt (at4T r) = true := by
  unfold at4T atG
  by_cases h : r < 32
  · simp only [sub_nat (Nat.le_of_lt h) (by decide), ilt_nat0, bc_false, bc_true, eqb_int]
    repeat (first | rfl | apply bc_sh)
  · have g : Nat.blt r 32 = false := by rw [Bool.eq_false_iff]; intro hc; rw [Nat.blt_eq] at hc; exact h hc
    simp only [g, bc_true, Bool.not_false]
    repeat (first | rfl | apply bc_sh)
def at5T (r : Nat) : Option AV := atG 32 6 r
theorem at5T_eq (r : Nat) : callP ML1 1000 (.call 99 [.int .i64 (.ofNat 0), .int .i64 (.ofNat r), .int .i64 (.ofNat 5)] (gHeap 12 gl)) [] jK = at5T r := by kernel_rfl
theorem at5_tot (r : Nat) : isAt (at5T r) = true := by
  unfold at5T atG
  by_cases h : r < 32
  · simp only [sub_nat (Nat.le_of_lt h) (by decide), ilt_nat0, bc_false, bc_true, eqb_int]
    repeat (first | rfl | apply bc_sh)
  · have g : Nat.blt r 32 = false := by rw [Bool.eq_false_iff]; intro hc; rw [Nat.blt_eq] at hc; exact h hc
    simp only [g, bc_true, Bool.not_false]
    repeat (first | rfl | apply bc_sh)
def at6T (r : Nat) : Option AV := atG 32 7 r
theorem at6T_eq (r : Nat) : callP ML1 1000 (.call 99 [.int .i64 (.ofNat 0), .int .i64 (.ofNat r), .int .i64 (.ofNat 6)] (gHeap 12 gl)) [] jK = at6T r := by kernel_rfl
theorem at6_tot (r : Nat) : isAt (at6T r) = true := by
  unfold at6T atG
  by_cases h : r < 32
  · simp only [sub_nat (Nat.le_of_lt h) (by decide), ilt_nat0, bc_false, bc_true, eqb_int]
    repeat (first | rfl | apply bc_sh)
  · have g : Nat.blt r 32 = false := by rw [Bool.eq_false_iff]; intro hc; rw [Nat.blt_eq] at hc; exact h hc
    simp only [g, bc_true, Bool.not_false]
    repeat (first | rfl | apply bc_sh)
def at7T (r : Nat) : Option AV := atG 32 8 r
theorem at7T_eq (r : Nat) : callP ML1 1000 (.call 99 [.int .i64 (.ofNat 0), .int .i64 (.ofNat r), .int .i64 (.ofNat 7)] (gHeap 12 gl)) [] jK = at7T r := by kernel_rfl
theorem at7_tot (r : Nat) : isAt (at7T r) = true := by
  unfold at7T atG
  by_cases h : r < 32
  · simp only [sub_nat (Nat.le_of_lt h) (by decide), ilt_nat0, bc_false, bc_true, eqb_int]
    repeat (first | rfl | apply bc_sh)
  · have g : Nat.blt r 32 = false := by rw [Bool.eq_false_iff]; intro hc; rw [Nat.blt_eq] at hc; exact h hc
    simp only [g, bc_true, Bool.not_false]
    repeat (first | rfl | apply bc_sh)
def at8T (r : Nat) : Option AV := atG 32 9 r
theorem at8T_eq (r : Nat) : callP ML1 1000 (.call 99 [.int .i64 (.ofNat 0), .int .i64 (.ofNat r), .int .i64 (.ofNat 8)] (gHeap 12 gl)) [] jK = at8T r := by kernel_rfl
theorem at8_tot (r : Nat) : isAt (at8T r) = true := by
  unfold at8T atG
  by_cases h : r < 32
  · simp only [sub_nat (Nat.le_of_lt h) (by decide), ilt_nat0, bc_false, bc_true, eqb_int]
    repeat (first | rfl | apply bc_sh)
  · have g : Nat.blt r 32 = false := by rw [Bool.eq_false_iff]; intro hc; rw [Nat.blt_eq] at hc; exact h hc
    simp only [g, bc_true, Bool.not_false]
    repeat (first | rfl | apply bc_sh)
def at9T (r : Nat) : Option AV := atG 32 10 r
theorem at9T_eq (r : Nat) : callP ML1 1000 (.call 99 [.int .i64 (.ofNat 0), .int .i64 (.ofNat r), .int .i64 (.ofNat 9)] (gHeap 12 gl)) [] jK = at9T r := by kernel_rfl
theorem at9_tot (r : Nat) : isAt (at9T r) = true := by
  unfold at9T atG
  by_cases h : r < 32
  · simp only [sub_nat (Nat.le_of_lt h) (by decide), ilt_nat0, bc_false, bc_true, eqb_int]
    repeat (first | rfl | apply bc_sh)
  · have g : Nat.blt r 32 = false := by rw [Bool.eq_false_iff]; intro hc; rw [Nat.blt_eq] at hc; exact h hc
    simp only [g, bc_true, Bool.not_false]
    repeat (first | rfl | apply bc_sh)
def at10T (r : Nat) : Option AV := atG 32 11 r
theorem at10T_eq (r : Nat) : callP ML1 1000 (.call 99 [.int .i64 (.ofNat 0), .int .i64 (.ofNat r), .int .i64 (.ofNat 10)] (gHeap 12 gl)) [] jK = at10T r := by kernel_rfl
theorem at10_tot (r : Nat) : isAt (at10T r) = true := by
  unfold at10T atG
  by_cases h : r < 32
  · simp only [sub_nat (Nat.le_of_lt h) (by decide), ilt_nat0, bc_false, bc_true, eqb_int]
    repeat (first | rfl | apply bc_sh)
  · have g : Nat.blt r 32 = false := by rw [Bool.eq_false_iff]; intro hc; rw [Nat.blt_eq] at hc; exact h hc
    simp only [g, bc_true, Bool.not_false]
    repeat (first | rfl | apply bc_sh)
def at11T (r : Nat) : Option AV := atG 32 12 r
theorem at11T_eq (r : Nat) : callP ML1 1000 (.call 99 [.int .i64 (.ofNat 0), .int .i64 (.ofNat r), .int .i64 (.ofNat 11)] (gHeap 12 gl)) [] jK = at11T r := by kernel_rfl
theorem at11_tot (r : Nat) : isAt (at11T r) = true := by
  unfold at11T atG
  by_cases h : r < 32
  · simp only [sub_nat (Nat.le_of_lt h) (by decide), ilt_nat0, bc_false, bc_true, eqb_int]
    repeat (first | rfl | apply bc_sh)
  · have g : Nat.blt r 32 = false := by rw [Bool.eq_false_iff]; intro hc; rw [Nat.blt_eq] at hc; exact h hc
    simp only [g, bc_true, Bool.not_false]
    repeat (first | rfl | apply bc_sh)
def at12T (r : Nat) : Option AV := atG 32 13 r
theorem at12T_eq (r : Nat) : callP ML1 1000 (.call 99 [.int .i64 (.ofNat 0), .int .i64 (.ofNat r), .int .i64 (.ofNat 12)] (gHeap 12 gl)) [] jK = at12T r := by kernel_rfl
theorem at12_tot (r : Nat) : isAt (at12T r) = true := by
  unfold at12T atG
  by_cases h : r < 32
  · simp only [sub_nat (Nat.le_of_lt h) (by decide), ilt_nat0, bc_false, bc_true, eqb_int]
    repeat (first | rfl | apply bc_sh)
  · have g : Nat.blt r 32 = false := by rw [Bool.eq_false_iff]; intro hc; rw [Nat.blt_eq] at hc; exact h hc
    simp only [g, bc_true, Bool.not_false]
    repeat (first | rfl | apply bc_sh)
def at13T (r : Nat) : Option AV := atG 32 14 r
theorem at13T_eq (r : Nat) : callP ML1 1000 (.call 99 [.int .i64 (.ofNat 0), .int .i64 (.ofNat r), .int .i64 (.ofNat 13)] (gHeap 12 gl)) [] jK = at13T r := by kernel_rfl
theorem at13_tot (r : Nat) : isAt (at13T r) = true := by
  unfold at13T atG
  by_cases h : r < 32
  · simp only [sub_nat (Nat.le_of_lt h) (by decide), ilt_nat0, bc_false, bc_true, eqb_int]
    repeat (first | rfl | apply bc_sh)
  · have g : Nat.blt r 32 = false := by rw [Bool.eq_false_iff]; intro hc; rw [Nat.blt_eq] at hc; exact h hc
    simp only [g, bc_true, Bool.not_false]
    repeat (first | rfl | apply bc_sh)
def at14T (r : Nat) : Option AV := atG 32 15 r
theorem at14T_eq (r : Nat) : callP ML1 1000 (.call 99 [.int .i64 (.ofNat 0), .int .i64 (.ofNat r), .int .i64 (.ofNat 14)] (gHeap 12 gl)) [] jK = at14T r := by kernel_rfl
theorem at14_tot (r : Nat) : isAt (at14T r) = true := by
  unfold at14T atG
  by_cases h : r < 32
  · simp only [sub_nat (Nat.le_of_lt h) (by decide), ilt_nat0, bc_false, bc_true, eqb_int]
    repeat (first | rfl | apply bc_sh)
  · have g : Nat.blt r 32 = false := by rw [Bool.eq_false_iff]; intro hc; rw [Nat.blt_eq] at hc; exact h hc
    simp only [g, bc_true, Bool.not_false]
    repeat (first | rfl | apply bc_sh)
def at15T (r : Nat) : Option AV := atG 32 16 r
theorem at15T_eq (r : Nat) : callP ML1 1000 (.call 99 [.int .i64 (.ofNat 0), .int .i64 (.ofNat r), .int .i64 (.ofNat 15)] (gHeap 12 gl)) [] jK = at15T r := by kernel_rfl
theorem at15_tot (r : Nat) : isAt (at15T r) = true := by
  unfold at15T atG
  by_cases h : r < 32
  · simp only [sub_nat (Nat.le_of_lt h) (by decide), ilt_nat0, bc_false, bc_true, eqb_int]
    repeat (first | rfl | apply bc_sh)
  · have g : Nat.blt r 32 = false := by rw [Bool.eq_false_iff]; intro hc; rw [Nat.blt_eq] at hc; exact h hc
    simp only [g, bc_true, Bool.not_false]
    repeat (first | rfl | apply bc_sh)
def at16T (r : Nat) : Option AV := atG 32 17 r
theorem at16T_eq (r : Nat) : callP ML1 1000 (.call 99 [.int .i64 (.ofNat 0), .int .i64 (.ofNat r), .int .i64 (.ofNat 16)] (gHeap 12 gl)) [] jK = at16T r := by kernel_rfl
theorem at16_tot (r : Nat) : isAt (at16T r) = true := by
  unfold at16T atG
  by_cases h : r < 32
  · simp only [sub_nat (Nat.le_of_lt h) (by decide), ilt_nat0, bc_false, bc_true, eqb_int]
    repeat (first | rfl | apply bc_sh)
  · have g : Nat.blt r 32 = false := by rw [Bool.eq_false_iff]; intro hc; rw [Nat.blt_eq] at hc; exact h hc
    simp only [g, bc_true, Bool.not_false]
    repeat (first | rfl | apply bc_sh)
def at17T (r : Nat) : Option AV := atG 32 18 r
theorem at17T_eq (r : Nat) : callP ML1 1000 (.call 99 [.int .i64 (.ofNat 0), .int .i64 (.ofNat r), .int .i64 (.ofNat 17)] (gHeap 12 gl)) [] jK = at17T r := by kernel_rfl
theorem at17_tot (r : Nat) : isAt (at17T r) = true := by
  unfold at17T atG
  by_cases h : r < 32
  · simp only [sub_nat (Nat.le_of_lt h) (by decide), ilt_nat0, bc_false, bc_true, eqb_int]
    repeat (first | rfl | apply bc_sh)
  · have g : Nat.blt r 32 = false := by rw [Bool.eq_false_iff]; intro hc; rw [Nat.blt_eq] at hc; exact h hc
    simp only [g, bc_true, Bool.not_false]
    repeat (first | rfl | apply bc_sh)
def at18T (r : Nat) : Option AV := atG 32 19 r
theorem at18T_eq (r : Nat) : callP ML1 1000 (.call 99 [.int .i64 (.ofNat 0), .int .i64 (.ofNat r), .int .i64 (.ofNat 18)] (gHeap 12 gl)) [] jK = at18T r := by kernel_rfl
theorem at18_tot (r : Nat) : isAt (at18T r) = true := by
  unfold at18T atG
  by_cases h : r < 32
  · simp only [sub_nat (Nat.le_of_lt h) (by decide), ilt_nat0, bc_false, bc_true, eqb_int]
    repeat (first | rfl | apply bc_sh)
  · have g : Nat.blt r 32 = false := by rw [Bool.eq_false_iff]; intro hc; rw [Nat.blt_eq] at hc; exact h hc
    simp only [g, bc_true, Bool.not_false]
    repeat (first | rfl | apply bc_sh)
def at19T (r : Nat) : Option AV := atG 32 20 r
theorem at19T_eq (r : Nat) : callP ML1 1000 (.call 99 [.int .i64 (.ofNat 0), .int .i64 (.ofNat r), .int .i64 (.ofNat 19)] (gHeap 12 gl)) [] jK = at19T r := by kernel_rfl
theorem at19_tot (r : Nat) : isAt (at19T r) = true := by
  unfold at19T atG
  by_cases h : r < 32
  · simp only [sub_nat (Nat.le_of_lt h) (by decide), ilt_nat0, bc_false, bc_true, eqb_int]
    repeat (first | rfl | apply bc_sh)
  · have g : Nat.blt r 32 = false := by rw [Bool.eq_false_iff]; intro hc; rw [Nat.blt_eq] at hc; exact h hc
    simp only [g, bc_true, Bool.not_false]
    repeat (first | rfl | apply bc_sh)
def at20T (r : Nat) : Option AV := atG 32 21 r
theorem at20T_eq (r : Nat) : callP ML1 1000 (.call 99 [.int .i64 (.ofNat 0), .int .i64 (.ofNat r), .int .i64 (.ofNat 20)] (gHeap 12 gl)) [] jK = at20T r := by kernel_rfl
theorem at20_tot (r : Nat) : isAt (at20T r) = true := by
  unfold at20T atG
  by_cases h : r < 32
  · simp only [sub_nat (Nat.le_of_lt h) (by decide), ilt_nat0, bc_false, bc_true, eqb_int]
    repeat (first | rfl | apply bc_sh)
  · have g : Nat.blt r 32 = false := by rw [Bool.eq_false_iff]; intro hc; rw [Nat.blt_eq] at hc; exact h hc
    simp only [g, bc_true, Bool.not_false]
    repeat (first | rfl | apply bc_sh)
def at21T (r : Nat) : Option AV := atG 32 22 r
theorem at21T_eq (r : Nat) : callP ML1 1000 (.call 99 [.int .i64 (.ofNat 0), .int .i64 (.ofNat r), .int .i64 (.ofNat 21)] (gHeap 12 gl)) [] jK = at21T r := by kernel_rfl
theorem at21_tot (r : Nat) : isAt (at21T r) = true := by
  unfold at21T atG
  by_cases h : r < 32
  · simp only [sub_nat (Nat.le_of_lt h) (by decide), ilt_nat0, bc_false, bc_true, eqb_int]
    repeat (first | rfl | apply bc_sh)
  · have g : Nat.blt r 32 = false := by rw [Bool.eq_false_iff]; intro hc; rw [Nat.blt_eq] at hc; exact h hc
    simp only [g, bc_true, Bool.not_false]
    repeat (first | rfl | apply bc_sh)
def at22T (r : Nat) : Option AV := atG 32 23 r
theorem at22T_eq (r : Nat) : callP ML1 1000 (.call 99 [.int .i64 (.ofNat 0), .int .i64 (.ofNat r), .int .i64 (.ofNat 22)] (gHeap 12 gl)) [] jK = at22T r := by kernel_rfl
theorem at22_tot (r : Nat) : isAt (at22T r) = true := by
  unfold at22T atG
  by_cases h : r < 32
  · simp only [sub_nat (Nat.le_of_lt h) (by decide), ilt_nat0, bc_false, bc_true, eqb_int]
    repeat (first | rfl | apply bc_sh)
  · have g : Nat.blt r 32 = false := by rw [Bool.eq_false_iff]; intro hc; rw [Nat.blt_eq] at hc; exact h hc
    simp only [g, bc_true, Bool.not_false]
    repeat (first | rfl | apply bc_sh)
def at23T (r : Nat) : Option AV := atG 32 24 r
theorem at23T_eq (r : Nat) : callP ML1 1000 (.call 99 [.int .i64 (.ofNat 0), .int .i64 (.ofNat r), .int .i64 (.ofNat 23)] (gHeap 12 gl)) [] jK = at23T r := by kernel_rfl
theorem at23_tot (r : Nat) : isAt (at23T r) = true := by
  unfold at23T atG
  by_cases h : r < 32
  · simp only [sub_nat (Nat.le_of_lt h) (by decide), ilt_nat0, bc_false, bc_true, eqb_int]
    repeat (first | rfl | apply bc_sh)
  · have g : Nat.blt r 32 = false := by rw [Bool.eq_false_iff]; intro hc; rw [Nat.blt_eq] at hc; exact h hc
    simp only [g, bc_true, Bool.not_false]
    repeat (first | rfl | apply bc_sh)
def at24T (r : Nat) : Option AV := atG 32 25 r
theorem at24T_eq (r : Nat) : callP ML1 1000 (.call 99 [.int .i64 (.ofNat 0), .int .i64 (.ofNat r), .int .i64 (.ofNat 24)] (gHeap 12 gl)) [] jK = at24T r := by kernel_rfl
theorem at24_tot (r : Nat) : isAt (at24T r) = true := by
  unfold at24T atG
  by_cases h : r < 32
  · simp only [sub_nat (Nat.le_of_lt h) (by decide), ilt_nat0, bc_false, bc_true, eqb_int]
    repeat (first | rfl | apply bc_sh)
  · have g : Nat.blt r 32 = false := by rw [Bool.eq_false_iff]; intro hc; rw [Nat.blt_eq] at hc; exact h hc
    simp only [g, bc_true, Bool.not_false]
    repeat (first | rfl | apply bc_sh)
def at25T (r : Nat) : Option AV := atG 32 26 r
theorem at25T_eq (r : Nat) : callP ML1 1000 (.call 99 [.int .i64 (.ofNat 0), .int .i64 (.ofNat r), .int .i64 (.ofNat 25)] (gHeap 12 gl)) [] jK = at25T r := by kernel_rfl
theorem at25_tot (r : Nat) : isAt (at25T r) = true := by
  unfold at25T atG
  by_cases h : r < 32
  · simp only [sub_nat (Nat.le_of_lt h) (by decide), ilt_nat0, bc_false, bc_true, eqb_int]
    repeat (first | rfl | apply bc_sh)
  · have g : Nat.blt r 32 = false := by rw [Bool.eq_false_iff]; intro hc; rw [Nat.blt_eq] at hc; exact h hc
    simp only [g, bc_true, Bool.not_false]
    repeat (first | rfl | apply bc_sh)
def at26T (r : Nat) : Option AV := atG 32 27 r
theorem at26T_eq (r : Nat) : callP ML1 1000 (.call 99 [.int .i64 (.ofNat 0), .int .i64 (.ofNat r), .int .i64 (.ofNat 26)] (gHeap 12 gl)) [] jK = at26T r := by kernel_rfl
theorem at26_tot (r : Nat) : isAt (at26T r) = true := by
  unfold at26T atG
  by_cases h : r < 32
  · simp only [sub_nat (Nat.le_of_lt h) (by decide), ilt_nat0, bc_false, bc_true, eqb_int]
    repeat (first | rfl | apply bc_sh)
  · have g : Nat.blt r 32 = false := by rw [Bool.eq_false_iff]; intro hc; rw [Nat.blt_eq] at hc; exact h hc
    simp only [g, bc_true, Bool.not_false]
    repeat (first | rfl | apply bc_sh)
def at27T (r : Nat) : Option AV := atG 32 28 r
theorem at27T_eq (r : Nat) : callP ML1 1000 (.call 99 [.int .i64 (.ofNat 0), .int .i64 (.ofNat r), .int .i64 (.ofNat 27)] (gHeap 12 gl)) [] jK = at27T r := by kernel_rfl
theorem at27_tot (r : Nat) : isAt (at27T r) = true := by
  unfold at27T atG
  by_cases h : r < 32
  · simp only [sub_nat (Nat.le_of_lt h) (by decide), ilt_nat0, bc_false, bc_true, eqb_int]
    repeat (first | rfl | apply bc_sh)
  · have g : Nat.blt r 32 = false := by rw [Bool.eq_false_iff]; intro hc; rw [Nat.blt_eq] at hc; exact h hc
    simp only [g, bc_true, Bool.not_false]
    repeat (first | rfl | apply bc_sh)
def at28T (r : Nat) : Option AV := atG 32 29 r
theorem at28T_eq (r : Nat) : callP ML1 1000 (.call 99 [.int .i64 (.ofNat 0), .int .i64 (.ofNat r), .int .i64 (.ofNat 28)] (gHeap 12 gl)) [] jK = at28T r := by kernel_rfl
theorem at28_tot (r : Nat) : isAt (at28T r) = true := by
  unfold at28T atG
  by_cases h : r < 32
  · simp only [sub_nat (Nat.le_of_lt h) (by decide), ilt_nat0, bc_false, bc_true, eqb_int]
    repeat (first | rfl | apply bc_sh)
  · have g : Nat.blt r 32 = false := by rw [Bool.eq_false_iff]; intro hc; rw [Nat.blt_eq] at hc; exact h hc
    simp only [g, bc_true, Bool.not_false]
    repeat (first | rfl | apply bc_sh)
def at29T (r : Nat) : Option AV := atG 32 30 r
theorem at29T_eq (r : Nat) : callP ML1 1000 (.call 99 [.int .i64 (.ofNat 0), .int .i64 (.ofNat r), .int .i64 (.ofNat 29)] (gHeap 12 gl)) [] jK = at29T r := by kernel_rfl
theorem at29_tot (r : Nat) : isAt (at29T r) = true := by
  unfold at29T atG
  by_cases h : r < 32
  · simp only [sub_nat (Nat.le_of_lt h) (by decide), ilt_nat0, bc_false, bc_true, eqb_int]
    repeat (first | rfl | apply bc_sh)
  · have g : Nat.blt r 32 = false := by rw [Bool.eq_false_iff]; intro hc; rw [Nat.blt_eq] at hc; exact h hc
    simp only [g, bc_true, Bool.not_false]
    repeat (first | rfl | apply bc_sh)
def at30T (r : Nat) : Option AV := atG 32 31 r
theorem at30T_eq (r : Nat) : callP ML1 1000 (.call 99 [.int .i64 (.ofNat 0), .int .i64 (.ofNat r), .int .i64 (.ofNat 30)] (gHeap 12 gl)) [] jK = at30T r := by kernel_rfl
theorem at30_tot (r : Nat) : isAt (at30T r) = true := by
  unfold at30T atG
  by_cases h : r < 32
  · simp only [sub_nat (Nat.le_of_lt h) (by decide), ilt_nat0, bc_false, bc_true, eqb_int]
    repeat (first | rfl | apply bc_sh)
  · have g : Nat.blt r 32 = false := by rw [Bool.eq_false_iff]; intro hc; rw [Nat.blt_eq] at hc; exact h hc
    simp only [g, bc_true, Bool.not_false]
    repeat (first | rfl | apply bc_sh)
def at31T (r : Nat) : Option AV := bc (Nat.blt 63 r) (some (.tup [.int .u64 (.ofNat 0), .bool false])) (some (.tup [.int .u64 (.ofNat 0), .bool false]))
theorem at31T_eq (r : Nat) : callP ML1 1000 (.call 99 [.int .i64 (.ofNat 0), .int .i64 (.ofNat r), .int .i64 (.ofNat 31)] (gHeap 12 gl)) [] jK = at31T r := by kernel_rfl
theorem at31_tot (r : Nat) : isAt (at31T r) = true := by
  unfold at31T
  repeat (first | rfl | apply bc_sh)
def at32T (r : Nat) : Option AV := atG 16 1 r
theorem at32T_eq (r : Nat) : callP ML1 1000 (.call 99 [.int .i64 (.ofNat 0), .int .i64 (.ofNat r), .int .i64 (.ofNat 32)] (gHeap 12 gl)) [] jK = at32T r := by kernel_rfl
theorem at32_tot (r : Nat) : isAt (at32T r) = true := by
  unfold at32T atG
  by_cases h : r < 16
  · simp only [sub_nat (Nat.le_of_lt h) (by decide), ilt_nat0, bc_false, bc_true, eqb_int]
    repeat (first | rfl | apply bc_sh)
  · have g : Nat.blt r 16 = false := by rw [Bool.eq_false_iff]; intro hc; rw [Nat.blt_eq] at hc; exact h hc
    simp only [g, bc_true, Bool.not_false]
    repeat (first | rfl | apply bc_sh)
def at33T (r : Nat) : Option AV := atG 16 2 r
theorem at33T_eq (r : Nat) : callP ML1 1000 (.call 99 [.int .i64 (.ofNat 0), .int .i64 (.ofNat r), .int .i64 (.ofNat 33)] (gHeap 12 gl)) [] jK = at33T r := by kernel_rfl
theorem at33_tot (r : Nat) : isAt (at33T r) = true := by
  unfold at33T atG
  by_cases h : r < 16
  · simp only [sub_nat (Nat.le_of_lt h) (by decide), ilt_nat0, bc_false, bc_true, eqb_int]
    repeat (first | rfl | apply bc_sh)
  · have g : Nat.blt r 16 = false := by rw [Bool.eq_false_iff]; intro hc; rw [Nat.blt_eq] at hc; exact h hc
    simp only [g, bc_true, Bool.not_false]
    repeat (first | rfl | apply bc_sh)
def at34T (r : Nat) : Option AV := atG 16 3 r
theorem at34T_eq (r : Nat) : callP ML1 1000 (.call 99 [.int .i64 (.ofNat 0), .int .i64 (.ofNat r), .int .i64 (.ofNat 34)] (gHeap 12 gl)) [] jK = at34T r := by kernel_rfl
theorem at34_tot (r : Nat) : isAt (at34T r) = true := by
  unfold at34T atG
  by_cases h : r < 16
  · simp only [sub_nat (Nat.le_of_lt h) (by decide), ilt_nat0, bc_false, bc_true, eqb_int]
    repeat (first | rfl | apply bc_sh)
  · have g : Nat.blt r 16 = false := by rw [Bool.eq_false_iff]; intro hc; rw [Nat.blt_eq] at hc; exact h hc
    simp only [g, bc_true, Bool.not_false]
    repeat (first | rfl | apply bc_sh)
def at35T (r : Nat) : Option AV := atG 16 4 r
theorem at35T_eq (r : Nat) : callP ML1 1000 (.call 99 [.int .i64 (.ofNat 0), .int .i64 (.ofNat r), .int .i64 (.ofNat 35)] (gHeap 12 gl)) [] jK = at35T r := by kernel_rfl
theorem at35_tot (r : Nat) : isAt (at35T r) = true := by
  unfold at35T atG
  by_cases h : r < 16
  · simp only [sub_nat (Nat.le_of_lt h) (by decide), ilt_nat0, bc_false, bc_true, eqb_int]
    repeat (first | rfl | apply bc_sh)
  · have g : Nat.blt r 16 = false := by rw [Bool.eq_false_iff]; intro hc; rw [Nat.blt_eq] at hc; exact h hc
    simp only [g, bc_true, Bool.not_false]
    repeat (first | rfl | apply bc_sh)
def at36T (r : Nat) : Option AV := atG 16 5 r
theorem at36T_eq (r : Nat) : callP ML1 1000 (.call 99 [.int .i64 (.ofNat 0), .int .i64 (.ofNat r), .int .i64 (.ofNat 36)] (gHeap 12 gl)) [] jK = at36T r := by kernel_rfl
theorem at36_tot (r : Nat) : isAt (at36T r) = true := by
  unfold at36T atG
  by_cases h : r < 16
  · simp only [sub_nat (Nat.le_of_lt h) (by decide), ilt_nat0, bc_false, bc_true, eqb_int]
    repeat (first | rfl | apply bc_sh)
  · have g : Nat.blt r 16 = false := by rw [Bool.eq_false_iff]; intro hc; rw [Nat.blt_eq] at hc; exact h hc
    simp only [g, bc_true, Bool.not_false]
    repeat (first | rfl | apply bc_sh)
def at37T (r : Nat) : Option AV := atG 16 6 r
theorem at37T_eq (r : Nat) : callP ML1 1000 (.call 99 [.int .i64 (.ofNat 0), .int .i64 (.ofNat r), .int .i64 (.ofNat 37)] (gHeap 12 gl)) [] jK = at37T r := by kernel_rfl
theorem at37_tot (r : Nat) : isAt (at37T r) = true := by
  unfold at37T atG
  by_cases h : r < 16
  · simp only [sub_nat (Nat.le_of_lt h) (by decide), ilt_nat0, bc_false, bc_true, eqb_int]
    repeat (first | rfl | apply bc_sh)
  · have g : Nat.blt r 16 = false := by rw [Bool.eq_false_iff]; intro hc; rw [Nat.blt_eq] at hc; exact h hc
    simp only [g, bc_true, Bool.not_false]
    repeat (first | rfl | apply bc_sh)
def at38T (r : Nat) : Option AV := atG 16 7 r
theorem at38T_eq (r : Nat) : callP ML1 1000 (.call 99 [.int .i64 (.ofNat 0), .int .i64 (.ofNat r), .int .i64 (.ofNat 38)] (gHeap 12 gl)) [] jK = at38T r := by kernel_rfl
theorem at38_tot (r : Nat) : isAt (at38T r) = true := by
  unfold at38T atG
  by_cases h : r < 16
  · simp only [sub_nat (Nat.le_of_lt h) (by decide), ilt_nat0, bc_false, bc_true, eqb_int]
    repeat (first | rfl | apply bc_sh)
  · have g : Nat.blt r 16 = false := by rw [Bool.eq_false_iff]; intro hc; rw [Nat.blt_eq] at hc; exact h hc
    simp only [g, bc_true, Bool.not_false]
    repeat (first | rfl | apply bc_sh)
def at39T (r : Nat) : Option AV := atG 16 8 r
theorem at39T_eq (r : Nat) : callP ML1 1000 (.call 99 [.int .i64 (.ofNat 0), .int .i64 (.ofNat r), .int .i64 (.ofNat 39)] (gHeap 12 gl)) [] jK = at39T r := by kernel_rfl
theorem at39_tot (r : Nat) : isAt (at39T r) = true := by
  unfold at39T atG
  by_cases h : r < 16
  · simp only [sub_nat (Nat.le_of_lt h) (by decide), ilt_nat0, bc_false, bc_true, eqb_int]
    repeat (first | rfl | apply bc_sh)
  · have g : Nat.blt r 16 = false := by rw [Bool.eq_false_iff]; intro hc; rw [Nat.blt_eq] at hc; exact h hc
    simp only [g, bc_true, Bool.not_false]
    repeat (first | rfl | apply bc_sh)
def at40T (r : Nat) : Option AV := atG 16 9 r
theorem at40T_eq (r : Nat) : callP ML1 1000 (.call 99 [.int .i64 (.ofNat 0), .int .i64 (.ofNat r), .int .i64 (.ofNat 40)] (gHeap 12 gl)) [] jK = at40T r := by kernel_rfl
theorem at40_tot (r : Nat) : isAt (at40T r) = true := by
  unfold at40T atG
  by_cases h : r < 16
  · simp only [sub_nat (Nat.le_of_lt h) (by decide), ilt_nat0, bc_false, bc_true, eqb_int]
    repeat (first | rfl | apply bc_sh)
  · have g : Nat.blt r 16 = false := by rw [Bool.eq_false_iff]; intro hc; rw [Nat.blt_eq] at hc; exact h hc
    simp only [g, bc_true, Bool.not_false]
    repeat (first | rfl | apply bc_sh)
def at41T (r : Nat) : Option AV := atG 16 10 r
theorem at41T_eq (r : Nat) : callP ML1 1000 (.call 99 [.int .i64 (.ofNat 0), .int .i64 (.ofNat r), .int .i64 (.ofNat 41)] (gHeap 12 gl)) [] jK = at41T r := by kernel_rfl
theorem at41_tot (r : Nat) : isAt (at41T r) = true := by
  unfold at41T atG
  by_cases h : r < 16
  · simp only [sub_nat (Nat.le_of_lt h) (by decide), ilt_nat0, bc_false, bc_true, eqb_int]
    repeat (first | rfl | apply bc_sh)
  · have g : Nat.blt r 16 = false := by rw [Bool.eq_false_iff]; intro hc; rw [Nat.blt_eq] at hc; exact h hc
    simp only [g, bc_true, Bool.not_false]
    repeat (first | rfl | apply bc_sh)
def at42T (r : Nat) : Option AV := atG 16 11 r
theorem at42T_eq (r : Nat) : callP ML1 1000 (.call 99 [.int .i64 (.ofNat 0), .int .i64 (.ofNat r), .int .i64 (.ofNat 42)] (gHeap 12 gl)) [] jK = at42T r := by kernel_rfl
theorem at42_tot (r : Nat) : isAt (at42T r) = true := by
  unfold at42T atG
  by_cases h : r < 16
  · simp only [sub_nat (Nat.le_of_lt h) (by decide), ilt_nat0, bc_false, bc_true, eqb_int]
    repeat (first | rfl | apply bc_sh)
  · have g : Nat.blt r 16 = false := by rw [Bool.eq_false_iff]; intro hc; rw [Nat.blt_eq] at hc; exact h hc
    simp only [g, bc_true, Bool.not_false]
    repeat (first | rfl | apply bc_sh)
def at43T (r : Nat) : Option AV := atG 16 12 r
theorem at43T_eq (r : Nat) : callP ML1 1000 (.call 99 [.int .i64 (.ofNat 0), .int .i64 (.ofNat r), .int .i64 (.ofNat 43)] (gHeap 12 gl)) [] jK = at43T r := by kernel_rfl
theorem at43_tot (r : Nat) : isAt (at43T r) = true := by
  unfold at43T atG
  by_cases h : r < 16
  · simp only [sub_nat (Nat.le_of_lt h) (by decide), ilt_nat0, bc_false, bc_true, eqb_int]
    repeat (first | rfl | apply bc_sh)
  · have g : Nat.blt r 16 = false := by rw [Bool.eq_false_iff]; intro hc; rw [Nat.blt_eq] at hc; exact h hc
    simp only [g, bc_true, Bool.not_false]
    repeat (first | rfl | apply bc_sh)
def at44T (r : Nat) : Option AV := atG 16 13 r
theorem at44T_eq (r : Nat) : callP ML1 1000 (.call 99 [.int .i64 (.ofNat 0), .int .i64 (.ofNat r), .int .i64 (.ofNat 44)] (gHeap 12 gl)) [] jK = at44T r := by kernel_rfl
theorem at44_tot (r : Nat) : isAt (at44T r) = true := by
  unfold at44T atG
  by_cases h : r < 16
  · simp only [sub_nat (Nat.le_of_lt h) (by decide), ilt_nat0, bc_false, bc_true, eqb_int]
    repeat (first | rfl | apply bc_sh)
  · have g : Nat.blt r 16 = false := by rw [Bool.eq_false_iff]; intro hc; rw [Nat.blt_eq] at hc; exact h hc
    simp only [g, bc_true, Bool.not_false]
    repeat (first | rfl | apply bc_sh)
def at45T (r : Nat) : Option AV := atG 16 14 r
theorem at45T_eq (r : Nat) : callP ML1 1000 (.call 99 [.int .i64 (.ofNat 0), .int .i64 (.ofNat r), .int .i64 (.ofNat 45)] (gHeap 12 gl)) [] jK = at45T r := by kernel_rfl
theorem at45_tot (r : Nat) : isAt (at45T r) = true := by
  unfold at45T atG
  by_cases h : r < 16
  · simp only [sub_nat (Nat.le_of_lt h) (by decide), ilt_nat0, bc_false, bc_true, eqb_int]
    repeat (first | rfl | apply bc_sh)
  · have g : Nat.blt r 16 = false := by rw [Bool.eq_false_iff]; intro hc; rw [Nat.blt_eq] at hc; exact h hc
    simp only [g, bc_true, Bool.not_false]
    repeat (first | rfl | apply bc_sh)
def at46T (r : Nat) : Option AV := atG 16 15 r
theorem at46T_eq (r : Nat) : callP ML1 1000 (.call 99 [.int .i64 (.ofNat 0), .int .i64 (.ofNat r), .int .i64 (.ofNat 46)] (gHeap 12 gl)) [] jK = at46T r := by kernel_rfl
theorem at46_tot (r : Nat) : isAt (at46T r) = true := by
  unfold at46T atG
  by_cases h : r < 16
  · simp only [sub_nat (Nat.le_of_lt h) (by decide), ilt_nat0, bc_false, bc_true, eqb_int]
    repeat (first | rfl | apply bc_sh)
  · have g : Nat.blt r 16 = false := by rw [Bool.eq_false_iff]; intro hc; rw [Nat.blt_eq] at hc; exact h hc
    simp only [g, bc_true, Bool.not_false]
    repeat (first | rfl | apply bc_sh)
def at47T (r : Nat) : Option AV := bc (Nat.blt 63 r) (some (.tup [.int .u64 (.ofNat 0), .bool false])) (some (.tup [.int .u64 (.ofNat 0), .bool false]))
theorem at47T_eq (r : Nat) : callP ML1 1000 (.call 99 [.int .i64 (.ofNat 0), .int .i64 (.ofNat r), .int .i64 (.ofNat 47)] (gHeap 12 gl)) [] jK = at47T r := by kernel_rfl
theorem at47_tot (r : Nat) : isAt (at47T r) = true := by
  unfold at47T
  repeat (first | rfl | apply bc_sh)
def at48T (r : Nat) : Option AV := atG 8 1 r
theorem at48T_eq (r : Nat) : callP ML1 1000 (.call 99 [.int .i64 (.ofNat 0), .int .i64 (.ofNat r), .int .i64 (.ofNat 48)] (gHeap 12 gl)) [] jK = at48T r := by kernel_rfl
theorem at48_tot (r : Nat) : isAt (at48T r) = true := by
  unfold at48T atG
  by_cases h : r < 8
  · simp only [sub_nat (Nat.le_of_lt h) (by decide), ilt_nat0, bc_false, bc_true, eqb_int]
    repeat (first | rfl | apply bc_sh)
  · have g : Nat.blt r 8 = false := by rw [Bool.eq_false_iff]; intro hc; rw [Nat.blt_eq] at hc; exact h hc
    simp only [g, bc_true, Bool.not_false]
    repeat (first | rfl | apply bc_sh)
def at49T (r : Nat) : Option AV := atG 8 2 r
theorem at49T_eq (r : Nat) : callP ML1 1000 (.call 99 [.int .i64 (.ofNat 0), .int .i64 (.ofNat r), .int .i64 (.ofNat 49)] (gHeap 12 gl)) [] jK = at49T r := by kernel_rfl
theorem at49_tot (r : Nat) : isAt (at49T r) = true := by
  unfold at49T atG
  by_cases h : r < 8
  · simp only [sub_nat (Nat.le_of_lt h) (by decide), ilt_nat0, bc_false, bc_true, eqb_int]
    repeat (first | rfl | apply bc_sh)
  · have g : Nat.blt r 8 = false := by rw [Bool.eq_false_iff]; intro hc; rw [Nat.blt_eq] at hc; exact h hc
    simp only [g, bc_true, Bool.not_false]
    repeat (first | rfl | apply bc_sh)
def at50T (r : Nat) : Option AV := atG 8 3 r
theorem at50T_eq (r : Nat) : callP ML1 1000 (.call 99 [.int .i64 (.ofNat 0), .int .i64 (.ofNat r), .int .i64 (.ofNat 50)] (gHeap 12 gl)) [] jK = at50T r := by kernel_rfl
theorem at50_tot (r : Nat) : isAt (at50T r) = true := by
  unfold at50T atG
  by_cases h : r < 8
  · simp only [sub_nat (Nat.le_of_lt h) (by decide), ilt_nat0, bc_false, bc_true, eqb_int]
    repeat (first | rfl | apply bc_sh)
  · have g : Nat.blt r 8 = false := by rw [Bool.eq_false_iff]; intro hc; rw [Nat.blt_eq] at hc; exact h hc
    simp only [g, bc_true, Bool.not_false]
    repeat (first | rfl | apply bc_sh)
def at51T (r : Nat) : Option AV := atG 8 4 r
theorem at51T_eq (r : Nat) : callP ML1 1000 (.call 99 [.int .i64 (.ofNat 0), .int .i64 (.ofNat r), .int .i64 (.ofNat 51)] (gHeap 12 gl)) [] jK = at51T r := by kernel_rfl
theorem at51_tot (r : Nat) : isAt (at51T r) = true := by
  unfold at51T atG
  by_cases h : r < 8
  · simp only [sub_nat (Nat.le_of_lt h) (by decide), ilt_nat0, bc_false, bc_true, eqb_int]
    repeat (first | rfl | apply bc_sh)
  · have g : Nat.blt r 8 = false := by rw [Bool.eq_false_iff]; intro hc; rw [Nat.blt_eq] at hc; exact h hc
    simp only [g, bc_true, Bool.not_false]
    repeat (first | rfl | apply bc_sh)
def at52T (r : Nat) : Option AV := atG 8 5 r
theorem at52T_eq (r : Nat) : callP ML1 1000 (.call 99 [.int .i64 (.ofNat 0), .int .i64 (.ofNat r), .int .i64 (.ofNat 52)] (gHeap 12 gl)) [] jK = at52T r := by kernel_rfl
theorem at52_tot (r : Nat) : isAt (at52T r) = true := by
  unfold at52T atG
  by_cases h : r < 8
  · simp only [sub_nat (Nat.le_of_lt h) (by decide), ilt_nat0, bc_false, bc_true, eqb_int]
    repeat (first | rfl | apply bc_sh)
  · have g : Nat.blt r 8 = false := by rw [Bool.eq_false_iff]; intro hc; rw [Nat.blt_eq] at hc; exact h hc
    simp only [g, bc_true, Bool.not_false]
    repeat (first | rfl | apply bc_sh)
def at53T (r : Nat) : Option AV := atG 8 6 r
theorem at53T_eq (r : Nat) : callP ML1 1000 (.call 99 [.int .i64 (.ofNat 0), .int .i64 (.ofNat r), .int .i64 (.ofNat 53)] (gHeap 12 gl)) [] jK = at53T r := by kernel_rfl
theorem at53_tot (r : Nat) : isAt (at53T r) = true := by
  unfold at53T atG
  by_cases h : r < 8
  · simp only [sub_nat (Nat.le_of_lt h) (by decide), ilt_nat0, bc_false, bc_true, eqb_int]
    repeat (first | rfl | apply bc_sh)
  · have g : Nat.blt r 8 = false := by rw [Bool.eq_false_iff]; intro hc; rw [Nat.blt_eq] at hc; exact h hc
    simp only [g, bc_true, Bool.not_false]
    repeat (first | rfl | apply bc_sh)
def at54T (r : Nat) : Option AV := atG 8 7 r
theorem at54T_eq (r : Nat) : callP ML1 1000 (.call 99 [.int .i64 (.ofNat 0), .int .i64 (.ofNat r), .int .i64 (.ofNat 54)] (gHeap 12 gl)) [] jK = at54T r := by kernel_rfl
theorem at54_tot (r : Nat) : isAt (at54T r) = true := by
  unfold at54T atG
  by_cases h : r < 8
  · simp only [sub_nat (Nat.le_of_lt h) (by decide), ilt_nat0, bc_false, bc_true, eqb_int]
    repeat (first | rfl | apply bc_sh)
  · have g : Nat.blt r 8 = false := by rw [Bool.eq_false_iff]; intro hc; rw [Nat.blt_eq] at hc; exact h hc
    simp only [g, bc_true, Bool.not_false]
    repeat (first | rfl | apply bc_sh)
def at55T (r : Nat) : Option AV := bc (Nat.blt 63 r) (some (.tup [.int .u64 (.ofNat 0), .bool false])) (some (.tup [.int .u64 (.ofNat 0), .bool false]))
theorem at55T_eq (r : Nat) : callP ML1 1000 (.call 99 [.int .i64 (.ofNat 0), .int .i64 (.ofNat r), .int .i64 (.ofNat 55)] (gHeap 12 gl)) [] jK = at55T r := by kernel_rfl
theorem at55_tot (r : Nat) : isAt (at55T r) = true := by
  unfold at55T
  repeat (first | rfl | apply bc_sh)
def at56T (r : Nat) : Option AV := atG 4 1 r
theorem at56T_eq (r : Nat) : callP ML1 1000 (.call 99 [.int .i64 (.ofNat 0), .int .i64 (.ofNat r), .int .i64 (.ofNat 56)] (gHeap 12 gl)) [] jK = at56T r := by kernel_rfl
theorem at56_tot (r : Nat) : isAt (at56T r) = true := by
  unfold at56T atG
  by_cases h : r < 4
  · simp only [sub_nat (Nat.le_of_lt h) (by decide), ilt_nat0, bc_false, bc_true, eqb_int]
    repeat (first | rfl | apply bc_sh)
  · have g : Nat.blt r 4 = false := by rw [Bool.eq_false_iff]; intro hc; rw [Nat.blt_eq] at hc; exact h hc
    simp only [g, bc_true, Bool.not_false]
    repeat (first | rfl | apply bc_sh)
def at57T (r : Nat) : Option AV := atG 4 2 r
theorem at57T_eq (r : Nat) : callP ML1 1000 (.call 99 [.int .i64 (.ofNat 0), .int .i64 (.ofNat r), .int .i64 (.ofNat 57)] (gHeap 12 gl)) [] jK = at57T r := by kernel_rfl
theorem at57_tot (r : Nat) : isAt (at57T r) = true := by
  unfold at57T atG
  by_cases h : r < 4
  · simp only [sub_nat (Nat.le_of_lt h) (by decide), ilt_nat0, bc_false, bc_true, eqb_int]
    repeat (first | rfl | apply bc_sh)
  · have g : Nat.blt r 4 = false := by rw [Bool.eq_false_iff]; intro hc; rw [Nat.blt_eq] at hc; exact h hc
    simp only [g, bc_true, Bool.not_false]
    repeat (first | rfl | apply bc_sh)
def at58T (r : Nat) : Option AV := atG 4 3 r
theorem at58T_eq (r : Nat) : callP ML1 1000 (.call 99 [.int .i64 (.ofNat 0), .int .i64 (.ofNat r), .int .i64 (.ofNat 58)] (gHeap 12 gl)) [] jK = at58T r := by kernel_rfl
theorem at58_tot (r : Nat) : isAt (at58T r) = true := by
  unfold at58T atG
  by_cases h : r < 4
  · simp only [sub_nat (Nat.le_of_lt h) (by decide), ilt_nat0, bc_false, bc_true, eqb_int]
    repeat (first | rfl | apply bc_sh)
  · have g : Nat.blt r 4 = false := by rw [Bool.eq_false_iff]; intro hc; rw [Nat.blt_eq] at hc; exact h hc
    simp only [g, bc_true, Bool.not_false]
    repeat (first | rfl | apply bc_sh)
def at59T (r : Nat) : Option AV := bc (Nat.blt 63 r) (some (.tup [.int .u64 (.ofNat 0), .bool false])) (some (.tup [.int .u64 (.ofNat 0), .bool false]))
theorem at59T_eq (r : Nat) : callP ML1 1000 (.call 99 [.int .i64 (.ofNat 0), .int .i64 (.ofNat r), .int .i64 (.ofNat 59)] (gHeap 12 gl)) [] jK = at59T r := by kernel_rfl
theorem at59_tot (r : Nat) : isAt (at59T r) = true := by
  unfold at59T
  repeat (first | rfl | apply bc_sh)
def at60T (r : Nat) : Option AV := atG 2 1 r
theorem at60T_eq (r : Nat) : callP ML1 1000 (.call 99 [.int .i64 (.ofNat 0), .int .i64 (.ofNat r), .int .i64 (.ofNat 60)] (gHeap 12 gl)) [] jK = at60T r := by kernel_rfl
theorem at60_tot (r : Nat) : isAt (at60T r) = true := by
  unfold at60T atG
  by_cases h : r < 2
  · simp only [sub_nat (Nat.le_of_lt h) (by decide), ilt_nat0, bc_false, bc_true, eqb_int]
    repeat (first | rfl | apply bc_sh)
  · have g : Nat.blt r 2 = false := by rw [Bool.eq_false_iff]; intro hc; rw [Nat.blt_eq] at hc; exact h hc
    simp only [g, bc_true, Bool.not_false]
    repeat (first | rfl | apply bc_sh)
def at61T (r : Nat) : Option AV := bc (Nat.blt 63 r) (some (.tup [.int .u64 (.ofNat 0), .bool false])) (some (.tup [.int .u64 (.ofNat 0), .bool false]))
theorem at61T_eq (r : Nat) : callP ML1 1000 (.call 99 [.int .i64 (.ofNat 0), .int .i64 (.ofNat r), .int .i64 (.ofNat 61)] (gHeap 12 gl)) [] jK = at61T r := by kernel_rfl
theorem at61_tot (r : Nat) : isAt (at61T r) = true := by
  unfold at61T
  repeat (first | rfl | apply bc_sh)
def at62T (r : Nat) : Option AV := bc (Nat.blt 63 r) (some (.tup [.int .u64 (.ofNat 0), .bool false])) (some (.tup [.int .u64 (.ofNat 0), .bool false]))
theorem at62T_eq (r : Nat) : callP ML1 1000 (.call 99 [.int .i64 (.ofNat 0), .int .i64 (.ofNat r), .int .i64 (.ofNat 62)] (gHeap 12 gl)) [] jK = at62T r := by kernel_rfl
theorem at62_tot (r : Nat) : isAt (at62T r) = true := by
  unfold at62T
  repeat (first | rfl | apply bc_sh)
def at63T (r : Nat) : Option AV := bc (Nat.blt 63 r) (some (.tup [.int .u64 (.ofNat 0), .bool false])) (some (.tup [.int .u64 (.ofNat 0), .bool false]))
theorem at63T_eq (r : Nat) : callP ML1 1000 (.call 99 [.int .i64 (.ofNat 0), .int .i64 (.ofNat r), .int .i64 (.ofNat 63)] (gHeap 12 gl)) [] jK = at63T r := by kernel_rfl
theorem at63_tot (r : Nat) : isAt (at63T r) = true := by
  unfold at63T
  repeat (first | rfl | apply bc_sh)
def at64T (r : Nat) : Option AV := atG 64 1 r
theorem at64T_eq (r : Nat) : callP ML1 1000 (.call 99 [.int .i64 (.ofNat 1), .int .i64 (.ofNat r), .int .i64 (.ofNat 0)] (gHeap 12 gl)) [] jK = at64T r := by kernel_rfl
theorem at64_tot (r : Nat) : isAt (at64T r) = true := by
  unfold at64T atG
  by_cases h : r < 64
  · simp only [sub_nat (Nat.le_of_lt h) (by decide), ilt_nat0, bc_false, bc_true, eqb_int]
    repeat (first | rfl | apply bc_sh)
  · have g : Nat.blt r 64 = false := by rw [Bool.eq_false_iff]; intro hc; rw [Nat.blt_eq] at hc; exact h hc
    simp only [g, bc_true, Bool.not_false]
    repeat (first | rfl | apply bc_sh)
def at65T (r : Nat) : Option AV := atG 64 2 r
theorem at65T_eq (r : Nat) : callP ML1 1000 (.call 99 [.int .i64 (.ofNat 1), .int .i64 (.ofNat r), .int .i64 (.ofNat 1)] (gHeap 12 gl)) [] jK = at65T r := by kernel_rfl
theorem at65_tot (r : Nat) : isAt (at65T r) = true := by
  unfold at65T atG
  by_cases h : r < 64
  · simp only [sub_nat (Nat.le_of_lt h) (by decide), ilt_nat0, bc_false, bc_true, eqb_int]
    repeat (first | rfl | apply bc_sh)
  · have g : Nat.blt r 64 = false := by rw [Bool.eq_false_iff]; intro hc; rw [Nat.blt_eq] at hc; exact h hc
    simp only [g, bc_true, Bool.not_false]
    repeat (first | rfl | apply bc_sh)
def at66T (r : Nat) : Option AV := atG 64 3 r
theorem at66T_eq (r : Nat) : callP ML1 1000 (.call 99 [.int .i64 (.ofNat 1), .int .i64 (.ofNat r), .int .i64 (.ofNat 2)] (gHeap 12 gl)) [] jK = at66T r := by kernel_rfl
theorem at66_tot (r : Nat) : isAt (at66T r) = true := by
  unfold at66T atG
  by_cases h : r < 64
  · simp only [sub_nat (Nat.le_of_lt h) (by decide), ilt_nat0, bc_false, bc_true, eqb_int]
    repeat (first | rfl | apply bc_sh)
  · have g : Nat.blt r 64 = false := by rw [Bool.eq_false_iff]; intro hc; rw [Nat.blt_eq] at hc; exact h hc
    simp only [g, bc_true, Bool.not_false]
    repeat (first | rfl | apply bc_sh)
def at67T (r : Nat) : Option AV := atG 64 4 r
theorem at67T_eq (r : Nat) : callP ML1 1000 (.call 99 [.int .i64 (.ofNat 1), .int .i64 (.ofNat r), .int .i64 (.ofNat 3)] (gHeap 12 gl)) [] jK = at67T r := by kernel_rfl
theorem at67_tot (r : Nat) : isAt (at67T r) = true := by
  unfold at67T atG
  by_cases h : r < 64
  · simp only [sub_nat (Nat.le_of_lt h) (by decide), ilt_nat0, bc_false, bc_true, eqb_int]
    repeat (first | rfl | apply bc_sh)
  · have g : Nat.blt r 64 = false := by rw [Bool.eq_false_iff]; intro hc; rw [Nat.blt_eq] at hc; exact h hc
    simp only [g, bc_true, Bool.not_false]
    repeat (first | rfl | apply bc_sh)
def at68T (r : Nat) : Option AV := atG 64 5 r
theorem at68T_eq (r : Nat) : callP ML1 1000 (.call 99 [.int .i64 (.ofNat 1), .int .i64 (.ofNat r), .int .i64 (.ofNat 4)] (gHeap 12 gl)) [] jK = at68T r := by kernel_rfl
theorem at68_tot (r : Nat) : isAt (at68T r) = true := by
  unfold at68T atG
  by_cases h : r < 64
  · simp only [sub_nat (Nat.le_of_lt h) (by decide), ilt_nat0, bc_false, bc_true, eqb_int]
    repeat (first | rfl | apply bc_sh)
  · have g : Nat.blt r 64 = false := by rw [Bool.eq_false_iff]; intro hc; rw [Nat.blt_eq] at hc; exact h hc
    simp only [g, bc_true, Bool.not_false]
    repeat (first | rfl | apply bc_sh)
def at69T (r : Nat) : Option AV := atG 64 6 r
theorem at69T_eq (r : Nat) : callP ML1 1000 (.call 99 [.int .i64 (.ofNat 1), .int .i64 (.ofNat r), .int .i64 (.ofNat 5)] (gHeap 12 gl)) [] jK = at69T r := by kernel_rfl
theorem at69_tot (r : Nat) : isAt (at69T r) = true := by
  unfold at69T atG
  by_cases h : r < 64
  · simp only [sub_nat (Nat.le_of_lt h) (by decide), ilt_nat0, bc_false, bc_true, eqb_int]
    repeat (first | rfl | apply bc_sh)
  · have g : Nat.blt r 64 = false := by rw [Bool.eq_false_iff]; intro hc; rw [Nat.blt_eq] at hc; exact h hc
    simp only [g, bc_true, Bool.not_false]
    repeat (first | rfl | apply bc_sh)
def at70T (r : Nat) : Option AV := atG 64 7 r
theorem at70T_eq (r : Nat) : callP ML1 1000 (.call 99 [.int .i64 (.ofNat 1), .int .i64 (.ofNat r), .int .i64 (.ofNat 6)] (gHeap 12 gl)) [] jK = at70T r := by kernel_rfl
theorem at70_tot (r : Nat) : isAt (at70T r) = true := by
  unfold at70T atG
  by_cases h : r < 64
  · simp only [sub_nat (Nat.le_of_lt h) (by decide), ilt_nat0, bc_false, bc_true, eqb_int]
    repeat (first | rfl | apply bc_sh)
  · have g : Nat.blt r 64 = false := by rw [Bool.eq_false_iff]; intro hc; rw [Nat.blt_eq] at hc; exact h hc
    simp only [g, bc_true, Bool.not_false]
    repeat (first | rfl | apply bc_sh)
def at71T (r : Nat) : Option AV := atG 64 8 r
theorem at71T_eq (r : Nat) : callP ML1 1000 (.call 99 [.int .i64 (.ofNat 1), .int .i64 (.ofNat r), .int .i64 (.ofNat 7)] (gHeap 12 gl)) [] jK = at71T r := by kernel_rfl
theorem at71_tot (r : Nat) : isAt (at71T r) = true := by
  unfold at71T atG
  by_cases h : r < 64
  · simp only [sub_nat (Nat.le_of_lt h) (by decide), ilt_nat0, bc_false, bc_true, eqb_int]
    repeat (first | rfl | apply bc_sh)
  · have g : Nat.blt r 64 = false := by rw [Bool.eq_false_iff]; intro hc; rw [Nat.blt_eq] at hc; exact h hc
    simp only [g, bc_true, Bool.not_false]
    repeat (first | rfl | apply bc_sh)
def at72T (r : Nat) : Option AV := atG 64 9 r
theorem at72T_eq (r : Nat) : callP ML1 1000 (.call 99 [.int .i64 (.ofNat 1), .int .i64 (.ofNat r), .int .i64 (.ofNat 8)] (gHeap 12 gl)) [] jK = at72T r := by kernel_rfl
theorem at72_tot (r : Nat) : isAt (at72T r) = true := by
  unfold at72T atG
  by_cases h : r < 64
  · simp only [sub_nat (Nat.le_of_lt h) (by decide), ilt_nat0, bc_false, bc_true, eqb_int]
    repeat (first | rfl | apply bc_sh)
  · have g : Nat.blt r 64 = false := by rw [Bool.eq_false_iff]; intro hc; rw [Nat.blt_eq] at hc; exact h hc
    simp only [g, bc_true, Bool.not_false]
    repeat (first | rfl | apply bc_sh)
def at73T (r : Nat) : Option AV := atG 64 10 r
theorem at73T_eq (r : Nat) : callP ML1 1000 (.call 99 [.int .i64 (.ofNat 1), .int .i64 (.ofNat r), .int .i64 (.ofNat 9)] (gHeap 12 gl)) [] jK = at73T r := by kernel_rfl
theorem at73_tot (r : Nat) : isAt (at73T r) = true := by
  unfold at73T atG
  by_cases h : r < 64
  · simp only [sub_nat (Nat.le_of_lt h) (by decide), ilt_nat0, bc_false, bc_true, eqb_int]
    repeat (first | rfl | apply bc_sh)
  · have g : Nat.blt r 64 = false := by rw [Bool.eq_false_iff]; intro hc; rw [Nat.blt_eq] at hc; exact h hc
    simp only [g, bc_true, Bool.not_false]
    repeat (first | rfl | apply bc_sh)
def at74T (r : Nat) : Option AV := atG 64 11 r
theorem at74T_eq (r : Nat) : callP ML1 1000 (.call 99 [.int .i64 (.ofNat 1), .int .i64 (.ofNat r), .int .i64 (.ofNat 10)] (gHeap 12 gl)) [] jK = at74T r := by kernel_rfl
theorem at74_tot (r : Nat) : isAt (at74T r) = true := by
  unfold at74T atG
  by_cases h : r < 64
  · simp only [sub_nat (Nat.le_of_lt h) (by decide), ilt_nat0, bc_false, bc_true, eqb_int]
    repeat (first | rfl | apply bc_sh)
  · have g : Nat.blt r 64 = false := by rw [Bool.eq_false_iff]; intro hc; rw [Nat.blt_eq] at hc; exact h hc
    simp only [g, bc_true, Bool.not_false]
    repeat (first | rfl | apply bc_sh)
def at75T (r : Nat) : Option AV := atG 64 12 r
theorem at75T_eq (r : Nat) : callP ML1 1000 (.call 99 [.int .i64 (.ofNat 1), .int .i64 (.ofNat r), .int .i64 (.ofNat 11)] (gHeap 12 gl)) [] jK = at75T r := by kernel_rfl
theorem at75_tot (r : Nat) : isAt (at75T r) = true := by
  unfold at75T atG
  by_cases h : r < 64
  · simp only [sub_nat (Nat.le_of_lt h) (by decide), ilt_nat0, bc_false, bc_true, eqb_int]
    repeat (first | rfl | apply bc_sh)
  · have g : Nat.blt r 64 = false := by rw [Bool.eq_false_iff]; intro hc; rw [Nat.blt_eq] at hc; exact h hc
    simp only [g, bc_true, Bool.not_false]
    repeat (first | rfl | apply bc_sh)
def at76T (r : Nat) : Option AV := atG 64 13 r
theorem at76T_eq (r : Nat) : callP ML1 1000 (.call 99 [.int .i64 (.ofNat 1), .int .i64 (.ofNat r), .int .i64 (.ofNat 12)] (gHeap 12 gl)) [] jK = at76T r := by kernel_rfl
theorem at76_tot (r : Nat) : isAt (at76T r) = true := by
  unfold at76T atG
  by_cases h : r < 64
  · simp only [sub_nat (Nat.le_of_lt h) (by decide), ilt_nat0, bc_false, bc_true, eqb_int]
    repeat (first | rfl | apply bc_sh)
  · have g : Nat.blt r 64 = false := by rw [Bool.eq_false_iff]; intro hc; rw [Nat.blt_eq] at hc; exact h hc
    simp only [g, bc_true, Bool.not_false]
    repeat (first | rfl | apply bc_sh)
def at77T (r : Nat) : Option AV := atG 64 14 r
theorem at77T_eq (r : Nat) : callP ML1 1000 (.call 99 [.int .i64 (.ofNat 1), .int .i64 (.ofNat r), .int .i64 (.ofNat 13)] (gHeap 12 gl)) [] jK = at77T r := by kernel_rfl
theorem at77_tot (r : Nat) : isAt (at77T r) = true := by
  unfold at77T atG
  by_cases h : r < 64
  · simp only [sub_nat (Nat.le_of_lt h) (by decide), ilt_nat0, bc_false, bc_true, eqb_int]
    repeat (first | rfl | apply bc_sh)
  · have g : Nat.blt r 64 = false := by rw [Bool.eq_false_iff]; intro hc; rw [Nat.blt_eq] at hc; exact h hc
    simp only [g, bc_true, Bool.not_false]
    repeat (first | rfl | apply bc_sh)
def at78T (r : Nat) : Option AV := atG 64 15 r
theorem at78T_eq (r : Nat) : callP ML1 1000 (.call 99 [.int .i64 (.ofNat 1), .int .i64 (.ofNat r), .int .i64 (.ofNat 14)] (gHeap 12 gl)) [] jK = at78T r := by kernel_rfl
theorem at78_tot (r : Nat) : isAt (at78T r) = true := by
  unfold at78T atG
  by_cases h : r < 64
  · simp only [sub_nat (Nat.le_of_lt h) (by decide), ilt_nat0, bc_false, bc_true, eqb_int]
    repeat (first | rfl | apply bc_sh)
  · have g : Nat.blt r 64 = false := by rw [Bool.eq_false_iff]; intro hc; rw [Nat.blt_eq] at hc; exact h hc
    simp only [g, bc_true, Bool.not_false]
    repeat (first | rfl | apply bc_sh)
def at79T (r : Nat) : Option AV := atG 64 16 r
theorem at79T_eq (r : Nat) : callP ML1 1000 (.call 99 [.int .i64 (.ofNat 1), .int .i64 (.ofNat r), .int .i64 (.ofNat 15)] (gHeap 12 gl)) [] jK = at79T r := by kernel_rfl
theorem at79_tot (r : Nat) : isAt (at79T r) = true := by
  unfold at79T atG
  by_cases h : r < 64
  · simp only [sub_nat (Nat.le_of_lt h) (by decide), ilt_nat0, bc_false, bc_true, eqb_int]
    repeat (first | rfl | apply bc_sh)
  · have g : Nat.blt r 64 = false := by rw [Bool.eq_false_iff]; intro hc; rw [Nat.blt_eq] at hc; exact h hc
    simp only [g, bc_true, Bool.not_false]
    repeat (first | rfl | apply bc_sh)
def at80T (r : Nat) : Option AV := atG 64 17 r
theorem at80T_eq (r : Nat) : callP ML1 1000 (.call 99 [.int .i64 (.ofNat 1), .int .i64 (.ofNat r), .int .i64 (.ofNat 16)] (gHeap 12 gl)) [] jK = at80T r := by kernel_rfl
theorem at80_tot (r : Nat) : isAt (at80T r) = true := by
  unfold at80T atG
  by_cases h : r < 64
  · simp only [sub_nat (Nat.le_of_lt h) (by decide), ilt_nat0, bc_false, bc_true, eqb_int]
    repeat (first | rfl | apply bc_sh)
  · have g : Nat.blt r 64 = false := by rw [Bool.eq_false_iff]; intro hc; rw [Nat.blt_eq] at hc; exact h hc
    simp only [g, bc_true, Bool.not_false]
    repeat (first | rfl | apply bc_sh)
def at81T (r : Nat) : Option AV := atG 64 18 r
theorem at81T_eq (r : Nat) : callP ML1 1000 (.call 99 [.int .i64 (.ofNat 1), .int .i64 (.ofNat r), .int .i64 (.ofNat 17)] (gHeap 12 gl)) [] jK = at81T r := by kernel_rfl
theorem at81_tot (r : Nat) : isAt (at81T r) = true := by
  unfold at81T atG
  by_cases h : r < 64
  · simp only [sub_nat (Nat.le_of_lt h) (by decide), ilt_nat0, bc_false, bc_true, eqb_int]
    repeat (first | rfl | apply bc_sh)
  · have g : Nat.blt r 64 = false := by rw [Bool.eq_false_iff]; intro hc; rw [Nat.blt_eq] at hc; exact h hc
    simp only [g, bc_true, Bool.not_false]
    repeat (first | rfl | apply bc_sh)
def at82T (r : Nat) : Option AV := atG 64 19 r
theorem at82T_eq (r : Nat) : callP ML1 1000 (.call 99 [.int .i64 (.ofNat 1), .int .i64 (.ofNat r), .int .i64 (.ofNat 18)] (gHeap 12 gl)) [] jK = at82T r := by kernel_rfl
theorem at82_tot (r : Nat) : isAt (at82T r) = true := by
  unfold at82T atG
  by_cases h : r < 64
  · simp only [sub_nat (Nat.le_of_lt h) (by decide), ilt_nat0, bc_false, bc_true, eqb_int]
    repeat (first | rfl | apply bc_sh)
  · have g : Nat.blt r 64 = false := by rw [Bool.eq_false_iff]; intro hc; rw [Nat.blt_eq] at hc; exact h hc
    simp only [g, bc_true, Bool.not_false]
    repeat (first | rfl | apply bc_sh)
def at83T (r : Nat) : Option AV := atG 64 20 r
theorem at83T_eq (r : Nat) : callP ML1 1000 (.call 99 [.int .i64 (.ofNat 1), .int .i64 (.ofNat r), .int .i64 (.ofNat 19)] (gHeap 12 gl)) [] jK = at83T r := by kernel_rfl
theorem at83_tot (r : Nat) : isAt (at83T r) = true := by
  unfold at83T atG
  by_cases h : r < 64
  · simp only [sub_nat (Nat.le_of_lt h) (by decide), ilt_nat0, bc_false, bc_true, eqb_int]
    repeat (first | rfl | apply bc_sh)
  · have g : Nat.blt r 64 = false := by rw [Bool.eq_false_iff]; intro hc; rw [Nat.blt_eq] at hc; exact h hc
    simp only [g, bc_true, Bool.not_false]
    repeat (first | rfl | apply bc_sh)
def at84T (r : Nat) : Option AV := atG 64 21 r
theorem at84T_eq (r : Nat) : callP ML1 1000 (.call 99 [.int .i64 (.ofNat 1), .int .i64 (.ofNat r), .int .i64 (.ofNat 20)] (gHeap 12 gl)) [] jK = at84T r := by kernel_rfl
theorem at84_tot (r : Nat) : isAt (at84T r) = true := by
  unfold at84T atG
  by_cases h : r < 64
  · simp only [sub_nat (Nat.le_of_lt h) (by decide), ilt_nat0, bc_false, bc_true, eqb_int]
    repeat (first | rfl | apply bc_sh)
  · have g : Nat.blt r 64 = false := by rw [Bool.eq_false_iff]; intro hc; rw [Nat.blt_eq] at hc; exact h hc
    simp only [g, bc_true, Bool.not_false]
    repeat (first | rfl | apply bc_sh)
def at85T (r : Nat) : Option AV := atG 64 22 r
theorem at85T_eq (r : Nat) : callP ML1 1000 (.call 99 [.int .i64 (.ofNat 1), .int .i64 (.ofNat r), .int .i64 (.ofNat 21)] (gHeap 12 gl)) [] jK = at85T r := by kernel_rfl
theorem at85_tot (r : Nat) : isAt (at85T r) = true := by
  unfold at85T atG
  by_cases h : r < 64
  · simp only [sub_nat (Nat.le_of_lt h) (by decide), ilt_nat0, bc_false, bc_true, eqb_int]
    repeat (first | rfl | apply bc_sh)
  · have g : Nat.blt r 64 = false := by rw [Bool.eq_false_iff]; intro hc; rw [Nat.blt_eq] at hc; exact h hc
    simp only [g, bc_true, Bool.not_false]
    repeat (first | rfl | apply bc_sh)
def at86T (r : Nat) : Option AV := atG 64 23 r
theorem at86T_eq (r : Nat) : callP ML1 1000 (.call 99 [.int .i64 (.ofNat 1), .int .i64 (.ofNat r), .int .i64 (.ofNat 22)] (gHeap 12 gl)) [] jK = at86T r := by kernel_rfl
theorem at86_tot (r : Nat) : isAt (at86T r) = true := by
  unfold at86T atG
  by_cases h : r < 64
  · simp only [sub_nat (Nat.le_of_lt h) (by decide), ilt_nat0, bc_false, bc_true, eqb_int]
    repeat (first | rfl | apply bc_sh)
  · have g : Nat.blt r 64 = false := by rw [Bool.eq_false_iff]; intro hc; rw [Nat.blt_eq] at hc; exact h hc
    simp only [g, bc_true, Bool.not_false]
    repeat (first | rfl | apply bc_sh)
def at87T (r : Nat) : Option AV := atG 64 24 r
theorem at87T_eq (r : Nat) : callP ML1 1000 (.call 99 [.int .i64 (.ofNat 1), .int .i64 (.ofNat r), .int .i64 (.ofNat 23)] (gHeap 12 gl)) [] jK = at87T r := by kernel_rfl
theorem at87_tot (r : Nat) : isAt (at87T r) = true := by
  unfold at87T atG
  by_cases h : r < 64
  · simp only [sub_nat (Nat.le_of_lt h) (by decide), ilt_nat0, bc_false, bc_true, eqb_int]
    repeat (first | rfl | apply bc_sh)
  · have g : Nat.blt r 64 = false := by rw [Bool.eq_false_iff]; intro hc; rw [Nat.blt_eq] at hc; exact h hc
    simp only [g, bc_true, Bool.not_false]
    repeat (first | rfl | apply bc_sh)
def at88T (r : Nat) : Option AV := atG 64 25 r
theorem at88T_eq (r : Nat) : callP ML1 1000 (.call 99 [.int .i64 (.ofNat 1), .int .i64 (.ofNat r), .int .i64 (.ofNat 24)] (gHeap 12 gl)) [] jK = at88T r := by kernel_rfl
theorem at88_tot (r : Nat) : isAt (at88T r) = true := by
  unfold at88T atG
  by_cases h : r < 64
  · simp only [sub_nat (Nat.le_of_lt h) (by decide), ilt_nat0, bc_false, bc_true, eqb_int]
    repeat (first | rfl | apply bc_sh)
  · have g : Nat.blt r 64 = false := by rw [Bool.eq_false_iff]; intro hc; rw [Nat.blt_eq] at hc; exact h hc
    simp only [g, bc_true, Bool.not_false]
    repeat (first | rfl | apply bc_sh)
def at89T (r : Nat) : Option AV := atG 64 26 r
theorem at89T_eq (r : Nat) : callP ML1 1000 (.call 99 [.int .i64 (.ofNat 1), .int .i64 (.ofNat r), .int .i64 (.ofNat 25)] (gHeap 12 gl)) [] jK = at89T r := by kernel_rfl
theorem at89_tot (r : Nat) : isAt (at89T r) = true := by
  unfold at89T atG
  by_cases h : r < 64
  · simp only [sub_nat (Nat.le_of_lt h) (by decide), ilt_nat0, bc_false, bc_true, eqb_int]
    repeat (first | rfl | apply bc_sh)
  · have g : Nat.blt r 64 = false := by rw [Bool.eq_false_iff]; intro hc; rw [Nat.blt_eq] at hc; exact h hc
    simp only [g, bc_true, Bool.not_false]
    repeat (first | rfl | apply bc_sh)
def at90T (r : Nat) : Option AV := atG 64 27 r
theorem at90T_eq (r : Nat) : callP ML1 1000 (.call 99 [.int .i64 (.ofNat 1), .int .i64 (.ofNat r), .int .i64 (.ofNat 26)] (gHeap 12 gl)) [] jK = at90T r := by kernel_rfl
theorem at90_tot (r : Nat) : isAt (at90T r) = true := by
  unfold at90T atG
  by_cases h : r < 64
  · simp only [sub_nat (Nat.le_of_lt h) (by decide), ilt_nat0, bc_false, bc_true, eqb_int]
    repeat (first | rfl | apply bc_sh)
  · have g : Nat.blt r 64 = false := by rw [Bool.eq_false_iff]; intro hc; rw [Nat.blt_eq] at hc; exact h hc
    simp only [g, bc_true, Bool.not_false]
    repeat (first | rfl | apply bc_sh)
def at91T (r : Nat) : Option AV := atG 64 28 r
theorem at91T_eq (r : Nat) : callP ML1 1000 (.call 99 [.int .i64 (.ofNat 1), .int .i64 (.ofNat r), .int .i64 (.ofNat 27)] (gHeap 12 gl)) [] jK = at91T r := by kernel_rfl
theorem at91_tot (r : Nat) : isAt (at91T r) = true := by
  unfold at91T atG
  by_cases h : r < 64
  · simp only [sub_nat (Nat.le_of_lt h) (by decide), ilt_nat0, bc_false, bc_true, eqb_int]
    repeat (first | rfl | apply bc_sh)
  · have g : Nat.blt r 64 = false := by rw [Bool.eq_false_iff]; intro hc; rw [Nat.blt_eq] at hc; exact h hc
    simp only [g, bc_true, Bool.not_false]
    repeat (first | rfl | apply bc_sh)
def at92T (r : Nat) : Option AV := atG 64 29 r
theorem at92T_eq (r : Nat) : callP ML1 1000 (.call 99 [.int .i64 (.ofNat 1), .int .i64 (.ofNat r), .int .i64 (.ofNat 28)] (gHeap 12 gl)) [] jK = at92T r := by kernel_rfl
theorem at92_tot (r : Nat) : isAt (at92T r) = true := by
  unfold at92T atG
  by_cases h : r < 64
  · simp only [sub_nat (Nat.le_of_lt h) (by decide), ilt_nat0, bc_false, bc_true, eqb_int]
    repeat (first | rfl | apply bc_sh)
  · have g : Nat.blt r 64 = false := by rw [Bool.eq_false_iff]; intro hc; rw [Nat.blt_eq] at hc; exact h hc
    simp only [g, bc_true, Bool.not_false]
    repeat (first | rfl | apply bc_sh)
def at93T (r : Nat) : Option AV := atG 64 30 r
theorem at93T_eq (r : Nat) : callP ML1 1000 (.call 99 [.int .i64 (.ofNat 1), .int .i64 (.ofNat r), .int .i64 (.ofNat 29)] (gHeap 12 gl)) [] jK = at93T r := by kernel_rfl
theorem at93_tot (r : Nat) : isAt (at93T r) = true := by
  unfold at93T atG
  by_cases h : r < 64
  · simp only [sub_nat (Nat.le_of_lt h) (by decide), ilt_nat0, bc_false, bc_true, eqb_int]
    repeat (first | rfl | apply bc_sh)
  · have g : Nat.blt r 64 = false := by rw [Bool.eq_false_iff]; intro hc; rw [Nat.blt_eq] at hc; exact h hc
    simp only [g, bc_true, Bool.not_false]
    repeat (first | rfl | apply bc_sh)
def at94T (r : Nat) : Option AV := atG 64 31 r
theorem at94T_eq (r : Nat) : callP ML1 1000 (.call 99 [.int .i64 (.ofNat 1), .int .i64 (.ofNat r), .int .i64 (.ofNat 30)] (gHeap 12 gl)) [] jK = at94T r := by kernel_rfl
theorem at94_tot (r : Nat) : isAt (at94T r) = true := by
  unfold at94T atG
  by_cases h : r < 64
  · simp only [sub_nat (Nat.le_of_lt h) (by decide), ilt_nat0, bc_false, bc_true, eqb_int]
    repeat (first | rfl | apply bc_sh)
  · have g : Nat.blt r 64 = false := by rw [Bool.eq_false_iff]; intro hc; rw [Nat.blt_eq] at hc; exact h hc
    simp only [g, bc_true, Bool.not_false]
    repeat (first | rfl | apply bc_sh)
def at95T (r : Nat) : Option AV := atG 64 32 r
theorem at95T_eq (r : Nat) : callP ML1 1000 (.call 99 [.int .i64 (.ofNat 1), .int .i64 (.ofNat r), .int .i64 (.ofNat 31)] (gHeap 12 gl)) [] jK = at95T r := by kernel_rfl
theorem at95_tot (r : Nat) : isAt (at95T r) = true := by
  unfold at95T atG
  by_cases h : r < 64
  · simp only [sub_nat (Nat.le_of_lt h) (by decide), ilt_nat0, bc_false, bc_true, eqb_int]
    repeat (first | rfl | apply bc_sh)
  · have g : Nat.blt r 64 = false := by rw [Bool.eq_false_iff]; intro hc; rw [Nat.blt_eq] at hc; exact h hc
    simp only [g, bc_true, Bool.not_false]
    repeat (first | rfl | apply bc_sh)
def at96T (r : Nat) : Option AV := atG 64 33 r
theorem at96T_eq (r : Nat) : callP ML1 1000 (.call 99 [.int .i64 (.ofNat 1), .int .i64 (.ofNat r), .int .i64 (.ofNat 32)] (gHeap 12 gl)) [] jK = at96T r := by kernel_rfl
theorem at96_tot (r : Nat) : isAt (at96T r) = true := by
  unfold at96T atG
  by_cases h : r < 64
  · simp only [sub_nat (Nat.le_of_lt h) (by decide), ilt_nat0, bc_false, bc_true, eqb_int]
    repeat (first | rfl | apply bc_sh)
  · have g : Nat.blt r 64 = false := by rw [Bool.eq_false_iff]; intro hc; rw [Nat.blt_eq] at hc; exact h hc
    simp only [g, bc_true, Bool.not_false]
    repeat (first | rfl | apply bc_sh)
def at97T (r : Nat) : Option AV := atG 64 34 r
theorem at97T_eq (r : Nat) : callP ML1 1000 (.call 99 [.int .i64 (.ofNat 1), .int .i64 (.ofNat r), .int .i64 (.ofNat 33)] (gHeap 12 gl)) [] jK = at97T r := by kernel_rfl
theorem at97_tot (r : Nat) : isAt (at97T r) = true := by
  unfold at97T atG
  by_cases h : r < 64
  · simp only [sub_nat (Nat.le_of_lt h) (by decide), ilt_nat0, bc_false, bc_true, eqb_int]
    repeat (first | rfl | apply bc_sh)
  · have g : Nat.blt r 64 = false := by rw [Bool.eq_false_iff]; intro hc; rw [Nat.blt_eq] at hc; exact h hc
    simp only [g, bc_true, Bool.not_false]
    repeat (first | rfl | apply bc_sh)
def at98T (r : Nat) : Option AV := atG 64 35 r
theorem at98T_eq (r : Nat) : callP ML1 1000 (.call 99 [.int .i64 (.ofNat 1), .int .i64 (.ofNat r), .int .i64 (.ofNat 34)] (gHeap 12 gl)) [] jK = at98T r := by kernel_rfl
theorem at98_tot (r : Nat) : isAt (at98T r) = true := by
  unfold at98T atG
  by_cases h : r < 64
  · simp only [sub_nat (Nat.le_of_lt h) (by decide), ilt_nat0, bc_false, bc_true, eqb_int]
    repeat (first | rfl | apply bc_sh)
  · have g : Nat.blt r 64 = false := by rw [Bool.eq_false_iff]; intro hc; rw [Nat.blt_eq] at hc; exact h hc
    simp only [g, bc_true, Bool.not_false]
    repeat (first | rfl | apply bc_sh)
def at99T (r : Nat) : Option AV := atG 64 36 r
theorem at99T_eq (r : Nat) : callP ML1 1000 (.call 99 [.int .i64 (.ofNat 1), .int .i64 (.ofNat r), .int .i64 (.ofNat 35)] (gHeap 12 gl)) [] jK = at99T r := by kernel_rfl
theorem at99_tot (r : Nat) : isAt (at99T r) = true := by
  unfold at99T atG
  by_cases h : r < 64
  · simp only [sub_nat (Nat.le_of_lt h) (by decide), ilt_nat0, bc_false, bc_true, eqb_int]
    repeat (first | rfl | apply bc_sh)
  · have g : Nat.blt r 64 = false := by rw [Bool.eq_false_iff]; intro hc; rw [Nat.blt_eq] at hc; exact h hc
    simp only [g, bc_true, Bool.not_false]
    repeat (first | rfl | apply bc_sh)
def at100T (r : Nat) : Option AV := atG 64 37 r
theorem at100T_eq (r : Nat) : callP ML1 1000 (.call 99 [.int .i64 (.ofNat 1), .int .i64 (.ofNat r), .int .i64 (.ofNat 36)] (gHeap 12 gl)) [] jK = at100T r := by kernel_rfl
theorem at100_tot (r : Nat) : isAt (at100T r) = true := by
  unfold at100T atG
  by_cases h : r < 64
  · simp only [sub_nat (Nat.le_of_lt h) (by decide), ilt_nat0, bc_false, bc_true, eqb_int]
    repeat (first | rfl | apply bc_sh)
  · have g : Nat.blt r 64 = false := by rw [Bool.eq_false_iff]; intro hc; rw [Nat.blt_eq] at hc; exact h hc
    simp only [g, bc_true, Bool.not_false]
    repeat (first | rfl | apply bc_sh)
def at101T (r : Nat) : Option AV := atG 64 38 r
theorem at101T_eq (r : Nat) : callP ML1 1000 (.call 99 [.int .i64 (.ofNat 1), .int .i64 (.ofNat r), .int .i64 (.ofNat 37)] (gHeap 12 gl)) [] jK = at101T r := by kernel_rfl
theorem at101_tot (r : Nat) : isAt (at101T r) = true := by
  unfold at101T atG
  by_cases h : r < 64
  · simp only [sub_nat (Nat.le_of_lt h) (by decide), ilt_nat0, bc_false, bc_true, eqb_int]
    repeat (first | rfl | apply bc_sh)
  · have g : Nat.blt r 64 = false := by rw [Bool.eq_false_iff]; intro hc; rw [Nat.blt_eq] at hc; exact h hc
    simp only [g, bc_true, Bool.not_false]
    repeat (first | rfl | apply bc_sh)
def at102T (r : Nat) : Option AV := atG 64 39 r
theorem at102T_eq (r : Nat) : callP ML1 1000 (.call 99 [.int .i64 (.ofNat 1), .int .i64 (.ofNat r), .int .i64 (.ofNat 38)] (gHeap 12 gl)) [] jK = at102T r := by kernel_rfl
theorem at102_tot (r : Nat) : isAt (at102T r) = true := by
  unfold at102T atG
  by_cases h : r < 64
  · simp only [sub_nat (Nat.le_of_lt h) (by decide), ilt_nat0, bc_false, bc_true, eqb_int]
    repeat (first | rfl | apply bc_sh)
  · have g : Nat.blt r 64 = false := by rw [Bool.eq_false_iff]; intro hc; rw [Nat.blt_eq] at hc; exact h hc
    simp only [g, bc_true, Bool.not_false]
    repeat (first | rfl | apply bc_sh)
def at103T (r : Nat) : Option AV := atG 64 40 r
theorem at103T_eq (r : Nat) : callP ML1 1000 (.call 99 [.int .i64 (.ofNat 1), .int .i64 (.ofNat r), .int .i64 (.ofNat 39)] (gHeap 12 gl)) [] jK = at103T r := by kernel_rfl
theorem at103_tot (r : Nat) : isAt (at103T r) = true := by
  unfold at103T atG
  by_cases h : r < 64
  · simp only [sub_nat (Nat.le_of_lt h) (by decide), ilt_nat0, bc_false, bc_true, eqb_int]
    repeat (first | rfl | apply bc_sh)
  · have g : Nat.blt r 64 = false := by rw [Bool.eq_false_iff]; intro hc; rw [Nat.blt_eq] at hc; exact h hc
    simp only [g, bc_true, Bool.not_false]
    repeat (first | rfl | apply bc_sh)
def at104T (r : Nat) : Option AV := atG 64 41 r
theorem at104T_eq (r : Nat) : callP ML1 1000 (.call 99 [.int .i64 (.ofNat 1), .int .i64 (.ofNat r), .int .i64 (.ofNat 40)] (gHeap 12 gl)) [] jK = at104T r := by kernel_rfl
theorem at104_tot (r : Nat) : isAt (at104T r) = true := by
  unfold at104T atG
  by_cases h : r < 64
  · simp only [sub_nat (Nat.le_of_lt h) (by decide), ilt_nat0, bc_false, bc_true, eqb_int]
    repeat (first | rfl | apply bc_sh)
  · have g : Nat.blt r 64 = false := by rw [Bool.eq_false_iff]; intro hc; rw [Nat.blt_eq] at hc; exact h hc
    simp only [g, bc_true, Bool.not_false]
    repeat (first | rfl | apply bc_sh)
def at105T (r : Nat) : Option AV := atG 64 42 r
theorem at105T_eq (r : Nat) : callP ML1 1000 (.call 99 [.int .i64 (.ofNat 1), .int .i64 (.ofNat r), .int .i64 (.ofNat 41)] (gHeap 12 gl)) [] jK = at105T r := by kernel_rfl
theorem at105_tot (r : Nat) : isAt (at105T r) = true := by
  unfold at105T atG
  by_cases h : r < 64
  · simp only [sub_nat (Nat.le_of_lt h) (by decide), ilt_nat0, bc_false, bc_true, eqb_int]
    repeat (first | rfl | apply bc_sh)
  · have g : Nat.blt r 64 = false := by rw [Bool.eq_false_iff]; intro hc; rw [Nat.blt_eq] at hc; exact h hc
    simp only [g, bc_true, Bool.not_false]
    repeat (first | rfl | apply bc_sh)
def at106T (r : Nat) : Option AV := atG 64 43 r
theorem at106T_eq (r : Nat) : callP ML1 1000 (.call 99 [.int .i64 (.ofNat 1), .int .i64 (.ofNat r), .int .i64 (.ofNat 42)] (gHeap 12 gl)) [] jK = at106T r := by kernel_rfl
theorem at106_tot (r : Nat) : isAt (at106T r) = true := by
  unfold at106T atG
  by_cases h : r < 64
  · simp only [sub_nat (Nat.le_of_lt h) (by decide), ilt_nat0, bc_false, bc_true, eqb_int]
    repeat (first | rfl | apply bc_sh)
  · have g : Nat.blt r 64 = false := by rw [Bool.eq_false_iff]; intro hc; rw [Nat.blt_eq] at hc; exact h hc
    simp only [g, bc_true, Bool.not_false]
    repeat (first | rfl | apply bc_sh)
def at107T (r : Nat) : Option AV := atG 64 44 r
theorem at107T_eq (r : Nat) : callP ML1 1000 (.call 99 [.int .i64 (.ofNat 1), .int .i64 (.ofNat r), .int .i64 (.ofNat 43)] (gHeap 12 gl)) [] jK = at107T r := by kernel_rfl
theorem at107_tot (r : Nat) : isAt (at107T r) = true := by
  unfold at107T atG
  by_cases h : r < 64
  · simp only [sub_nat (Nat.le_of_lt h) (by decide), ilt_nat0, bc_false, bc_true, eqb_int]
    repeat (first | rfl | apply bc_sh)
  · have g : Nat.blt r 64 = false := by rw [Bool.eq_false_iff]; intro hc; rw [Nat.blt_eq] at hc; exact h hc
    simp only [g, bc_true, Bool.not_false]
    repeat (first | rfl | apply bc_sh)
def at108T (r : Nat) : Option AV := atG 64 45 r
theorem at108T_eq (r : Nat) : callP ML1 1000 (.call 99 [.int .i64 (.ofNat 1), .int .i64 (.ofNat r), .int .i64 (.ofNat 44)] (gHeap 12 gl)) [] jK = at108T r := by kernel_rfl
theorem at108_tot (r : Nat) : isAt (at108T r) = true := by
  unfold at108T atG
  by_cases h : r < 64
  · simp only [sub_nat (Nat.le_of_lt h) (by decide), ilt_nat0, bc_false, bc_true, eqb_int]
    repeat (first | rfl | apply bc_sh)
  · have g : Nat.blt r 64 = false := by rw [Bool.eq_false_iff]; intro hc; rw [Nat.blt_eq] at hc; exact h hc
    simp only [g, bc_true, Bool.not_false]
    repeat (first | rfl | apply bc_sh)
def at109T (r : Nat) : Option AV := atG 64 46 r
theorem at109T_eq (r : Nat) : callP ML1 1000 (.call 99 [.int .i64 (.ofNat 1), .int .i64 (.ofNat r), .int .i64 (.ofNat 45)] (gHeap 12 gl)) [] jK = at109T r := by kernel_rfl
theorem at109_tot (r : Nat) : isAt (at109T r) = true := by
  unfold at109T atG
  by_cases h : r < 64
  · simp only [sub_nat (Nat.le_of_lt h) (by decide), ilt_nat0, bc_false, bc_true, eqb_int]
    repeat (first | rfl | apply bc_sh)
  · have g : Nat.blt r 64 = false := by rw [Bool.eq_false_iff]; intro hc; rw [Nat.blt_eq] at hc; exact h hc
    simp only [g, bc_true, Bool.not_false]
    repeat (first | rfl | apply bc_sh)
def at110T (r : Nat) : Option AV := atG 64 47 r
theorem at110T_eq (r : Nat) : callP ML1 1000 (.call 99 [.int .i64 (.ofNat 1), .int .i64 (.ofNat r), .int .i64 (.ofNat 46)] (gHeap 12 gl)) [] jK = at110T r := by kernel_rfl
theorem at110_tot (r : Nat) : isAt (at110T r) = true := by
  unfold at110T atG
  by_cases h : r < 64
  · simp only [sub_nat (Nat.le_of_lt h) (by decide), ilt_nat0, bc_false, bc_true, eqb_int]
    repeat (first | rfl | apply bc_sh)
  · have g : Nat.blt r 64 = false := by rw [Bool.eq_false_iff]; intro hc; rw [Nat.blt_eq] at hc; exact h hc
    simp only [g, bc_true, Bool.not_false]
    repeat (first | rfl | apply bc_sh)
def at111T (r : Nat) : Option AV := atG 64 48 r
theorem at111T_eq (r : Nat) : callP ML1 1000 (.call 99 [.int .i64 (.ofNat 1), .int .i64 (.ofNat r), .int .i64 (.ofNat 47)] (gHeap 12 gl)) [] jK = at111T r := by kernel_rfl
theorem at111_tot (r : Nat) : isAt (at111T r) = true := by
  unfold at111T atG
  by_cases h : r < 64
  · simp only [sub_nat (Nat.le_of_lt h) (by decide), ilt_nat0, bc_false, bc_true, eqb_int]
    repeat (first | rfl | apply bc_sh)
  · have g : Nat.blt r 64 = false := by rw [Bool.eq_false_iff]; intro hc; rw [Nat.blt_eq] at hc; exact h hc
    simp only [g, bc_true, Bool.not_false]
    repeat (first | rfl | apply bc_sh)
def at112T (r : Nat) : Option AV := atG 64 49 r
theorem at112T_eq (r : Nat) : callP ML1 1000 (.call 99 [.int .i64 (.ofNat 1), .int .i64 (.ofNat r), .int .i64 (.ofNat 48)] (gHeap 12 gl)) [] jK = at112T r := by kernel_rfl
theorem at112_tot (r : Nat) : isAt (at112T r) = true := by
  unfold at112T atG
  by_cases h : r < 64
  · simp only [sub_nat (Nat.le_of_lt h) (by decide), ilt_nat0, bc_false, bc_true, eqb_int]
    repeat (first | rfl | apply bc_sh)
  · have g : Nat.blt r 64 = false := by rw [Bool.eq_false_iff]; intro hc; rw [Nat.blt_eq] at hc; exact h hc
    simp only [g, bc_true, Bool.not_false]
    repeat (first | rfl | apply bc_sh)
def at113T (r : Nat) : Option AV := atG 64 50 r
theorem at113T_eq (r : Nat) : callP ML1 1000 (.call 99 [.int .i64 (.ofNat 1), .int .i64 (.ofNat r), .int .i64 (.ofNat 49)] (gHeap 12 gl)) [] jK = at113T r := by kernel_rfl
theorem at113_tot (r : Nat) : isAt (at113T r) = true := by
  unfold at113T atG
  by_cases h : r < 64
  · simp only [sub_nat (Nat.le_of_lt h) (by decide), ilt_nat0, bc_false, bc_true, eqb_int]
    repeat (first | rfl | apply bc_sh)
  · have g : Nat.blt r 64 = false := by rw [Bool.eq_false_iff]; intro hc; rw [Nat.blt_eq] at hc; exact h hc
    simp only [g, bc_true, Bool.not_false]
    repeat (first | rfl | apply bc_sh)
def at114T (r : Nat) : Option AV := atG 64 51 r
theorem at114T_eq (r : Nat) : callP ML1 1000 (.call 99 [.int .i64 (.ofNat 1), .int .i64 (.ofNat r), .int .i64 (.ofNat 50)] (gHeap 12 gl)) [] jK = at114T r := by kernel_rfl
theorem at114_tot (r : Nat) : isAt (at114T r) = true := by
  unfold at114T atG
  by_cases h : r < 64
  · simp only [sub_nat (Nat.le_of_lt h) (by decide), ilt_nat0, bc_false, bc_true, eqb_int]
    repeat (first | rfl | apply bc_sh)
  · have g : Nat.blt r 64 = false := by rw [Bool.eq_false_iff]; intro hc; rw [Nat.blt_eq] at hc; exact h hc
    simp only [g, bc_true, Bool.not_false]
    repeat (first | rfl | apply bc_sh)
def at115T (r : Nat) : Option AV := atG 64 52 r
theorem at115T_eq (r : Nat) : callP ML1 1000 (.call 99 [.int .i64 (.ofNat 1), .int .i64 (.ofNat r), .int .i64 (.ofNat 51)] (gHeap 12 gl)) [] jK = at115T r := by kernel_rfl
theorem at115_tot (r : Nat) : isAt (at115T r) = true := by
  unfold at115T atG
  by_cases h : r < 64
  · simp only [sub_nat (Nat.le_of_lt h) (by decide), ilt_nat0, bc_false, bc_true, eqb_int]
    repeat (first | rfl | apply bc_sh)
  · have g : Nat.blt r 64 = false := by rw [Bool.eq_false_iff]; intro hc; rw [Nat.blt_eq] at hc; exact h hc
    simp only [g, bc_true, Bool.not_false]
    repeat (first | rfl | apply bc_sh)
def at116T (r : Nat) : Option AV := atG 64 53 r
theorem at116T_eq (r : Nat) : callP ML1 1000 (.call 99 [.int .i64 (.ofNat 1), .int .i64 (.ofNat r), .int .i64 (.ofNat 52)] (gHeap 12 gl)) [] jK = at116T r := by kernel_rfl
theorem at116_tot (r : Nat) : isAt (at116T r) = true := by
  unfold at116T atG
  by_cases h : r < 64
  · simp only [sub_nat (Nat.le_of_lt h) (by decide), ilt_nat0, bc_false, bc_true, eqb_int]
    repeat (first | rfl | apply bc_sh)
  · have g : Nat.blt r 64 = false := by rw [Bool.eq_false_iff]; intro hc; rw [Nat.blt_eq] at hc; exact h hc
    simp only [g, bc_true, Bool.not_false]
    repeat (first | rfl | apply bc_sh)
def at117T (r : Nat) : Option AV := atG 64 54 r
theorem at117T_eq (r : Nat) : callP ML1 1000 (.call 99 [.int .i64 (.ofNat 1), .int .i64 (.ofNat r), .int .i64 (.ofNat 53)] (gHeap 12 gl)) [] jK = at117T r := by kernel_rfl
theorem at117_tot (r : Nat) : isAt (at117T r) = true := by
  unfold at117T atG
  by_cases h : r < 64
  · simp only [sub_nat (Nat.le_of_lt h) (by decide), ilt_nat0, bc_false, bc_true, eqb_int]
    repeat (first | rfl | apply bc_sh)
  · have g : Nat.blt r 64 = false := by rw [Bool.eq_false_iff]; intro hc; rw [Nat.blt_eq] at hc; exact h hc
    simp only [g, bc_true, Bool.not_false]
    repeat (first | rfl | apply bc_sh)
def at118T (r : Nat) : Option AV := atG 64 55 r
theorem at118T_eq (r : Nat) : callP ML1 1000 (.call 99 [.int .i64 (.ofNat 1), .int .i64 (.ofNat r), .int .i64 (.ofNat 54)] (gHeap 12 gl)) [] jK = at118T r := by kernel_rfl
theorem at118_tot (r : Nat) : isAt (at118T r) = true := by
  unfold at118T atG
  by_cases h : r < 64
  · simp only [sub_nat (Nat.le_of_lt h) (by decide), ilt_nat0, bc_false, bc_true, eqb_int]
    repeat (first | rfl | apply bc_sh)
  · have g : Nat.blt r 64 = false := by rw [Bool.eq_false_iff]; intro hc; rw [Nat.blt_eq] at hc; exact h hc
    simp only [g, bc_true, Bool.not_false]
    repeat (first | rfl | apply bc_sh)
def at119T (r : Nat) : Option AV := atG 64 56 r
theorem at119T_eq (r : Nat) : callP ML1 1000 (.call 99 [.int .i64 (.ofNat 1), .int .i64 (.ofNat r), .int .i64 (.ofNat 55)] (gHeap 12 gl)) [] jK = at119T r := by kernel_rfl
theorem at119_tot (r : Nat) : isAt (at119T r) = true := by
  unfold at119T atG
  by_cases h : r < 64
  · simp only [sub_nat (Nat.le_of_lt h) (by decide), ilt_nat0, bc_false, bc_true, eqb_int]
    repeat (first | rfl | apply bc_sh)
  · have g : Nat.blt r 64 = false := by rw [Bool.eq_false_iff]; intro hc; rw [Nat.blt_eq] at hc; exact h hc
    simp only [g, bc_true, Bool.not_false]
    repeat (first | rfl | apply bc_sh)
def at120T (r : Nat) : Option AV := atG 64 57 r
theorem at120T_eq (r : Nat) : callP ML1 1000 (.call 99 [.int .i64 (.ofNat 1), .int .i64 (.ofNat r), .int .i64 (.ofNat 56)] (gHeap 12 gl)) [] jK = at120T r := by kernel_rfl
theorem at120_tot (r : Nat) : isAt (at120T r) = true := by
  unfold at120T atG
  by_cases h : r < 64
  · simp only [sub_nat (Nat.le_of_lt h) (by decide), ilt_nat0, bc_false, bc_true, eqb_int]
    repeat (first | rfl | apply bc_sh)
  · have g : Nat.blt r 64 = false := by rw [Bool.eq_false_iff]; intro hc; rw [Nat.blt_eq] at hc; exact h hc
    simp only [g, bc_true, Bool.not_false]
    repeat (first | rfl | apply bc_sh)
def at121T (r : Nat) : Option AV := atG 64 58 r
theorem at121T_eq (r : Nat) : callP ML1 1000 (.call 99 [.int .i64 (.ofNat 1), .int .i64 (.ofNat r), .int .i64 (.ofNat 57)] (gHeap 12 gl)) [] jK = at121T r := by kernel_rfl
theorem at121_tot (r : Nat) : isAt (at121T r) = true := by
  unfold at121T atG
  by_cases h : r < 64
  · simp only [sub_nat (Nat.le_of_lt h) (by decide), ilt_nat0, bc_false, bc_true, eqb_int]
    repeat (first | rfl | apply bc_sh)
  · have g : Nat.blt r 64 = false := by rw [Bool.eq_false_iff]; intro hc; rw [Nat.blt_eq] at hc; exact h hc
    simp only [g, bc_true, Bool.not_false]
    repeat (first | rfl | apply bc_sh)
def at122T (r : Nat) : Option AV := atG 64 59 r
theorem at122T_eq (r : Nat) : callP ML1 1000 (.call 99 [.int .i64 (.ofNat 1), .int .i64 (.ofNat r), .int .i64 (.ofNat 58)] (gHeap 12 gl)) [] jK = at122T r := by kernel_rfl
theorem at122_tot (r : Nat) : isAt (at122T r) = true := by
  unfold at122T atG
  by_cases h : r < 64
  · simp only [sub_nat (Nat.le_of_lt h) (by decide), ilt_nat0, bc_false, bc_true, eqb_int]
    repeat (first | rfl | apply bc_sh)
  · have g : Nat.blt r 64 = false := by rw [Bool.eq_false_iff]; intro hc; rw [Nat.blt_eq] at hc; exact h hc
    simp only [g, bc_true, Bool.not_false]
    repeat (first | rfl | apply bc_sh)
def at123T (r : Nat) : Option AV := atG 64 60 r
theorem at123T_eq (r : Nat) : callP ML1 1000 (.call 99 [.int .i64 (.ofNat 1), .int .i64 (.ofNat r), .int .i64 (.ofNat 59)] (gHeap 12 gl)) [] jK = at123T r := by kernel_rfl
theorem at123_tot (r : Nat) : isAt (at123T r) = true := by
  unfold at123T atG
  by_cases h : r < 64
  · simp only [sub_nat (Nat.le_of_lt h) (by decide), ilt_nat0, bc_false, bc_true, eqb_int]
    repeat (first | rfl | apply bc_sh)
  · have g : Nat.blt r 64 = false := by rw [Bool.eq_false_iff]; intro hc; rw [Nat.blt_eq] at hc; exact h hc
    simp only [g, bc_true, Bool.not_false]
    repeat (first | rfl | apply bc_sh)
def at124T (r : Nat) : Option AV := atG 64 61 r
theorem at124T_eq (r : Nat) : callP ML1 1000 (.call 99 [.int .i64 (.ofNat 1), .int .i64 (.ofNat r), .int .i64 (.ofNat 60)] (gHeap 12 gl)) [] jK = at124T r := by kernel_rfl
theorem at124_tot (r : Nat) : isAt (at124T r) = true := by
  unfold at124T atG
  by_cases h : r < 64
  · simp only [sub_nat (Nat.le_of_lt h) (by decide), ilt_nat0, bc_false, bc_true, eqb_int]
    repeat (first | rfl | apply bc_sh)
  · have g : Nat.blt r 64 = false := by rw [Bool.eq_false_iff]; intro hc; rw [Nat.blt_eq] at hc; exact h hc
    simp only [g, bc_true, Bool.not_false]
    repeat (first | rfl | apply bc_sh)
def at125T (r : Nat) : Option AV := atG 64 62 r
theorem at125T_eq (r : Nat) : callP ML1 1000 (.call 99 [.int .i64 (.ofNat 1), .int .i64 (.ofNat r), .int .i64 (.ofNat 61)] (gHeap 12 gl)) [] jK = at125T r := by kernel_rfl
theorem at125_tot (r : Nat) : isAt (at125T r) = true := by
  unfold at125T atG
  by_cases h : r < 64
  · simp only [sub_nat (Nat.le_of_lt h) (by decide), ilt_nat0, bc_false, bc_true, eqb_int]
    repeat (first | rfl | apply bc_sh)
  · have g : Nat.blt r 64 = false := by rw [Bool.eq_false_iff]; intro hc; rw [Nat.blt_eq] at hc; exact h hc
    simp only [g, bc_true, Bool.not_false]
    repeat (first | rfl | apply bc_sh)
def at126T (r : Nat) : Option AV := atG 64 63 r
theorem at126T_eq (r : Nat) : callP ML1 1000 (.call 99 [.int .i64 (.ofNat 1), .int .i64 (.ofNat r), .int .i64 (.ofNat 62)] (gHeap 12 gl)) [] jK = at126T r := by kernel_rfl
theorem at126_tot (r : Nat) : isAt (at126T r) = true := by
  unfold at126T atG
  by_cases h : r < 64
  · simp only [sub_nat (Nat.le_of_lt h) (by decide), ilt_nat0, bc_false, bc_true, eqb_int]
    repeat (first | rfl | apply bc_sh)
  · have g : Nat.blt r 64 = false := by rw [Bool.eq_false_iff]; intro hc; rw [Nat.blt_eq] at hc; exact h hc
    simp only [g, bc_true, Bool.not_false]
    repeat (first | rfl | apply bc_sh)
def at127T (r : Nat) : Option AV := bc (Nat.blt 63 r) (some (.tup [.int .u64 (.ofNat 0), .bool false])) (some (.tup [.int .u64 (.ofNat 0), .bool false]))
theorem at127T_eq (r : Nat) : callP ML1 1000 (.call 99 [.int .i64 (.ofNat 1), .int .i64 (.ofNat r), .int .i64 (.ofNat 63)] (gHeap 12 gl)) [] jK = at127T r := by kernel_rfl
theorem at127_tot (r : Nat) : isAt (at127T r) = true := by
  unfold at127T
  repeat (first | rfl | apply bc_sh)
def atL : List (Nat → Option AV) := [at0T, at1T, at2T, at3T, at4T, at5T, at6T, at7T, at8T, at9T, at10T, at11T, at12T, at13T, at14T, at15T, at16T, at17T, at18T, at19T, at20T, at21T, at22T, at23T, at24T, at25T, at26T, at27T, at28T, at29T, at30T, at31T, at32T, at33T, at34T, at35T, at36T, at37T, at38T, at39T, at40T, at41T, at42T, at43T, at44T, at45T, at46T, at47T, at48T, at49T, at50T, at51T, at52T, at53T, at54T, at55T, at56T, at57T, at58T, at59T, at60T, at61T, at62T, at63T, at64T, at65T, at66T, at67T, at68T, at69T, at70T, at71T, at72T, at73T, at74T, at75T, at76T, at77T, at78T, at79T, at80T, at81T, at82T, at83T, at84T, at85T, at86T, at87T, at88T, at89T, at90T, at91T, at92T, at93T, at94T, at95T, at96T, at97T, at98T, at99T, at100T, at101T, at102T, at103T, at104T, at105T, at106T, at107T, at108T, at109T, at110T, at111T, at112T, at113T, at114T, at115T, at116T, at117T, at118T, at119T, at120T, at121T, at122T, at123T, at124T, at125T, at126T, at127T]
theorem atO0 (n r s : Int) : callP ML1 1000 (.call 99 [.int .i64 n, .int .i64 r, .int .i64 s] (gHeap 12 gl)) [true, true, true, true, true, true, true, true, true, true, true] jK = bc (ilt n (.ofNat 0)) (some (.tup [.int .u64 (.ofNat 0), .bool false])) none := by kernel_rfl
theorem atO1 (n r s : Int) : callP ML1 1000 (.call 99 [.int .i64 n, .int .i64 r, .int .i64 s] (gHeap 12 gl)) [false, false, true, true, true, true, true, true, true, true, true] jK = bc (ilt n (.ofNat 0)) none (bc (ilt (.ofNat 1) n) (some (.tup [.int .u64 (.ofNat 0), .bool false])) none) := by kernel_rfl
theorem atO2 (n r s : Int) : callP ML1 1000 (.call 99 [.int .i64 n, .int .i64 r, .int .i64 s] (gHeap 12 gl)) [false, false, false, false, true, true, true, true, true, true, true] jK = bc (ilt n (.ofNat 0)) none (bc (ilt (.ofNat 1) n) none (bc (ilt r (.ofNat 0)) (some (.tup [.int .u64 (.ofNat 0), .bool false])) none)) := by kernel_rfl
theorem atO3 (n r s : Int) : callP ML1 1000 (.call 99 [.int .i64 n, .int .i64 r, .int .i64 s] (gHeap 12 gl)) [false, false, false, false, false, false, true, true, true, true, true] jK = bc (ilt n (.ofNat 0)) none (bc (ilt (.ofNat 1) n) none (bc (ilt r (.ofNat 0)) none (bc (ilt (.ofNat 63) r) (some (.tup [.int .u64 (.ofNat 0), .bool false])) none))) := by kernel_rfl
theorem atO4 (n r s : Int) : callP ML1 1000 (.call 99 [.int .i64 n, .int .i64 r, .int .i64 s] (gHeap 12 gl)) [false, false, false, false, false, false, false, false, true, true, true] jK = bc (ilt n (.ofNat 0)) none (bc (ilt (.ofNat 1) n) none (bc (ilt r (.ofNat 0)) none (bc (ilt (.ofNat 63) r) none (bc (ilt s (.ofNat 0)) (some (.tup [.int .u64 (.ofNat 0), .bool false])) none)))) := by kernel_rfl
theorem atO5 (n r s : Int) : callP ML1 1000 (.call 99 [.int .i64 n, .int .i64 r, .int .i64 s] (gHeap 12 gl)) [false, false, false, false, false, false, false, false, false, false, true] jK = bc (ilt n (.ofNat 0)) none (bc (ilt (.ofNat 1) n) none (bc (ilt r (.ofNat 0)) none (bc (ilt (.ofNat 63) r) none (bc (ilt s (.ofNat 0)) none (bc (ilt (.ofNat 63) s) (some (.tup [.int .u64 (.ofNat 0), .bool false])) none))))) := by kernel_rfl
theorem at_lit : ∀ k, k < 128 → ∀ r : Nat, ∃ f, atL[k]? = some f ∧ isAt (f r) = true ∧ callP ML1 1000 (.call 99 [.int .i64 (.ofNat (k / 64)), .int .i64 (.ofNat r), .int .i64 (.ofNat (k % 64))] (gHeap 12 gl)) [] jK = f r
  | 0, _, r => ⟨_, rfl, at0_tot r, at0T_eq r⟩
  | 1, _, r => ⟨_, rfl, at1_tot r, at1T_eq r⟩
  | 2, _, r => ⟨_, rfl, at2_tot r, at2T_eq r⟩
  | 3, _, r => ⟨_, rfl, at3_tot r, at3T_eq r⟩
  | 4, _, r => ⟨_, rfl, at4_tot r, at4T_eq r⟩
  | 5, _, r => ⟨_, rfl, at5_tot r, at5T_eq r⟩
  | 6, _, r => ⟨_, rfl, at6_tot r, at6T_eq r⟩
  | 7, _, r => ⟨_, rfl, at7_tot r, at7T_eq r⟩
  | 8, _, r => ⟨_, rfl, at8_tot r, at8T_eq r⟩
  | 9, _, r => ⟨_, rfl, at9_tot r, at9T_eq r⟩
  | 10, _, r => ⟨_, rfl, at10_tot r, at10T_eq r⟩
  | 11, _, r => ⟨_, rfl, at11_tot r, at11T_eq r⟩
  | 12, _, r => ⟨_, rfl, at12_tot r, at12T_eq r⟩
  | 13, _, r => ⟨_, rfl, at13_tot r, at13T_eq r⟩
  | 14, _, r => ⟨_, rfl, at14_tot r, at14T_eq r⟩
  | 15, _, r => ⟨_, rfl, at15_tot r, at15T_eq r⟩
  | 16, _, r => ⟨_, rfl, at16_tot r, at16T_eq r⟩
  | 17, _, r => ⟨_, rfl, at17_tot r, at17T_eq r⟩
  | 18, _, r => ⟨_, rfl, at18_tot r, at18T_eq r⟩
  | 19, _, r => ⟨_, rfl, at19_tot r, at19T_eq r⟩
  | 20, _, r => ⟨_, rfl, at20_tot r, at20T_eq r⟩
  | 21, _, r => ⟨_, rfl, at21_tot r, at21T_eq r⟩
  | 22, _, r => ⟨_, rfl, at22_tot r, at22T_eq r⟩
  | 23, _, r => ⟨_, rfl, at23_tot r, at23T_eq r⟩
  | 24, _, r => ⟨_, rfl, at24_tot r, at24T_eq r⟩
  | 25, _, r => ⟨_, rfl, at25_tot r, at25T_eq r⟩
  | 26, _, r => ⟨_, rfl, at26_tot r, at26T_eq r⟩
  | 27, _, r => ⟨_, rfl, at27_tot r, at27T_eq r⟩
  | 28, _, r => ⟨_, rfl, at28_tot r, at28T_eq r⟩
  | 29, _, r => ⟨_, rfl, at29_tot r, at29T_eq r⟩
  | 30, _, r => ⟨_, rfl, at30_tot r, at30T_eq r⟩
  | 31, _, r => ⟨_, rfl, at31_tot r, at31T_eq r⟩
  | 32, _, r => ⟨_, rfl, at32_tot r, at32T_eq r⟩
  | 33, _, r => ⟨_, rfl, at33_tot r, at33T_eq r⟩
  | 34, _, r => ⟨_, rfl, at34_tot r, at34T_eq r⟩
  | 35, _, r => ⟨_, rfl, at35_tot r, at35T_eq r⟩
  | 36, _, r => ⟨_, rfl, at36_tot r, at36T_eq r⟩
  | 37, _, r => ⟨_, rfl, at37_tot r, at37T_eq r⟩
  | 38, _, r => ⟨_, rfl, at38_tot r, at38T_eq r⟩
  | 39, _, r => ⟨_, rfl, at39_tot r, at39T_eq r⟩
  | 40, _, r => ⟨_, rfl, at40_tot r, at40T_eq r⟩
  | 41, _, r => ⟨_, rfl, at41_tot r, at41T_eq r⟩
  | 42, _, r => ⟨_, rfl, at42_tot r, at42T_eq r⟩
  | 43, _, r => ⟨_, rfl, at43_tot r, at43T_eq r⟩
  | 44, _, r => ⟨_, rfl, at44_tot r, at44T_eq r⟩
  | 45, _, r => ⟨_, rfl, at45_tot r, at45T_eq r⟩
  | 46, _, r => ⟨_, rfl, at46_tot r, at46T_eq r⟩
  | 47, _, r => ⟨_, rfl, at47_tot r, at47T_eq r⟩
  | 48, _, r => ⟨_, rfl, at48_tot r, at48T_eq r⟩
  | 49, _, r => ⟨_, rfl, at49_tot r, at49T_eq r⟩
  | 50, _, r => ⟨_, rfl, at50_tot r, at50T_eq r⟩
  | 51, _, r => ⟨_, rfl, at51_tot r, at51T_eq r⟩
  | 52, _, r => ⟨_, rfl, at52_tot r, at52T_eq r⟩
  | 53, _, r => ⟨_, rfl, at53_tot r, at53T_eq r⟩
  | 54, _, r => ⟨_, rfl, at54_tot r, at54T_eq r⟩
  | 55, _, r => ⟨_, rfl, at55_tot r, at55T_eq r⟩
  | 56, _, r => ⟨_, rfl, at56_tot r, at56T_eq r⟩
  | 57, _, r => ⟨_, rfl, at57_tot r, at57T_eq r⟩
  | 58, _, r => ⟨_, rfl, at58_tot r, at58T_eq r⟩
  | 59, _, r => ⟨_, rfl, at59_tot r, at59T_eq r⟩
  | 60, _, r => ⟨_, rfl, at60_tot r, at60T_eq r⟩
  | 61, _, r => ⟨_, rfl, at61_tot r, at61T_eq r⟩
  | 62, _, r => ⟨_, rfl, at62_tot r, at62T_eq r⟩
  | 63, _, r => ⟨_, rfl, at63_tot r, at63T_eq r⟩
  | 64, _, r => ⟨_, rfl, at64_tot r, at64T_eq r⟩
  | 65, _, r => ⟨_, rfl, at65_tot r, at65T_eq r⟩
  | 66, _, r => ⟨_, rfl, at66_tot r, at66T_eq r⟩
  | 67, _, r => ⟨_, rfl, at67_tot r, at67T_eq r⟩
  | 68, _, r => ⟨_, rfl, at68_tot r, at68T_eq r⟩
  | 69, _, r => ⟨_, rfl, at69_tot r, at69T_eq r⟩
  | 70, _, r => ⟨_, rfl, at70_tot r, at70T_eq r⟩
  | 71, _, r => ⟨_, rfl, at71_tot r, at71T_eq r⟩
  | 72, _, r => ⟨_, rfl, at72_tot r, at72T_eq r⟩
  | 73, _, r => ⟨_, rfl, at73_tot r, at73T_eq r⟩
  | 74, _, r => ⟨_, rfl, at74_tot r, at74T_eq r⟩
  | 75, _, r => ⟨_, rfl, at75_tot r, at75T_eq r⟩
  | 76, _, r => ⟨_, rfl, at76_tot r, at76T_eq r⟩
  | 77, _, r => ⟨_, rfl, at77_tot r, at77T_eq r⟩
  | 78, _, r => ⟨_, rfl, at78_tot r, at78T_eq r⟩
  | 79, _, r => ⟨_, rfl, at79_tot r, at79T_eq r⟩
  | 80, _, r => ⟨_, rfl, at80_tot r, at80T_eq r⟩
  | 81, _, r => ⟨_, rfl, at81_tot r, at81T_eq r⟩
  | 82, _, r => ⟨_, rfl, at82_tot r, at82T_eq r⟩
  | 83, _, r => ⟨_, rfl, at83_tot r, at83T_eq r⟩
  | 84, _, r => ⟨_, rfl, at84_tot r, at84T_eq r⟩
  | 85, _, r => ⟨_, rfl, at85_tot r, at85T_eq r⟩
  | 86, _, r => ⟨_, rfl, at86_tot r, at86T_eq r⟩
  | 87, _, r => ⟨_, rfl, at87_tot r, at87T_eq r⟩
  | 88, _, r => ⟨_, rfl, at88_tot r, at88T_eq r⟩
  | 89, _, r => ⟨_, rfl, at89_tot r, at89T_eq r⟩
  | 90, _, r => ⟨_, rfl, at90_tot r, at90T_eq r⟩
  | 91, _, r => ⟨_, rfl, at91_tot r, at91T_eq r⟩
  | 92, _, r => ⟨_, rfl, at92_tot r, at92T_eq r⟩
  | 93, _, r => ⟨_, rfl, at93_tot r, at93T_eq r⟩
  | 94, _, r => ⟨_, rfl, at94_tot r, at94T_eq r⟩
  | 95, _, r => ⟨_, rfl, at95_tot r, at95T_eq r⟩
  | 96, _, r => ⟨_, rfl, at96_tot r, at96T_eq r⟩
  | 97, _, r => ⟨_, rfl, at97_tot r, at97T_eq r⟩
  | 98, _, r => ⟨_, rfl, at98_tot r, at98T_eq r⟩
  | 99, _, r => ⟨_, rfl, at99_tot r, at99T_eq r⟩
  | 100, _, r => ⟨_, rfl, at100_tot r, at100T_eq r⟩
  | 101, _, r => ⟨_, rfl, at101_tot r, at101T_eq r⟩
  | 102, _, r => ⟨_, rfl, at102_tot r, at102T_eq r⟩
  | 103, _, r => ⟨_, rfl, at103_tot r, at103T_eq r⟩
  | 104, _, r => ⟨_, rfl, at104_tot r, at104T_eq r⟩
  | 105, _, r => ⟨_, rfl, at105_tot r, at105T_eq r⟩
  | 106, _, r => ⟨_, rfl, at106_tot r, at106T_eq r⟩
  | 107, _, r => ⟨_, rfl, at107_tot r, at107T_eq r⟩
  | 108, _, r => ⟨_, rfl, at108_tot r, at108T_eq r⟩
  | 109, _, r => ⟨_, rfl, at109_tot r, at109T_eq r⟩
  | 110, _, r => ⟨_, rfl, at110_tot r, at110T_eq r⟩
  | 111, _, r => ⟨_, rfl, at111_tot r, at111T_eq r⟩
  | 112, _, r => ⟨_, rfl, at112_tot r, at112T_eq r⟩
  | 113, _, r => ⟨_, rfl, at113_tot r, at113T_eq r⟩
  | 114, _, r => ⟨_, rfl, at114_tot r, at114T_eq r⟩
  | 115, _, r => ⟨_, rfl, at115_tot r, at115T_eq r⟩
  | 116, _, r => ⟨_, rfl, at116_tot r, at116T_eq r⟩
  | 117, _, r => ⟨_, rfl, at117_tot r, at117T_eq r⟩
  | 118, _, r => ⟨_, rfl, at118_tot r, at118T_eq r⟩
  | 119, _, r => ⟨_, rfl, at119_tot r, at119T_eq r⟩
  | 120, _, r => ⟨_, rfl, at120_tot r, at120T_eq r⟩
  | 121, _, r => ⟨_, rfl, at121_tot r, at121T_eq r⟩
  | 122, _, r => ⟨_, rfl, at122_tot r, at122T_eq r⟩
  | 123, _, r => ⟨_, rfl, at123_tot r, at123T_eq r⟩
  | 124, _, r => ⟨_, rfl, at124_tot r, at124T_eq r⟩
  | 125, _, r => ⟨_, rfl, at125_tot r, at125T_eq r⟩
  | 126, _, r => ⟨_, rfl, at126_tot r, at126T_eq r⟩
  | 127, _, r => ⟨_, rfl, at127_tot r, at127T_eq r⟩
  | n + 128, h, _ => absurd h (by omega)
def atT (n r s : Int) : Option AV := (bc (ilt n (.ofNat 0)) (some (.tup [.int .u64 (.ofNat 0), .bool false])) (bc (ilt (.ofNat 1) n) (some (.tup [.int .u64 (.ofNat 0), .bool false])) (bc (ilt r (.ofNat 0)) (some (.tup [.int .u64 (.ofNat 0), .bool false])) (bc (ilt (.ofNat 63) r) (some (.tup [.int .u64 (.ofNat 0), .bool false])) (bc (ilt s (.ofNat 0)) (some (.tup [.int .u64 (.ofNat 0), .bool false])) (bc (ilt (.ofNat 63) s) (some (.tup [.int .u64 (.ofNat 0), .bool false])) (match atL[n.toNat * 64 + s.toNat]? with | some f => f r.toNat | none => none)))))))
def atV (n r s : Int) : Int := intV (at_ [0] ((atT n r s).getD .nilp))
def atB (n r s : Int) : Bool := bolV (at_ [1] ((atT n r s).getD .nilp))
theorem atT_val {n r s : Int} (h : isAt (atT n r s) = true) : atT n r s = some (.tup [.int .u64 (atV n r s), .bool (atB n r s)]) := by
  unfold atV atB
  generalize atT n r s = x at h ⊢
  unfold isAt at h
  split at h
  · rfl
  · cases h
theorem at_run (n r s : Int) : ∃ o, callP ML1 1000 (.call 99 [.int .i64 n, .int .i64 r, .int .i64 s] (gHeap 12 gl)) o jK = some (.tup [.int .u64 (atV n r s), .bool (atB n r s)]) := by
  cases h0 : ilt n (.ofNat 0) with
  | true =>
    have e : atT n r s = (some (.tup [.int .u64 (.ofNat 0), .bool false])) := by unfold atT; simp only [h0, bc_true]
    exact ⟨[true, true, true, true, true, true, true, true, true, true, true], (atO0 n r s).trans (by rw [← atT_val (by rw [e]; rfl), e]; simp only [h0, bc_true])⟩
  | false =>
  cases h1 : ilt (.ofNat 1) n with
  | true =>
    have e : atT n r s = (some (.tup [.int .u64 (.ofNat 0), .bool false])) := by unfold atT; simp only [h0, h1, bc_false, bc_true]
    exact ⟨[false, false, true, true, true, true, true, true, true, true, true], (atO1 n r s).trans (by rw [← atT_val (by rw [e]; rfl), e]; simp only [h0, h1, bc_false, bc_true])⟩
  | false =>
  cases h2 : ilt r (.ofNat 0) with
  | true =>
    have e : atT n r s = (some (.tup [.int .u64 (.ofNat 0), .bool false])) := by unfold atT; simp only [h0, h1, h2, bc_false, bc_true]
    exact ⟨[false, false, false, false, true, true, true, true, true, true, true], (atO2 n r s).trans (by rw [← atT_val (by rw [e]; rfl), e]; simp only [h0, h1, h2, bc_false, bc_true])⟩
  | false =>
  cases h3 : ilt (.ofNat 63) r with
  | true =>
    have e : atT n r s = (some (.tup [.int .u64 (.ofNat 0), .bool false])) := by unfold atT; simp only [h0, h1, h2, h3, bc_false, bc_true]
    exact ⟨[false, false, false, false, false, false, true, true, true, true, true], (atO3 n r s).trans (by rw [← atT_val (by rw [e]; rfl), e]; simp only [h0, h1, h2, h3, bc_false, bc_true])⟩
  | false =>
  cases h4 : ilt s (.ofNat 0) with
  | true =>
    have e : atT n r s = (some (.tup [.int .u64 (.ofNat 0), .bool false])) := by unfold atT; simp only [h0, h1, h2, h3, h4, bc_false, bc_true]
    exact ⟨[false, false, false, false, false, false, false, false, true, true, true], (atO4 n r s).trans (by rw [← atT_val (by rw [e]; rfl), e]; simp only [h0, h1, h2, h3, h4, bc_false, bc_true])⟩
  | false =>
  cases h5 : ilt (.ofNat 63) s with
  | true =>
    have e : atT n r s = (some (.tup [.int .u64 (.ofNat 0), .bool false])) := by unfold atT; simp only [h0, h1, h2, h3, h4, h5, bc_false, bc_true]
    exact ⟨[false, false, false, false, false, false, false, false, false, false, true], (atO5 n r s).trans (by rw [← atT_val (by rw [e]; rfl), e]; simp only [h0, h1, h2, h3, h4, h5, bc_false, bc_true])⟩
  | false =>
  simp only [ilt_iff, decide_eq_false_iff_not, Int.not_lt] at h0 h1 h2 h3 h4 h5
  obtain ⟨a, rfl⟩ := Int.eq_ofNat_of_zero_le h0
  obtain ⟨b, rfl⟩ := Int.eq_ofNat_of_zero_le h4
  obtain ⟨c, rfl⟩ := Int.eq_ofNat_of_zero_le h2
  have ha : a ≤ 1 := Int.ofNat_le.1 h1
  have hb : b ≤ 63 := Int.ofNat_le.1 h5
  obtain ⟨f, f1, f2, f3⟩ := at_lit (a * 64 + b) (by omega) c
  have q1 : (a * 64 + b) / 64 = a := by omega
  have q2 : (a * 64 + b) % 64 = b := by omega
  rw [q1, q2] at f3
  have e : atT (a : Int) (c : Int) (b : Int) = f c := by
    have g0 : ilt (a : Int) (.ofNat 0) = false := by rw [ilt_iff, decide_eq_false_iff_not]; exact Int.not_lt.2 h0
    have g1 : ilt (.ofNat 1) (a : Int) = false := by rw [ilt_iff, decide_eq_false_iff_not]; exact Int.not_lt.2 h1
    have g2 : ilt (c : Int) (.ofNat 0) = false := by rw [ilt_iff, decide_eq_false_iff_not]; exact Int.not_lt.2 h2
    have g3 : ilt (.ofNat 63) (c : Int) = false := by rw [ilt_iff, decide_eq_false_iff_not]; exact Int.not_lt.2 h3
    have g4 : ilt (b : Int) (.ofNat 0) = false := by rw [ilt_iff, decide_eq_false_iff_not]; exact Int.not_lt.2 h4
    have g5 : ilt (.ofNat 63) (b : Int) = false := by rw [ilt_iff, decide_eq_false_iff_not]; exact Int.not_lt.2 h5
    unfold atT
    simp only [g0, g1, g2, g3, g4, g5, bc_false]
    show (match atL[a * 64 + b]? with | some f => f c | none => none) = f c
    rw [f1]
  exact ⟨[], f3.trans (by rw [← atT_val (by rw [e]; exact f2), e])⟩
end
end Go.Proofs.YtpmlihmaodpmfaaGreatDoor
