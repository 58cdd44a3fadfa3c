/- The values of relocations. -/
import Derived.Test.YtpmlihmaodpmfaaGreatDoorRelBase
import Derived.Test.YtpmlihmaodpmfaaGreatDoorVaiH
import Derived.KernelRfl
namespace Go.Proofs.YtpmlihmaodpmfaaGreatDoor
open Go Go.Vai
noncomputable section
set_option maxRecDepth 100000
def rlNearT (s : Int) (p : Int) : Option AV := some (.tup [.int .i64 (wrapR .i64 (wrapR .u64 (Int.sub s p))), .bool true])
theorem rlNearT_eq (s : Int) (p : Int) : callP E1 1000 (.call 65 [.int .u64 s, .int .u64 p] (gHeap 12 gl)) [] jK = rlNearT s p := by kernel_rfl
def rlNearV (s : Int) (p : Int) : Int := intV (at_ [0] ((rlNearT s p).getD .nilp))
def rlNearB (s : Int) (p : Int) : Bool := bolV (at_ [1] ((rlNearT s p).getD .nilp))
def rlNearS : Option AV → Bool
  | some (.tup [.int .i64 _, .bool _]) => true
  | _ => false
theorem rlNearT_val (s : Int) (p : Int) : rlNearT s p = some (.tup [.int .i64 (rlNearV s p), .bool (rlNearB s p)]) := by
  have h : rlNearS (rlNearT s p) = true := by
    unfold rlNearT
    repeat (first | rfl | apply bc_sh)
  unfold rlNearV rlNearB
  generalize rlNearT s p = x at h ⊢
  unfold rlNearS at h
  split at h
  · rfl
  · cases h
def rlLow12T (s : Int) (_p : Int) : Option AV := some (.tup [.int .i64 (wrapR .i64 (wrapR .u64 (andI .u64 s (.ofNat 4095)))), .bool true])
theorem rlLow12T_eq (s : Int) (p : Int) : callP E1 1000 (.call 67 [.int .u64 s, .int .u64 p] (gHeap 12 gl)) [] jK = rlLow12T s p := by kernel_rfl
def rlLow12V (s : Int) (p : Int) : Int := intV (at_ [0] ((rlLow12T s p).getD .nilp))
def rlLow12B (s : Int) (p : Int) : Bool := bolV (at_ [1] ((rlLow12T s p).getD .nilp))
def rlLow12S : Option AV → Bool
  | some (.tup [.int .i64 _, .bool _]) => true
  | _ => false
theorem rlLow12T_val (s : Int) (p : Int) : rlLow12T s p = some (.tup [.int .i64 (rlLow12V s p), .bool (rlLow12B s p)]) := by
  have h : rlLow12S (rlLow12T s p) = true := by
    unfold rlLow12T
    repeat (first | rfl | apply bc_sh)
  unfold rlLow12V rlLow12B
  generalize rlLow12T s p = x at h ⊢
  unfold rlLow12S at h
  split at h
  · rfl
  · cases h
def rlLowT (s : Int) (_p : Int) : Option AV := some (.tup [.int .i64 (shrI (wrapR .i64 (wrapR .u64 (shlI s 52))) 52), .bool true])
theorem rlLowT_eq (s : Int) (p : Int) : callP E1 1000 (.call 71 [.int .u64 s, .int .u64 p] (gHeap 12 gl)) [] jK = rlLowT s p := by kernel_rfl
def rlLowV (s : Int) (p : Int) : Int := intV (at_ [0] ((rlLowT s p).getD .nilp))
def rlLowB (s : Int) (p : Int) : Bool := bolV (at_ [1] ((rlLowT s p).getD .nilp))
def rlLowS : Option AV → Bool
  | some (.tup [.int .i64 _, .bool _]) => true
  | _ => false
theorem rlLowT_val (s : Int) (p : Int) : rlLowT s p = some (.tup [.int .i64 (rlLowV s p), .bool (rlLowB s p)]) := by
  have h : rlLowS (rlLowT s p) = true := by
    unfold rlLowT
    repeat (first | rfl | apply bc_sh)
  unfold rlLowV rlLowB
  generalize rlLowT s p = x at h ⊢
  unfold rlLowS at h
  split at h
  · rfl
  · cases h
def rlHighT (s : Int) (_p : Int) : Option AV := some (.tup [.int .i64 (shrI (wrapR .i64 (wrapR .u64 (Int.sub s (wrapR .u64 (shrI (wrapR .i64 (wrapR .u64 (shlI s 52))) 52))))) 12), .bool true])
theorem rlHighT_eq (s : Int) (p : Int) : callP E1 1000 (.call 69 [.int .u64 s, .int .u64 p] (gHeap 12 gl)) [] jK = rlHighT s p := by kernel_rfl
def rlHighV (s : Int) (p : Int) : Int := intV (at_ [0] ((rlHighT s p).getD .nilp))
def rlHighB (s : Int) (p : Int) : Bool := bolV (at_ [1] ((rlHighT s p).getD .nilp))
def rlHighS : Option AV → Bool
  | some (.tup [.int .i64 _, .bool _]) => true
  | _ => false
theorem rlHighT_val (s : Int) (p : Int) : rlHighT s p = some (.tup [.int .i64 (rlHighV s p), .bool (rlHighB s p)]) := by
  have h : rlHighS (rlHighT s p) = true := by
    unfold rlHighT
    repeat (first | rfl | apply bc_sh)
  unfold rlHighV rlHighB
  generalize rlHighT s p = x at h ⊢
  unfold rlHighS at h
  split at h
  · rfl
  · cases h
def rlHighNearT (s : Int) (p : Int) : Option AV := some (.tup [.int .i64 (shrI (wrapR .i64 (wrapR .u64 (Int.sub (wrapR .u64 (Int.sub s p)) (wrapR .u64 (shrI (wrapR .i64 (wrapR .u64 (shlI (wrapR .u64 (Int.sub s p)) 52))) 52))))) 12), .bool true])
theorem rlHighNearT_eq (s : Int) (p : Int) : callP E1 1000 (.call 70 [.int .u64 s, .int .u64 p] (gHeap 12 gl)) [] jK = rlHighNearT s p := by kernel_rfl
def rlHighNearV (s : Int) (p : Int) : Int := intV (at_ [0] ((rlHighNearT s p).getD .nilp))
def rlHighNearB (s : Int) (p : Int) : Bool := bolV (at_ [1] ((rlHighNearT s p).getD .nilp))
def rlHighNearS : Option AV → Bool
  | some (.tup [.int .i64 _, .bool _]) => true
  | _ => false
theorem rlHighNearT_val (s : Int) (p : Int) : rlHighNearT s p = some (.tup [.int .i64 (rlHighNearV s p), .bool (rlHighNearB s p)]) := by
  have h : rlHighNearS (rlHighNearT s p) = true := by
    unfold rlHighNearT
    repeat (first | rfl | apply bc_sh)
  unfold rlHighNearV rlHighNearB
  generalize rlHighNearT s p = x at h ⊢
  unfold rlHighNearS at h
  split at h
  · rfl
  · cases h
def rlPagesT (s : Int) (p : Int) : Option AV := some (.tup [.int .i64 (shrI (wrapR .i64 (wrapR .u64 (Int.sub (wrapR .u64 (andNotI .u64 s (.ofNat 4095))) (wrapR .u64 (andNotI .u64 p (.ofNat 4095)))))) 12), .bool true])
theorem rlPagesT_eq (s : Int) (p : Int) : callP E1 1000 (.call 66 [.int .u64 s, .int .u64 p] (gHeap 12 gl)) [] jK = rlPagesT s p := by kernel_rfl
def rlPagesV (s : Int) (p : Int) : Int := intV (at_ [0] ((rlPagesT s p).getD .nilp))
def rlPagesB (s : Int) (p : Int) : Bool := bolV (at_ [1] ((rlPagesT s p).getD .nilp))
def rlPagesS : Option AV → Bool
  | some (.tup [.int .i64 _, .bool _]) => true
  | _ => false
theorem rlPagesT_val (s : Int) (p : Int) : rlPagesT s p = some (.tup [.int .i64 (rlPagesV s p), .bool (rlPagesB s p)]) := by
  have h : rlPagesS (rlPagesT s p) = true := by
    unfold rlPagesT
    repeat (first | rfl | apply bc_sh)
  unfold rlPagesV rlPagesB
  generalize rlPagesT s p = x at h ⊢
  unfold rlPagesS at h
  split at h
  · rfl
  · cases h
def rlUpperT (s : Int) (_p : Int) : Option AV := some (.tup [.int .i64 (wrapR .i64 (shrI s 12)), .bool (ilt s (.ofNat 16777216))])
theorem rlUpperT_eq (s : Int) (p : Int) : callP E1 1000 (.call 68 [.int .u64 s, .int .u64 p] (gHeap 12 gl)) [] jK = rlUpperT s p := by kernel_rfl
def rlUpperV (s : Int) (p : Int) : Int := intV (at_ [0] ((rlUpperT s p).getD .nilp))
def rlUpperB (s : Int) (p : Int) : Bool := bolV (at_ [1] ((rlUpperT s p).getD .nilp))
def rlUpperS : Option AV → Bool
  | some (.tup [.int .i64 _, .bool _]) => true
  | _ => false
theorem rlUpperT_val (s : Int) (p : Int) : rlUpperT s p = some (.tup [.int .i64 (rlUpperV s p), .bool (rlUpperB s p)]) := by
  have h : rlUpperS (rlUpperT s p) = true := by
    unfold rlUpperT
    repeat (first | rfl | apply bc_sh)
  unfold rlUpperV rlUpperB
  generalize rlUpperT s p = x at h ⊢
  unfold rlUpperS at h
  split at h
  · rfl
  · cases h
def rlWholeT (s : Int) (_p : Int) : Option AV := some (.tup [.int .i64 (wrapR .i64 s), .bool true])
theorem rlWholeT_eq (s : Int) (p : Int) : callP E1 1000 (.call 64 [.int .u64 s, .int .u64 p] (gHeap 12 gl)) [] jK = rlWholeT s p := by kernel_rfl
def rlWholeV (s : Int) (p : Int) : Int := intV (at_ [0] ((rlWholeT s p).getD .nilp))
def rlWholeB (s : Int) (p : Int) : Bool := bolV (at_ [1] ((rlWholeT s p).getD .nilp))
def rlWholeS : Option AV → Bool
  | some (.tup [.int .i64 _, .bool _]) => true
  | _ => false
theorem rlWholeT_val (s : Int) (p : Int) : rlWholeT s p = some (.tup [.int .i64 (rlWholeV s p), .bool (rlWholeB s p)]) := by
  have h : rlWholeS (rlWholeT s p) = true := by
    unfold rlWholeT
    repeat (first | rfl | apply bc_sh)
  unfold rlWholeV rlWholeB
  generalize rlWholeT s p = x at h ⊢
  unfold rlWholeS at h
  split at h
  · rfl
  · cases h
def rlWholeF : List AV → Option AV
  | [.int .u64 s, .int .u64 p] => some (.tup [.int .i64 (rlWholeV s p), .bool (rlWholeB s p)])
  | _ => none
def rlUpperF : List AV → Option AV
  | [.int .u64 s, .int .u64 p] => some (.tup [.int .i64 (rlUpperV s p), .bool (rlUpperB s p)])
  | _ => none
def rlPagesF : List AV → Option AV
  | [.int .u64 s, .int .u64 p] => some (.tup [.int .i64 (rlPagesV s p), .bool (rlPagesB s p)])
  | _ => none
def rlHighNearF : List AV → Option AV
  | [.int .u64 s, .int .u64 p] => some (.tup [.int .i64 (rlHighNearV s p), .bool (rlHighNearB s p)])
  | _ => none
def rlHighF : List AV → Option AV
  | [.int .u64 s, .int .u64 p] => some (.tup [.int .i64 (rlHighV s p), .bool (rlHighB s p)])
  | _ => none
def rlLowF : List AV → Option AV
  | [.int .u64 s, .int .u64 p] => some (.tup [.int .i64 (rlLowV s p), .bool (rlLowB s p)])
  | _ => none
def rlLow12F : List AV → Option AV
  | [.int .u64 s, .int .u64 p] => some (.tup [.int .i64 (rlLow12V s p), .bool (rlLow12B s p)])
  | _ => none
def rlNearF : List AV → Option AV
  | [.int .u64 s, .int .u64 p] => some (.tup [.int .i64 (rlNearV s p), .bool (rlNearB s p)])
  | _ => none
def VT0 : Nat → List AV → Option AV := fun f args => bif Nat.beq f 65 then rlNearF args else bif Nat.beq f 67 then rlLow12F args else bif Nat.beq f 71 then rlLowF args else bif Nat.beq f 69 then rlHighF args else bif Nat.beq f 70 then rlHighNearF args else bif Nat.beq f 66 then rlPagesF args else bif Nat.beq f 68 then rlUpperF args else bif Nat.beq f 64 then rlWholeF args else none
theorem vt0_ok (f : Nat) (args : List AV) (v : AV) (h : VT0 f args = some v) : ∃ (E : Env) (n : Nat) (s : Smk AV), SmkOk E s ∧ (∀ w, GlobOk gl w → EnvOk E Tryz.prog (Kept gl w)) ∧ (gl.all fun x => Nat.blt x.1 E.ng) = true ∧ (E.fn f).isSome = true ∧ (∀ a ∈ args, Plain a) ∧ ∃ o, callPS E s noPin n (.call f args (gHeap E.ng gl)) o jK = some v := by
  unfold VT0 at h
  simp only [Bool.cond_eq_ite, Nat.beq_eq] at h
  split at h
  · rename_i e
    subst e
    unfold rlNearF at h
    split at h
    · simp only [Option.some.injEq] at h
      subst h
      exact ⟨E1, 1000, _, smC_ok _, e1_ok, gl_ok, by kernel_rfl, plain_list rfl, ⟨[], (rlNearT_eq ..).trans (rlNearT_val ..)⟩⟩
    · cases h
  split at h
  · rename_i e
    subst e
    unfold rlLow12F at h
    split at h
    · simp only [Option.some.injEq] at h
      subst h
      exact ⟨E1, 1000, _, smC_ok _, e1_ok, gl_ok, by kernel_rfl, plain_list rfl, ⟨[], (rlLow12T_eq ..).trans (rlLow12T_val ..)⟩⟩
    · cases h
  split at h
  · rename_i e
    subst e
    unfold rlLowF at h
    split at h
    · simp only [Option.some.injEq] at h
      subst h
      exact ⟨E1, 1000, _, smC_ok _, e1_ok, gl_ok, by kernel_rfl, plain_list rfl, ⟨[], (rlLowT_eq ..).trans (rlLowT_val ..)⟩⟩
    · cases h
  split at h
  · rename_i e
    subst e
    unfold rlHighF at h
    split at h
    · simp only [Option.some.injEq] at h
      subst h
      exact ⟨E1, 1000, _, smC_ok _, e1_ok, gl_ok, by kernel_rfl, plain_list rfl, ⟨[], (rlHighT_eq ..).trans (rlHighT_val ..)⟩⟩
    · cases h
  split at h
  · rename_i e
    subst e
    unfold rlHighNearF at h
    split at h
    · simp only [Option.some.injEq] at h
      subst h
      exact ⟨E1, 1000, _, smC_ok _, e1_ok, gl_ok, by kernel_rfl, plain_list rfl, ⟨[], (rlHighNearT_eq ..).trans (rlHighNearT_val ..)⟩⟩
    · cases h
  split at h
  · rename_i e
    subst e
    unfold rlPagesF at h
    split at h
    · simp only [Option.some.injEq] at h
      subst h
      exact ⟨E1, 1000, _, smC_ok _, e1_ok, gl_ok, by kernel_rfl, plain_list rfl, ⟨[], (rlPagesT_eq ..).trans (rlPagesT_val ..)⟩⟩
    · cases h
  split at h
  · rename_i e
    subst e
    unfold rlUpperF at h
    split at h
    · simp only [Option.some.injEq] at h
      subst h
      exact ⟨E1, 1000, _, smC_ok _, e1_ok, gl_ok, by kernel_rfl, plain_list rfl, ⟨[], (rlUpperT_eq ..).trans (rlUpperT_val ..)⟩⟩
    · cases h
  split at h
  · rename_i e
    subst e
    unfold rlWholeF at h
    split at h
    · simp only [Option.some.injEq] at h
      subst h
      exact ⟨E1, 1000, _, smC_ok _, e1_ok, gl_ok, by kernel_rfl, plain_list rfl, ⟨[], (rlWholeT_eq ..).trans (rlWholeT_val ..)⟩⟩
    · cases h
  · cases h
end
end Go.Proofs.YtpmlihmaodpmfaaGreatDoor
