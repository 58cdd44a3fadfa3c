/- Package riscv's functions on numbers: what they compute. -/
import Derived.Test.YtpmlihmaodpmfaaGreatDoorRelBase
import Derived.Test.YtpmlihmaodpmfaaGreatDoorVaiH
import Derived.KernelRfl
namespace Go.Proofs.YtpmlihmaodpmfaaGreatDoor
open Go Go.Vai
noncomputable section
set_option maxRecDepth 100000
def rvUsesT (fm : Int) : Option AV := bc (!(ieq fm (.ofNat 4))) (bc (!(ieq fm (.ofNat 5))) (bc (!(ieq fm (.ofNat 6))) (bc (!(ieq fm (.ofNat 7))) (bc (ieq fm (.ofNat 0)) (some (.tup [.bool (!(ieq fm (.ofNat 8))), .bool (!(ieq fm (.ofNat 8))), .bool true])) (bc (ieq fm (.ofNat 4)) (some (.tup [.bool (!(ieq fm (.ofNat 8))), .bool (!(ieq fm (.ofNat 8))), .bool true])) (some (.tup [.bool (!(ieq fm (.ofNat 8))), .bool (!(ieq fm (.ofNat 8))), .bool (ieq fm (.ofNat 5))])))) (bc (ieq fm (.ofNat 0)) (some (.tup [.bool (!(ieq fm (.ofNat 8))), .bool false, .bool true])) (bc (ieq fm (.ofNat 4)) (some (.tup [.bool (!(ieq fm (.ofNat 8))), .bool false, .bool true])) (some (.tup [.bool (!(ieq fm (.ofNat 8))), .bool false, .bool (ieq fm (.ofNat 5))]))))) (bc (ieq fm (.ofNat 0)) (some (.tup [.bool (!(ieq fm (.ofNat 8))), .bool false, .bool true])) (bc (ieq fm (.ofNat 4)) (some (.tup [.bool (!(ieq fm (.ofNat 8))), .bool false, .bool true])) (some (.tup [.bool (!(ieq fm (.ofNat 8))), .bool false, .bool (ieq fm (.ofNat 5))]))))) (bc (!(ieq fm (.ofNat 6))) (bc (!(ieq fm (.ofNat 7))) (bc (ieq fm (.ofNat 0)) (some (.tup [.bool false, .bool (!(ieq fm (.ofNat 8))), .bool true])) (bc (ieq fm (.ofNat 4)) (some (.tup [.bool false, .bool (!(ieq fm (.ofNat 8))), .bool true])) (some (.tup [.bool false, .bool (!(ieq fm (.ofNat 8))), .bool (ieq fm (.ofNat 5))])))) (bc (ieq fm (.ofNat 0)) (some (.tup [.bool false, .bool false, .bool true])) (bc (ieq fm (.ofNat 4)) (some (.tup [.bool false, .bool false, .bool true])) (some (.tup [.bool false, .bool false, .bool (ieq fm (.ofNat 5))]))))) (bc (ieq fm (.ofNat 0)) (some (.tup [.bool false, .bool false, .bool true])) (bc (ieq fm (.ofNat 4)) (some (.tup [.bool false, .bool false, .bool true])) (some (.tup [.bool false, .bool false, .bool (ieq fm (.ofNat 5))])))))) (bc (!(ieq fm (.ofNat 6))) (bc (!(ieq fm (.ofNat 7))) (bc (ieq fm (.ofNat 0)) (some (.tup [.bool false, .bool (!(ieq fm (.ofNat 8))), .bool true])) (bc (ieq fm (.ofNat 4)) (some (.tup [.bool false, .bool (!(ieq fm (.ofNat 8))), .bool true])) (some (.tup [.bool false, .bool (!(ieq fm (.ofNat 8))), .bool (ieq fm (.ofNat 5))])))) (bc (ieq fm (.ofNat 0)) (some (.tup [.bool false, .bool false, .bool true])) (bc (ieq fm (.ofNat 4)) (some (.tup [.bool false, .bool false, .bool true])) (some (.tup [.bool false, .bool false, .bool (ieq fm (.ofNat 5))]))))) (bc (ieq fm (.ofNat 0)) (some (.tup [.bool false, .bool false, .bool true])) (bc (ieq fm (.ofNat 4)) (some (.tup [.bool false, .bool false, .bool true])) (some (.tup [.bool false, .bool false, .bool (ieq fm (.ofNat 5))])))))
theorem rvUsesT_eq (fm : Int) : callP E1 1000 (.call 145 [.int .i64 fm] (gHeap 12 gl)) [] jK = rvUsesT fm := by kernel_rfl
def rvUA (fm : Int) : Bool := bolV (at_ [0] ((rvUsesT fm).getD .nilp))
def rvUB (fm : Int) : Bool := bolV (at_ [1] ((rvUsesT fm).getD .nilp))
def rvUC (fm : Int) : Bool := bolV (at_ [2] ((rvUsesT fm).getD .nilp))
def rvUsesS : Option AV → Bool
  | some (.tup [.bool _, .bool _, .bool _]) => true
  | _ => false
theorem rvUsesT_val (fm : Int) : rvUsesT fm = some (.tup [.bool (rvUA fm), .bool (rvUB fm), .bool (rvUC fm)]) := by
  have h : rvUsesS (rvUsesT fm) = true := by
    unfold rvUsesT
    repeat (first | rfl | apply bc_sh)
  unfold rvUA rvUB rvUC
  generalize rvUsesT fm = x at h ⊢
  unfold rvUsesS at h
  split at h
  · rfl
  · cases h
def rvBndT (fm : Int) : Option AV := bc (ieq fm (.ofNat 1)) (bc (ieq fm (.ofNat 1)) (some (.tup [.int .i64 (.negSucc 2047), .int .i64 (.ofNat 2047), .int .i64 (.ofNat 1)])) (bc (ieq fm (.ofNat 2)) (some (.tup [.int .i64 (.ofNat 0), .int .i64 (.ofNat 63), .int .i64 (.ofNat 1)])) (bc (ieq fm (.ofNat 3)) (some (.tup [.int .i64 (.ofNat 0), .int .i64 (.ofNat 31), .int .i64 (.ofNat 1)])) (bc (ieq fm (.ofNat 5)) (some (.tup [.int .i64 (.negSucc 4095), .int .i64 (.ofNat 4094), .int .i64 (.ofNat 2)])) (bc (ieq fm (.ofNat 6)) (some (.tup [.int .i64 (.negSucc 524287), .int .i64 (.ofNat 524287), .int .i64 (.ofNat 1)])) (bc (ieq fm (.ofNat 7)) (some (.tup [.int .i64 (.negSucc 1048575), .int .i64 (.ofNat 1048574), .int .i64 (.ofNat 2)])) (some (.tup [.int .i64 (.ofNat 0), .int .i64 (.ofNat 0), .int .i64 (.ofNat 1)])))))))) (bc (ieq fm (.ofNat 4)) (some (.tup [.int .i64 (.negSucc 2047), .int .i64 (.ofNat 2047), .int .i64 (.ofNat 1)])) (bc (ieq fm (.ofNat 2)) (some (.tup [.int .i64 (.ofNat 0), .int .i64 (.ofNat 63), .int .i64 (.ofNat 1)])) (bc (ieq fm (.ofNat 3)) (some (.tup [.int .i64 (.ofNat 0), .int .i64 (.ofNat 31), .int .i64 (.ofNat 1)])) (bc (ieq fm (.ofNat 5)) (some (.tup [.int .i64 (.negSucc 4095), .int .i64 (.ofNat 4094), .int .i64 (.ofNat 2)])) (bc (ieq fm (.ofNat 6)) (some (.tup [.int .i64 (.negSucc 524287), .int .i64 (.ofNat 524287), .int .i64 (.ofNat 1)])) (bc (ieq fm (.ofNat 7)) (some (.tup [.int .i64 (.negSucc 1048575), .int .i64 (.ofNat 1048574), .int .i64 (.ofNat 2)])) (some (.tup [.int .i64 (.ofNat 0), .int .i64 (.ofNat 0), .int .i64 (.ofNat 1)]))))))))
theorem rvBndT_eq (fm : Int) : callP E1 1000 (.call 146 [.int .i64 fm] (gHeap 12 gl)) [] jK = rvBndT fm := by kernel_rfl
def rvLo (fm : Int) : Int := intV (at_ [0] ((rvBndT fm).getD .nilp))
def rvHi (fm : Int) : Int := intV (at_ [1] ((rvBndT fm).getD .nilp))
def rvBy (fm : Int) : Int := intV (at_ [2] ((rvBndT fm).getD .nilp))
def rvBndS : Option AV → Bool
  | some (.tup [.int .i64 _, .int .i64 _, .int .i64 _]) => true
  | _ => false
theorem rvBndT_val (fm : Int) : rvBndT fm = some (.tup [.int .i64 (rvLo fm), .int .i64 (rvHi fm), .int .i64 (rvBy fm)]) := by
  have h : rvBndS (rvBndT fm) = true := by
    unfold rvBndT
    repeat (first | rfl | apply bc_sh)
  unfold rvLo rvHi rvBy
  generalize rvBndT fm = x at h ⊢
  unfold rvBndS at h
  split at h
  · rfl
  · cases h
def rvRegT (n : Int) (u : Bool) : Option AV := bc (ieq n (.ofNat 0)) (some (.bool true)) (bc u (bc (ilt (.ofNat 0) n) (some (.bool (ilt n (.ofNat 32)))) (some (.bool false))) (some (.bool false)))
theorem rvRegT_eq (n : Int) (u : Bool) : callP E1 1000 (.call 147 [.int .i64 n, .bool u] (gHeap 12 gl)) [] jK = rvRegT n u := by kernel_rfl
def rvRegB (n : Int) (u : Bool) : Bool := bolV (at_ [] ((rvRegT n u).getD .nilp))
def rvRegS : Option AV → Bool
  | some (.bool _) => true
  | _ => false
theorem rvRegT_val (n : Int) (u : Bool) : rvRegT n u = some (.bool (rvRegB n u)) := by
  have h : rvRegS (rvRegT n u) = true := by
    unfold rvRegT
    repeat (first | rfl | apply bc_sh)
  unfold rvRegB
  generalize rvRegT n u = x at h ⊢
  unfold rvRegS at h
  split at h
  · rfl
  · cases h
def rvImmT (fm : Int) (n : Int) : Option AV := bc (ieq fm (.ofNat 1)) (some (.int .u32 (wrapR .u32 (shlI (wrapR .u32 (andI .u32 (wrapR .u32 (shrI n 0)) (.ofNat 4095))) 20)))) (bc (ieq fm (.ofNat 2)) (bc (ieq fm (.ofNat 2)) (some (.int .u32 (wrapR .u32 (shlI (wrapR .u32 (andI .u32 (wrapR .u32 (shrI n 0)) (.ofNat 63))) 20)))) (bc (ieq fm (.ofNat 4)) (some (.int .u32 (wrapR .u32 (orI .u32 (wrapR .u32 (shlI (wrapR .u32 (andI .u32 (wrapR .u32 (shrI n 0)) (.ofNat 31))) 7)) (wrapR .u32 (shlI (wrapR .u32 (andI .u32 (wrapR .u32 (shrI n 5)) (.ofNat 127))) 25)))))) (bc (ieq fm (.ofNat 5)) (some (.int .u32 (wrapR .u32 (orI .u32 (wrapR .u32 (orI .u32 (wrapR .u32 (orI .u32 (wrapR .u32 (shlI (wrapR .u32 (andI .u32 (wrapR .u32 (shrI n 1)) (.ofNat 15))) 8)) (wrapR .u32 (shlI (wrapR .u32 (andI .u32 (wrapR .u32 (shrI n 5)) (.ofNat 63))) 25)))) (wrapR .u32 (shlI (wrapR .u32 (andI .u32 (wrapR .u32 (shrI n 11)) (.ofNat 1))) 7)))) (wrapR .u32 (shlI (wrapR .u32 (andI .u32 (wrapR .u32 (shrI n 12)) (.ofNat 1))) 31)))))) (bc (ieq fm (.ofNat 6)) (some (.int .u32 (wrapR .u32 (shlI (wrapR .u32 (andI .u32 (wrapR .u32 (shrI n 0)) (.ofNat 1048575))) 12)))) (bc (ieq fm (.ofNat 7)) (some (.int .u32 (wrapR .u32 (orI .u32 (wrapR .u32 (orI .u32 (wrapR .u32 (orI .u32 (wrapR .u32 (shlI (wrapR .u32 (andI .u32 (wrapR .u32 (shrI n 1)) (.ofNat 1023))) 21)) (wrapR .u32 (shlI (wrapR .u32 (andI .u32 (wrapR .u32 (shrI n 11)) (.ofNat 1))) 20)))) (wrapR .u32 (shlI (wrapR .u32 (andI .u32 (wrapR .u32 (shrI n 12)) (.ofNat 255))) 12)))) (wrapR .u32 (shlI (wrapR .u32 (andI .u32 (wrapR .u32 (shrI n 20)) (.ofNat 1))) 31)))))) (some (.int .u32 (.ofNat 0)))))))) (bc (ieq fm (.ofNat 3)) (some (.int .u32 (wrapR .u32 (shlI (wrapR .u32 (andI .u32 (wrapR .u32 (shrI n 0)) (.ofNat 63))) 20)))) (bc (ieq fm (.ofNat 4)) (some (.int .u32 (wrapR .u32 (orI .u32 (wrapR .u32 (shlI (wrapR .u32 (andI .u32 (wrapR .u32 (shrI n 0)) (.ofNat 31))) 7)) (wrapR .u32 (shlI (wrapR .u32 (andI .u32 (wrapR .u32 (shrI n 5)) (.ofNat 127))) 25)))))) (bc (ieq fm (.ofNat 5)) (some (.int .u32 (wrapR .u32 (orI .u32 (wrapR .u32 (orI .u32 (wrapR .u32 (orI .u32 (wrapR .u32 (shlI (wrapR .u32 (andI .u32 (wrapR .u32 (shrI n 1)) (.ofNat 15))) 8)) (wrapR .u32 (shlI (wrapR .u32 (andI .u32 (wrapR .u32 (shrI n 5)) (.ofNat 63))) 25)))) (wrapR .u32 (shlI (wrapR .u32 (andI .u32 (wrapR .u32 (shrI n 11)) (.ofNat 1))) 7)))) (wrapR .u32 (shlI (wrapR .u32 (andI .u32 (wrapR .u32 (shrI n 12)) (.ofNat 1))) 31)))))) (bc (ieq fm (.ofNat 6)) (some (.int .u32 (wrapR .u32 (shlI (wrapR .u32 (andI .u32 (wrapR .u32 (shrI n 0)) (.ofNat 1048575))) 12)))) (bc (ieq fm (.ofNat 7)) (some (.int .u32 (wrapR .u32 (orI .u32 (wrapR .u32 (orI .u32 (wrapR .u32 (orI .u32 (wrapR .u32 (shlI (wrapR .u32 (andI .u32 (wrapR .u32 (shrI n 1)) (.ofNat 1023))) 21)) (wrapR .u32 (shlI (wrapR .u32 (andI .u32 (wrapR .u32 (shrI n 11)) (.ofNat 1))) 20)))) (wrapR .u32 (shlI (wrapR .u32 (andI .u32 (wrapR .u32 (shrI n 12)) (.ofNat 255))) 12)))) (wrapR .u32 (shlI (wrapR .u32 (andI .u32 (wrapR .u32 (shrI n 20)) (.ofNat 1))) 31)))))) (some (.int .u32 (.ofNat 0)))))))))
theorem rvImmT_eq (fm : Int) (n : Int) : callP E1 1000 (.call 148 [.int .i64 fm, .int .i64 n] (gHeap 12 gl)) [] jK = rvImmT fm n := by kernel_rfl
def rvImmE (fm : Int) (n : Int) : Int := intV (at_ [] ((rvImmT fm n).getD .nilp))
def rvImmS : Option AV → Bool
  | some (.int .u32 _) => true
  | _ => false
theorem rvImmT_val (fm : Int) (n : Int) : rvImmT fm n = some (.int .u32 (rvImmE fm n)) := by
  have h : rvImmS (rvImmT fm n) = true := by
    unfold rvImmT
    repeat (first | rfl | apply bc_sh)
  unfold rvImmE
  generalize rvImmT fm n = x at h ⊢
  unfold rvImmS at h
  split at h
  · rfl
  · cases h
def rvNumT (fm : Int) (w : Int) : Option AV := bc (ieq fm (.ofNat 1)) (some (.int .i64 (wrapR .i64 (shrI (wrapR .i32 (wrapR .u32 (shlI (shrI w 20) 20))) 20)))) (bc (ieq fm (.ofNat 2)) (some (.int .i64 (wrapR .i64 (wrapR .u32 (shlI (wrapR .u32 (andI .u32 (shrI w 20) (.ofNat 63))) 0))))) (bc (ieq fm (.ofNat 3)) (some (.int .i64 (wrapR .i64 (wrapR .u32 (shlI (wrapR .u32 (andI .u32 (shrI w 20) (.ofNat 31))) 0))))) (bc (ieq fm (.ofNat 4)) (some (.int .i64 (wrapR .i64 (shrI (wrapR .i32 (wrapR .u32 (shlI (wrapR .u32 (orI .u32 (wrapR .u32 (shlI (wrapR .u32 (andI .u32 (shrI w 7) (.ofNat 31))) 0)) (wrapR .u32 (shlI (wrapR .u32 (andI .u32 (shrI w 25) (.ofNat 127))) 5)))) 20))) 20)))) (bc (ieq fm (.ofNat 5)) (some (.int .i64 (wrapR .i64 (shrI (wrapR .i32 (wrapR .u32 (shlI (wrapR .u32 (orI .u32 (wrapR .u32 (orI .u32 (wrapR .u32 (orI .u32 (wrapR .u32 (shlI (wrapR .u32 (andI .u32 (shrI w 8) (.ofNat 15))) 1)) (wrapR .u32 (shlI (wrapR .u32 (andI .u32 (shrI w 25) (.ofNat 63))) 5)))) (wrapR .u32 (shlI (wrapR .u32 (andI .u32 (shrI w 7) (.ofNat 1))) 11)))) (wrapR .u32 (shlI (wrapR .u32 (andI .u32 (shrI w 31) (.ofNat 1))) 12)))) 19))) 19)))) (bc (ieq fm (.ofNat 6)) (some (.int .i64 (wrapR .i64 (shrI (wrapR .i32 (wrapR .u32 (shlI (shrI w 12) 12))) 12)))) (bc (ieq fm (.ofNat 7)) (some (.int .i64 (wrapR .i64 (shrI (wrapR .i32 (wrapR .u32 (shlI (wrapR .u32 (orI .u32 (wrapR .u32 (orI .u32 (wrapR .u32 (orI .u32 (wrapR .u32 (shlI (wrapR .u32 (andI .u32 (shrI w 21) (.ofNat 1023))) 1)) (wrapR .u32 (shlI (wrapR .u32 (andI .u32 (shrI w 20) (.ofNat 1))) 11)))) (wrapR .u32 (shlI (wrapR .u32 (andI .u32 (shrI w 12) (.ofNat 255))) 12)))) (wrapR .u32 (shlI (wrapR .u32 (andI .u32 (shrI w 31) (.ofNat 1))) 20)))) 11))) 11)))) (some (.int .i64 (.ofNat 0)))))))))
theorem rvNumT_eq (fm : Int) (w : Int) : callP E1 1000 (.call 151 [.int .i64 fm, .int .u32 w] (gHeap 12 gl)) [] jK = rvNumT fm w := by kernel_rfl
def rvNumE (fm : Int) (w : Int) : Int := intV (at_ [] ((rvNumT fm w).getD .nilp))
def rvNumS : Option AV → Bool
  | some (.int .i64 _) => true
  | _ => false
theorem rvNumT_val (fm : Int) (w : Int) : rvNumT fm w = some (.int .i64 (rvNumE fm w)) := by
  have h : rvNumS (rvNumT fm w) = true := by
    unfold rvNumT
    repeat (first | rfl | apply bc_sh)
  unfold rvNumE
  generalize rvNumT fm w = x at h ⊢
  unfold rvNumS at h
  split at h
  · rfl
  · cases h
def rvNumF : List AV → Option AV
  | [.int .i64 fm, .int .u32 w] => some (.int .i64 (rvNumE fm w))
  | _ => none
def rvImmF : List AV → Option AV
  | [.int .i64 fm, .int .i64 n] => some (.int .u32 (rvImmE fm n))
  | _ => none
def rvRegF : List AV → Option AV
  | [.int .i64 n, .bool u] => some (.bool (rvRegB n u))
  | _ => none
def rvBndF : List AV → Option AV
  | [.int .i64 fm] => some (.tup [.int .i64 (rvLo fm), .int .i64 (rvHi fm), .int .i64 (rvBy fm)])
  | _ => none
def rvUsesF : List AV → Option AV
  | [.int .i64 fm] => some (.tup [.bool (rvUA fm), .bool (rvUB fm), .bool (rvUC fm)])
  | _ => none
def FT0 : Nat → List AV → Option AV := fun f args => bif Nat.beq f 145 then rvUsesF args else bif Nat.beq f 146 then rvBndF args else bif Nat.beq f 147 then rvRegF args else bif Nat.beq f 148 then rvImmF args else bif Nat.beq f 151 then rvNumF args else none
theorem ft0_ok (f : Nat) (args : List AV) (v : AV) (h : FT0 f args = some v) : ∃ (E : Env) (n : Nat), (∀ w, GlobOk gl w → EnvOk E Tryz.prog (Kept gl w)) ∧ (gl.all fun x => Nat.blt x.1 E.ng) = true ∧ (E.fn f).isSome = true ∧ (∀ a ∈ args, Plain a) ∧ ∃ o, callP E n (.call f args (gHeap E.ng gl)) o jK = some v := by
  unfold FT0 at h
  simp only [Bool.cond_eq_ite, Nat.beq_eq] at h
  split at h
  · rename_i e
    subst e
    unfold rvUsesF at h
    split at h
    · simp only [Option.some.injEq] at h
      subst h
      exact ⟨E1, 1000, e1_ok, gl_ok, by kernel_rfl, plain_list rfl, [], (rvUsesT_eq ..).trans (rvUsesT_val ..)⟩
    · cases h
  split at h
  · rename_i e
    subst e
    unfold rvBndF at h
    split at h
    · simp only [Option.some.injEq] at h
      subst h
      exact ⟨E1, 1000, e1_ok, gl_ok, by kernel_rfl, plain_list rfl, [], (rvBndT_eq ..).trans (rvBndT_val ..)⟩
    · cases h
  split at h
  · rename_i e
    subst e
    unfold rvRegF at h
    split at h
    · simp only [Option.some.injEq] at h
      subst h
      exact ⟨E1, 1000, e1_ok, gl_ok, by kernel_rfl, plain_list rfl, [], (rvRegT_eq ..).trans (rvRegT_val ..)⟩
    · cases h
  split at h
  · rename_i e
    subst e
    unfold rvImmF at h
    split at h
    · simp only [Option.some.injEq] at h
      subst h
      exact ⟨E1, 1000, e1_ok, gl_ok, by kernel_rfl, plain_list rfl, [], (rvImmT_eq ..).trans (rvImmT_val ..)⟩
    · cases h
  split at h
  · rename_i e
    subst e
    unfold rvNumF at h
    split at h
    · simp only [Option.some.injEq] at h
      subst h
      exact ⟨E1, 1000, e1_ok, gl_ok, by kernel_rfl, plain_list rfl, [], (rvNumT_eq ..).trans (rvNumT_val ..)⟩
    · cases h
  · cases h
def EL0 : Env := envOf Tryz.prog 12 [145, 146, 147, 148, 151] (orSm (extSm kinds) (plainSm FT0))
theorem el0_ok (w : World) (hw : GlobOk gl w) : EnvOk EL0 Tryz.prog (Kept gl w) := envOk_sm (by kernel_rfl) ((smOk_ext ext_ok).or (plain_ok ft0_ok)) mixed_ok (fun _ _ _ h => h.1) (kept_carried hw).ext
end
end Go.Proofs.YtpmlihmaodpmfaaGreatDoor
