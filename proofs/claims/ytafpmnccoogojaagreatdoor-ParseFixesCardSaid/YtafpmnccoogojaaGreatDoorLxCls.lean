/- What bytes are: the two packages' functions on bytes. -/
import Derived.Test.YtafpmnccoogojaaGreatDoorLxBase
import Derived.Test.YtafpmnccoogojaaGreatDoorVaiH
import Derived.KernelRfl
namespace Go.Proofs.YtafpmnccoogojaaGreatDoor
open Go Go.Vai
noncomputable section
set_option maxRecDepth 100000
def cBegT (c : Int) : Option AV := bc (!(ilt c (.ofNat 97))) (bc (!(ilt (.ofNat 122) c)) (some (.bool true)) (bc (!(ilt c (.ofNat 65))) (bc (!(ilt (.ofNat 90) c)) (some (.bool true)) (bc (ieq c (.ofNat 95)) (some (.bool true)) (bc (ieq c (.ofNat 46)) (some (.bool true)) (some (.bool (ieq c (.ofNat 36))))))) (bc (ieq c (.ofNat 95)) (some (.bool true)) (bc (ieq c (.ofNat 46)) (some (.bool true)) (some (.bool (ieq c (.ofNat 36)))))))) (bc (!(ilt c (.ofNat 65))) (bc (!(ilt (.ofNat 90) c)) (some (.bool true)) (bc (ieq c (.ofNat 95)) (some (.bool true)) (bc (ieq c (.ofNat 46)) (some (.bool true)) (some (.bool (ieq c (.ofNat 36))))))) (bc (ieq c (.ofNat 95)) (some (.bool true)) (bc (ieq c (.ofNat 46)) (some (.bool true)) (some (.bool (ieq c (.ofNat 36)))))))
theorem cBegT_eq (c : Int) : callP E1 1000 (.call 35 [.int .u8 c] (gHeap 12 gl)) [] jK = cBegT c := by kernel_rfl
def cBegB (c : Int) : Bool := bolV (at_ [] ((cBegT c).getD .nilp))
def cBegS : Option AV → Bool
  | some (.bool _) => true
  | _ => false
theorem cBegT_val (c : Int) : cBegT c = some (.bool (cBegB c)) := by
  have h : cBegS (cBegT c) = true := by
    unfold cBegT
    repeat (first | rfl | apply bc_sh)
  unfold cBegB
  generalize cBegT c = x at h ⊢
  unfold cBegS at h
  split at h
  · rfl
  · cases h
def cDigT (c : Int) : Option AV := bc (!(ilt c (.ofNat 48))) (some (.bool (!(ilt (.ofNat 57) c)))) (some (.bool false))
theorem cDigT_eq (c : Int) : callP E1 1000 (.call 38 [.int .u8 c] (gHeap 12 gl)) [] jK = cDigT c := by kernel_rfl
def cDigB (c : Int) : Bool := bolV (at_ [] ((cDigT c).getD .nilp))
def cDigS : Option AV → Bool
  | some (.bool _) => true
  | _ => false
theorem cDigT_val (c : Int) : cDigT c = some (.bool (cDigB c)) := by
  have h : cDigS (cDigT c) = true := by
    unfold cDigT
    repeat (first | rfl | apply bc_sh)
  unfold cDigB
  generalize cDigT c = x at h ⊢
  unfold cDigS at h
  split at h
  · rfl
  · cases h
def cBlT (c : Int) : Option AV := bc (ieq c (.ofNat 32)) (some (.bool true)) (some (.bool (ieq c (.ofNat 9))))
theorem cBlT_eq (c : Int) : callP E1 1000 (.call 23 [.int .u8 c] (gHeap 12 gl)) [] jK = cBlT c := by kernel_rfl
def cBlB (c : Int) : Bool := bolV (at_ [] ((cBlT c).getD .nilp))
def cBlS : Option AV → Bool
  | some (.bool _) => true
  | _ => false
theorem cBlT_val (c : Int) : cBlT c = some (.bool (cBlB c)) := by
  have h : cBlS (cBlT c) = true := by
    unfold cBlT
    repeat (first | rfl | apply bc_sh)
  unfold cBlB
  generalize cBlT c = x at h ⊢
  unfold cBlS at h
  split at h
  · rfl
  · cases h
def cEscT (c : Int) : Option AV := bc (ieq c (.ofNat 110)) (some (.tup [.int .u8 (.ofNat 10), .bool true])) (bc (ieq c (.ofNat 116)) (some (.tup [.int .u8 (.ofNat 9), .bool true])) (bc (ieq c (.ofNat 48)) (some (.tup [.int .u8 (.ofNat 0), .bool true])) (bc (ieq c (.ofNat 92)) (bc (ieq c (.ofNat 92)) (some (.tup [.int .u8 c, .bool true])) (some (.tup [.int .u8 (.ofNat 0), .bool false]))) (bc (ieq c (.ofNat 34)) (some (.tup [.int .u8 c, .bool true])) (some (.tup [.int .u8 (.ofNat 0), .bool false]))))))
theorem cEscT_eq (c : Int) : callP E1 1000 (.call 62 [.int .u8 c] (gHeap 12 gl)) [] jK = cEscT c := by kernel_rfl
def cEscV (c : Int) : Int := intV (at_ [0] ((cEscT c).getD .nilp))
def cEscB (c : Int) : Bool := bolV (at_ [1] ((cEscT c).getD .nilp))
def cEscS : Option AV → Bool
  | some (.tup [.int .u8 _, .bool _]) => true
  | _ => false
theorem cEscT_val (c : Int) : cEscT c = some (.tup [.int .u8 (cEscV c), .bool (cEscB c)]) := by
  have h : cEscS (cEscT c) = true := by
    unfold cEscT
    repeat (first | rfl | apply bc_sh)
  unfold cEscV cEscB
  generalize cEscT c = x at h ⊢
  unfold cEscS at h
  split at h
  · rfl
  · cases h
def cLowT (c : Int) : Option AV := some (.int .u8 (wrapR .u8 (orI .u8 c (.ofNat 32))))
theorem cLowT_eq (c : Int) : callP E1 1000 (.call 106 [.int .u8 c] (gHeap 12 gl)) [] jK = cLowT c := by kernel_rfl
def cLowV (c : Int) : Int := intV (at_ [] ((cLowT c).getD .nilp))
def cLowS : Option AV → Bool
  | some (.int .u8 _) => true
  | _ => false
theorem cLowT_val (c : Int) : cLowT c = some (.int .u8 (cLowV c)) := by
  have h : cLowS (cLowT c) = true := by
    unfold cLowT
    repeat (first | rfl | apply bc_sh)
  unfold cLowV
  generalize cLowT c = x at h ⊢
  unfold cLowS at h
  split at h
  · rfl
  · cases h
def cLowF : List AV → Option AV
  | [.int .u8 c] => some (.int .u8 (cLowV c))
  | _ => none
def cEscF : List AV → Option AV
  | [.int .u8 c] => some (.tup [.int .u8 (cEscV c), .bool (cEscB c)])
  | _ => none
def cBlF : List AV → Option AV
  | [.int .u8 c] => some (.bool (cBlB c))
  | _ => none
def cDigF : List AV → Option AV
  | [.int .u8 c] => some (.bool (cDigB c))
  | _ => none
def cBegF : List AV → Option AV
  | [.int .u8 c] => some (.bool (cBegB c))
  | _ => none
def FT0 : Nat → List AV → Option AV := fun f args => bif Nat.beq f 35 then cBegF args else bif Nat.beq f 38 then cDigF args else bif Nat.beq f 23 then cBlF args else bif Nat.beq f 62 then cEscF args else bif Nat.beq f 106 then cLowF args else none
theorem ft0_ok (f : Nat) (args : List AV) (v : AV) (h : FT0 f args = some v) : ∃ (E : Env) (n : Nat), (∀ w, GlobOk gl w → EnvOk E Tryz.prog (Kept gl w)) ∧ (gl.all fun x => Nat.blt x.1 E.ng) = true ∧ (E.fn f).isSome = true ∧ (∀ a ∈ args, Plain a) ∧ ∃ o, callP E n (.call f args (gHeap E.ng gl)) o jK = some v := by
  unfold FT0 at h
  simp only [Bool.cond_eq_ite, Nat.beq_eq] at h
  split at h
  · rename_i e
    subst e
    unfold cBegF at h
    split at h
    · simp only [Option.some.injEq] at h
      subst h
      exact ⟨E1, 1000, e1_ok, gl_ok, by kernel_rfl, plain_list rfl, ⟨[], (cBegT_eq ..).trans (cBegT_val ..)⟩⟩
    · cases h
  split at h
  · rename_i e
    subst e
    unfold cDigF at h
    split at h
    · simp only [Option.some.injEq] at h
      subst h
      exact ⟨E1, 1000, e1_ok, gl_ok, by kernel_rfl, plain_list rfl, ⟨[], (cDigT_eq ..).trans (cDigT_val ..)⟩⟩
    · cases h
  split at h
  · rename_i e
    subst e
    unfold cBlF at h
    split at h
    · simp only [Option.some.injEq] at h
      subst h
      exact ⟨E1, 1000, e1_ok, gl_ok, by kernel_rfl, plain_list rfl, ⟨[], (cBlT_eq ..).trans (cBlT_val ..)⟩⟩
    · cases h
  split at h
  · rename_i e
    subst e
    unfold cEscF at h
    split at h
    · simp only [Option.some.injEq] at h
      subst h
      exact ⟨E1, 1000, e1_ok, gl_ok, by kernel_rfl, plain_list rfl, ⟨[], (cEscT_eq ..).trans (cEscT_val ..)⟩⟩
    · cases h
  split at h
  · rename_i e
    subst e
    unfold cLowF at h
    split at h
    · simp only [Option.some.injEq] at h
      subst h
      exact ⟨E1, 1000, e1_ok, gl_ok, by kernel_rfl, plain_list rfl, ⟨[], (cLowT_eq ..).trans (cLowT_val ..)⟩⟩
    · cases h
  · cases h
def EL0 : Env := envOf Tryz.prog 12 [35, 38, 23, 62, 106] (orSm (extSm kinds) (plainSm FT0))
theorem el0_ok (w : World) (hw : GlobOk gl w) : EnvOk EL0 Tryz.prog (Kept gl w) := envOk_sm (by kernel_rfl) ((smOk_ext ext_ok).or (plain_ok ft0_ok)) mixed_ok (fun _ _ _ h => h.1) (kept_carried hw).ext
def cHexT (c : Int) : Option AV := bc (cDigB c) (some (.bool true)) (bc (!(ilt c (.ofNat 97))) (bc (!(ilt (.ofNat 102) c)) (some (.bool true)) (bc (!(ilt c (.ofNat 65))) (some (.bool (!(ilt (.ofNat 70) c)))) (some (.bool false)))) (bc (!(ilt c (.ofNat 65))) (some (.bool (!(ilt (.ofNat 70) c)))) (some (.bool false))))
theorem cHexT_eq (c : Int) : callP EL0 1000 (.call 60 [.int .u8 c] (gHeap 12 gl)) [] jK = cHexT c := by kernel_rfl
def cHexB (c : Int) : Bool := bolV (at_ [] ((cHexT c).getD .nilp))
def cHexS : Option AV → Bool
  | some (.bool _) => true
  | _ => false
theorem cHexT_val (c : Int) : cHexT c = some (.bool (cHexB c)) := by
  have h : cHexS (cHexT c) = true := by
    unfold cHexT
    repeat (first | rfl | apply bc_sh)
  unfold cHexB
  generalize cHexT c = x at h ⊢
  unfold cHexS at h
  split at h
  · rfl
  · cases h
def cGoT (c : Int) : Option AV := bc (cBegB c) (some (.bool true)) (some (.bool (cDigB c)))
theorem cGoT_eq (c : Int) : callP EL0 1000 (.call 37 [.int .u8 c] (gHeap 12 gl)) [] jK = cGoT c := by kernel_rfl
def cGoB (c : Int) : Bool := bolV (at_ [] ((cGoT c).getD .nilp))
def cGoS : Option AV → Bool
  | some (.bool _) => true
  | _ => false
theorem cGoT_val (c : Int) : cGoT c = some (.bool (cGoB c)) := by
  have h : cGoS (cGoT c) = true := by
    unfold cGoT
    repeat (first | rfl | apply bc_sh)
  unfold cGoB
  generalize cGoT c = x at h ⊢
  unfold cGoS at h
  split at h
  · rfl
  · cases h
def cGoF : List AV → Option AV
  | [.int .u8 c] => some (.bool (cGoB c))
  | _ => none
def cHexF : List AV → Option AV
  | [.int .u8 c] => some (.bool (cHexB c))
  | _ => none
def FT1 : Nat → List AV → Option AV := fun f args => bif Nat.beq f 60 then cHexF args else bif Nat.beq f 37 then cGoF args else none
theorem ft1_ok (f : Nat) (args : List AV) (v : AV) (h : FT1 f args = some v) : ∃ (E : Env) (n : Nat), (∀ w, GlobOk gl w → EnvOk E Tryz.prog (Kept gl w)) ∧ (gl.all fun x => Nat.blt x.1 E.ng) = true ∧ (E.fn f).isSome = true ∧ (∀ a ∈ args, Plain a) ∧ ∃ o, callP E n (.call f args (gHeap E.ng gl)) o jK = some v := by
  unfold FT1 at h
  simp only [Bool.cond_eq_ite, Nat.beq_eq] at h
  split at h
  · rename_i e
    subst e
    unfold cHexF at h
    split at h
    · simp only [Option.some.injEq] at h
      subst h
      exact ⟨EL0, 1000, el0_ok, gl_ok, by kernel_rfl, plain_list rfl, ⟨[], (cHexT_eq ..).trans (cHexT_val ..)⟩⟩
    · cases h
  split at h
  · rename_i e
    subst e
    unfold cGoF at h
    split at h
    · simp only [Option.some.injEq] at h
      subst h
      exact ⟨EL0, 1000, el0_ok, gl_ok, by kernel_rfl, plain_list rfl, ⟨[], (cGoT_eq ..).trans (cGoT_val ..)⟩⟩
    · cases h
  · cases h
def EL1 : Env := envOf Tryz.prog 12 [35, 38, 23, 62, 106, 60, 37] (orSm (extSm kinds) (orSm (plainSm FT0) (plainSm FT1)))
theorem el1_ok (w : World) (hw : GlobOk gl w) : EnvOk EL1 Tryz.prog (Kept gl w) := envOk_sm (by kernel_rfl) ((smOk_ext ext_ok).or ((plain_ok ft0_ok).or (plain_ok ft1_ok))) mixed_ok (fun _ _ _ h => h.1) (kept_carried hw).ext
end
end Go.Proofs.YtafpmnccoogojaaGreatDoor
