/- What bytes are: the two packages' functions on bytes. -/
import Derived.Test.YtdpkmhnpbbapcaaDoorLxBase
import Derived.Test.YtdpkmhnpbbapcaaDoorVaiH
import Derived.KernelRfl
namespace Go.Proofs.YtdpkmhnpbbapcaaDoor
open Go Go.Vai
noncomputable section
set_option maxRecDepth 100000
def Zl2 (c : Int) : Option AV := bc (!(Yc c (.ofNat 97))) (bc (!(Yc (.ofNat 122) c)) (some (.bool true)) (bc (!(Yc c (.ofNat 65))) (bc (!(Yc (.ofNat 90) c)) (some (.bool true)) (bc (Xz c (.ofNat 95)) (some (.bool true)) (bc (Xz c (.ofNat 46)) (some (.bool true)) (some (.bool (Xz c (.ofNat 36))))))) (bc (Xz c (.ofNat 95)) (some (.bool true)) (bc (Xz c (.ofNat 46)) (some (.bool true)) (some (.bool (Xz c (.ofNat 36)))))))) (bc (!(Yc c (.ofNat 65))) (bc (!(Yc (.ofNat 90) c)) (some (.bool true)) (bc (Xz c (.ofNat 95)) (some (.bool true)) (bc (Xz c (.ofNat 46)) (some (.bool true)) (some (.bool (Xz c (.ofNat 36))))))) (bc (Xz c (.ofNat 95)) (some (.bool true)) (bc (Xz c (.ofNat 46)) (some (.bool true)) (some (.bool (Xz c (.ofNat 36)))))))
theorem Z1e (c : Int) : Xn E1 1000 (.call 29 [.int .u8 c] (Xf 8 gl)) [] jK = Zl2 c := by kernel_rfl
def Zeo (c : Int) : Bool := Zpm (at_ [] ((Zl2 c).getD .nilp))
def Z98 : Option AV → Bool
  | some (.bool _) => true
  | _ => false
theorem Zxk (c : Int) : Zl2 c = some (.bool (Zeo c)) := by
  have h : Z98 (Zl2 c) = true := by
    unfold Zl2
    repeat (first | rfl | apply Zej)
  unfold Zeo
  generalize Zl2 c = x at h ⊢
  unfold Z98 at h
  split at h
  · rfl
  · cases h
def Zlz (c : Int) : Option AV := bc (!(Yc c (.ofNat 48))) (some (.bool (!(Yc (.ofNat 57) c)))) (some (.bool false))
theorem Z3h (c : Int) : Xn E1 1000 (.call 32 [.int .u8 c] (Xf 8 gl)) [] jK = Zlz c := by kernel_rfl
def K6 (c : Int) : Bool := Zpm (at_ [] ((Zlz c).getD .nilp))
def Yah : Option AV → Bool
  | some (.bool _) => true
  | _ => false
theorem Zv1 (c : Int) : Zlz c = some (.bool (K6 c)) := by
  have h : Yah (Zlz c) = true := by
    unfold Zlz
    repeat (first | rfl | apply Zej)
  unfold K6
  generalize Zlz c = x at h ⊢
  unfold Yah at h
  split at h
  · rfl
  · cases h
def Zyb (c : Int) : Option AV := bc (Xz c (.ofNat 32)) (some (.bool true)) (some (.bool (Xz c (.ofNat 9))))
theorem Z6z (c : Int) : Xn E1 1000 (.call 24 [.int .u8 c] (Xf 8 gl)) [] jK = Zyb c := by kernel_rfl
def Zf9 (c : Int) : Bool := Zpm (at_ [] ((Zyb c).getD .nilp))
def Yfw : Option AV → Bool
  | some (.bool _) => true
  | _ => false
theorem Z04 (c : Int) : Zyb c = some (.bool (Zf9 c)) := by
  have h : Yfw (Zyb c) = true := by
    unfold Zyb
    repeat (first | rfl | apply Zej)
  unfold Zf9
  generalize Zyb c = x at h ⊢
  unfold Yfw at h
  split at h
  · rfl
  · cases h
def Zmf (c : Int) : Option AV := bc (!(Yc c (.ofNat 97))) (bc (!(Yc (.ofNat 122) c)) (some (.bool true)) (bc (!(Yc c (.ofNat 65))) (bc (!(Yc (.ofNat 90) c)) (some (.bool true)) (bc (Xz c (.ofNat 95)) (some (.bool true)) (bc (Xz c (.ofNat 46)) (some (.bool true)) (some (.bool (Xz c (.ofNat 36))))))) (bc (Xz c (.ofNat 95)) (some (.bool true)) (bc (Xz c (.ofNat 46)) (some (.bool true)) (some (.bool (Xz c (.ofNat 36)))))))) (bc (!(Yc c (.ofNat 65))) (bc (!(Yc (.ofNat 90) c)) (some (.bool true)) (bc (Xz c (.ofNat 95)) (some (.bool true)) (bc (Xz c (.ofNat 46)) (some (.bool true)) (some (.bool (Xz c (.ofNat 36))))))) (bc (Xz c (.ofNat 95)) (some (.bool true)) (bc (Xz c (.ofNat 46)) (some (.bool true)) (some (.bool (Xz c (.ofNat 36)))))))
theorem Z2v (c : Int) : Xn E1 1000 (.call 19 [.int .u8 c] (Xf 8 gl)) [] jK = Zmf c := by kernel_rfl
def Yh (c : Int) : Bool := Zpm (at_ [] ((Zmf c).getD .nilp))
def Z90 : Option AV → Bool
  | some (.bool _) => true
  | _ => false
theorem Zwp (c : Int) : Zmf c = some (.bool (Yh c)) := by
  have h : Z90 (Zmf c) = true := by
    unfold Zmf
    repeat (first | rfl | apply Zej)
  unfold Yh
  generalize Zmf c = x at h ⊢
  unfold Z90 at h
  split at h
  · rfl
  · cases h
def Zmu (c : Int) : Option AV := bc (!(Yc c (.ofNat 48))) (some (.bool (!(Yc (.ofNat 57) c)))) (some (.bool false))
theorem Z4s (c : Int) : Xn E1 1000 (.call 20 [.int .u8 c] (Xf 8 gl)) [] jK = Zmu c := by kernel_rfl
def Yo (c : Int) : Bool := Zpm (at_ [] ((Zmu c).getD .nilp))
def Z9x : Option AV → Bool
  | some (.bool _) => true
  | _ => false
theorem Zwd (c : Int) : Zmu c = some (.bool (Yo c)) := by
  have h : Z9x (Zmu c) = true := by
    unfold Zmu
    repeat (first | rfl | apply Zej)
  unfold Yo
  generalize Zmu c = x at h ⊢
  unfold Z9x at h
  split at h
  · rfl
  · cases h
def Zj3 (c : Int) : Option AV := bc (Xz c (.ofNat 110)) (some (.tup [.int .u8 (.ofNat 10), .bool true])) (bc (Xz c (.ofNat 116)) (some (.tup [.int .u8 (.ofNat 9), .bool true])) (bc (Xz c (.ofNat 48)) (some (.tup [.int .u8 (.ofNat 0), .bool true])) (bc (Xz c (.ofNat 92)) (bc (Xz c (.ofNat 92)) (some (.tup [.int .u8 c, .bool true])) (some (.tup [.int .u8 (.ofNat 0), .bool false]))) (bc (Xz c (.ofNat 34)) (some (.tup [.int .u8 c, .bool true])) (some (.tup [.int .u8 (.ofNat 0), .bool false]))))))
theorem Z1t (c : Int) : Xn E1 1000 (.call 44 [.int .u8 c] (Xf 8 gl)) [] jK = Zj3 c := by kernel_rfl
def Zcm (c : Int) : Int := Ybz (at_ [0] ((Zj3 c).getD .nilp))
def Zdv (c : Int) : Bool := Zpm (at_ [1] ((Zj3 c).getD .nilp))
def Yam : Option AV → Bool
  | some (.tup [.int .u8 _, .bool _]) => true
  | _ => false
theorem Zwg (c : Int) : Zj3 c = some (.tup [.int .u8 (Zcm c), .bool (Zdv c)]) := by
  have h : Yam (Zj3 c) = true := by
    unfold Zj3
    repeat (first | rfl | apply Zej)
  unfold Zcm Zdv
  generalize Zj3 c = x at h ⊢
  unfold Yam at h
  split at h
  · rfl
  · cases h
def Zl7 (c : Int) : Option AV := some (.int .u8 (Zf .u8 (orI .u8 c (.ofNat 32))))
theorem Z17 (c : Int) : Xn E1 1000 (.call 51 [.int .u8 c] (Xf 8 gl)) [] jK = Zl7 c := by kernel_rfl
def Jd (c : Int) : Int := Ybz (at_ [] ((Zl7 c).getD .nilp))
def Z9p : Option AV → Bool
  | some (.int .u8 _) => true
  | _ => false
theorem Zxj (c : Int) : Zl7 c = some (.int .u8 (Jd c)) := by
  have h : Z9p (Zl7 c) = true := by
    unfold Zl7
    repeat (first | rfl | apply Zej)
  unfold Jd
  generalize Zl7 c = x at h ⊢
  unfold Z9p at h
  split at h
  · rfl
  · cases h
def Z9v : List AV → Option AV
  | [.int .u8 c] => some (.int .u8 (Jd c))
  | _ => none
def Yaq : List AV → Option AV
  | [.int .u8 c] => some (.tup [.int .u8 (Zcm c), .bool (Zdv c)])
  | _ => none
def Z9o : List AV → Option AV
  | [.int .u8 c] => some (.bool (Yo c))
  | _ => none
def Ybb : List AV → Option AV
  | [.int .u8 c] => some (.bool (Yh c))
  | _ => none
def Yg2 : List AV → Option AV
  | [.int .u8 c] => some (.bool (Zf9 c))
  | _ => none
def Yau : List AV → Option AV
  | [.int .u8 c] => some (.bool (K6 c))
  | _ => none
def Z96 : List AV → Option AV
  | [.int .u8 c] => some (.bool (Zeo c))
  | _ => none
def FT0 : Nat → List AV → Option AV := fun f args => bif Nat.beq f 29 then Z96 args else bif Nat.beq f 32 then Yau args else bif Nat.beq f 24 then Yg2 args else bif Nat.beq f 19 then Ybb args else bif Nat.beq f 20 then Z9o args else bif Nat.beq f 44 then Yaq args else bif Nat.beq f 51 then Z9v args else none
theorem Zgs (f : Nat) (args : List AV) (v : AV) (h : FT0 f args = some v) : ∃ (E : Env) (n : Nat), (∀ w, Yf gl w → EnvOk E Tryd.prog (Kept gl w)) ∧ (gl.all fun x => Nat.blt x.1 E.ng) = true ∧ (E.fn f).isSome = true ∧ (∀ a ∈ args, Plain a) ∧ ∃ o, Xn E n (.call f args (Xf E.ng gl)) o jK = some v := by
  unfold FT0 at h
  simp only [Bool.cond_eq_ite, Nat.beq_eq] at h
  split at h
  · rename_i e
    subst e
    unfold Z96 at h
    split at h
    · simp only [Option.some.injEq] at h
      subst h
      exact ⟨E1, 1000, Zcp, Wl, by kernel_rfl, Z2 rfl, ⟨[], (Z1e ..).trans (Zxk ..)⟩⟩
    · cases h
  split at h
  · rename_i e
    subst e
    unfold Yau at h
    split at h
    · simp only [Option.some.injEq] at h
      subst h
      exact ⟨E1, 1000, Zcp, Wl, by kernel_rfl, Z2 rfl, ⟨[], (Z3h ..).trans (Zv1 ..)⟩⟩
    · cases h
  split at h
  · rename_i e
    subst e
    unfold Yg2 at h
    split at h
    · simp only [Option.some.injEq] at h
      subst h
      exact ⟨E1, 1000, Zcp, Wl, by kernel_rfl, Z2 rfl, ⟨[], (Z6z ..).trans (Z04 ..)⟩⟩
    · cases h
  split at h
  · rename_i e
    subst e
    unfold Ybb at h
    split at h
    · simp only [Option.some.injEq] at h
      subst h
      exact ⟨E1, 1000, Zcp, Wl, by kernel_rfl, Z2 rfl, ⟨[], (Z2v ..).trans (Zwp ..)⟩⟩
    · cases h
  split at h
  · rename_i e
    subst e
    unfold Z9o at h
    split at h
    · simp only [Option.some.injEq] at h
      subst h
      exact ⟨E1, 1000, Zcp, Wl, by kernel_rfl, Z2 rfl, ⟨[], (Z4s ..).trans (Zwd ..)⟩⟩
    · cases h
  split at h
  · rename_i e
    subst e
    unfold Yaq at h
    split at h
    · simp only [Option.some.injEq] at h
      subst h
      exact ⟨E1, 1000, Zcp, Wl, by kernel_rfl, Z2 rfl, ⟨[], (Z1t ..).trans (Zwg ..)⟩⟩
    · cases h
  split at h
  · rename_i e
    subst e
    unfold Z9v at h
    split at h
    · simp only [Option.some.injEq] at h
      subst h
      exact ⟨E1, 1000, Zcp, Wl, by kernel_rfl, Z2 rfl, ⟨[], (Z17 ..).trans (Zxj ..)⟩⟩
    · cases h
  · cases h
def EL0 : Env := V3 Tryd.prog 8 [29, 32, 24, 19, 20, 44, 51] (Wv (Za1 kinds) (Zx FT0))
theorem Zsi (w : World) (hw : Yf gl w) : EnvOk EL0 Tryd.prog (Kept gl w) := Vp (by kernel_rfl) ((Jt Zch).or (W3 Zgs)) W1 (fun _ _ _ h => h.1) (Zt hw).ext
def Zms (c : Int) : Option AV := bc (K6 c) (some (.bool true)) (bc (!(Yc c (.ofNat 97))) (bc (!(Yc (.ofNat 102) c)) (some (.bool true)) (bc (!(Yc c (.ofNat 65))) (some (.bool (!(Yc (.ofNat 70) c)))) (some (.bool false)))) (bc (!(Yc c (.ofNat 65))) (some (.bool (!(Yc (.ofNat 70) c)))) (some (.bool false))))
theorem Z02 (c : Int) : Xn EL0 1000 (.call 42 [.int .u8 c] (Xf 8 gl)) [] jK = Zms c := by kernel_rfl
def Zcq (c : Int) : Bool := Zpm (at_ [] ((Zms c).getD .nilp))
def Ya6 : Option AV → Bool
  | some (.bool _) => true
  | _ => false
theorem Zxq (c : Int) : Zms c = some (.bool (Zcq c)) := by
  have h : Ya6 (Zms c) = true := by
    unfold Zms
    repeat (first | rfl | apply Zej)
  unfold Zcq
  generalize Zms c = x at h ⊢
  unfold Ya6 at h
  split at h
  · rfl
  · cases h
def Zpx (c : Int) : Option AV := bc (Zeo c) (some (.bool true)) (some (.bool (K6 c)))
theorem Z9i (c : Int) : Xn EL0 1000 (.call 31 [.int .u8 c] (Xf 8 gl)) [] jK = Zpx c := by kernel_rfl
def Zfe (c : Int) : Bool := Zpm (at_ [] ((Zpx c).getD .nilp))
def Yfh : Option AV → Bool
  | some (.bool _) => true
  | _ => false
theorem Zpr (c : Int) : Zpx c = some (.bool (Zfe c)) := by
  have h : Yfh (Zpx c) = true := by
    unfold Zpx
    repeat (first | rfl | apply Zej)
  unfold Zfe
  generalize Zpx c = x at h ⊢
  unfold Yfh at h
  split at h
  · rfl
  · cases h
def Zly (c : Int) : Option AV := bc (Yo c) (some (.int .i64 (Zf .i64 (Zf .u8 (Int.sub c (.ofNat 48)))))) (bc (!(Yc c (.ofNat 97))) (bc (!(Yc (.ofNat 102) c)) (some (.int .i64 (Zf .i64 (Int.add (Zf .i64 (Zf .u8 (Int.sub c (.ofNat 97)))) (.ofNat 10))))) (bc (!(Yc c (.ofNat 65))) (bc (!(Yc (.ofNat 70) c)) (some (.int .i64 (Zf .i64 (Int.add (Zf .i64 (Zf .u8 (Int.sub c (.ofNat 65)))) (.ofNat 10))))) (some (.int .i64 (.negSucc 0)))) (some (.int .i64 (.negSucc 0))))) (bc (!(Yc c (.ofNat 65))) (bc (!(Yc (.ofNat 70) c)) (some (.int .i64 (Zf .i64 (Int.add (Zf .i64 (Zf .u8 (Int.sub c (.ofNat 65)))) (.ofNat 10))))) (some (.int .i64 (.negSucc 0)))) (some (.int .i64 (.negSucc 0)))))
theorem Z4z (c : Int) : Xn EL0 1000 (.call 28 [.int .u8 c] (Xf 8 gl)) [] jK = Zly c := by kernel_rfl
def Zaz (c : Int) : Int := Ybz (at_ [] ((Zly c).getD .nilp))
def Z9t : Option AV → Bool
  | some (.int .i64 _) => true
  | _ => false
theorem Zxn (c : Int) : Zly c = some (.int .i64 (Zaz c)) := by
  have h : Z9t (Zly c) = true := by
    unfold Zly
    repeat (first | rfl | apply Zej)
  unfold Zaz
  generalize Zly c = x at h ⊢
  unfold Z9t at h
  split at h
  · rfl
  · cases h
def Yar : List AV → Option AV
  | [.int .u8 c] => some (.int .i64 (Zaz c))
  | _ => none
def Ygt : List AV → Option AV
  | [.int .u8 c] => some (.bool (Zfe c))
  | _ => none
def Yaw : List AV → Option AV
  | [.int .u8 c] => some (.bool (Zcq c))
  | _ => none
def FT1 : Nat → List AV → Option AV := fun f args => bif Nat.beq f 42 then Yaw args else bif Nat.beq f 31 then Ygt args else bif Nat.beq f 28 then Yar args else none
theorem Zkm (f : Nat) (args : List AV) (v : AV) (h : FT1 f args = some v) : ∃ (E : Env) (n : Nat), (∀ w, Yf gl w → EnvOk E Tryd.prog (Kept gl w)) ∧ (gl.all fun x => Nat.blt x.1 E.ng) = true ∧ (E.fn f).isSome = true ∧ (∀ a ∈ args, Plain a) ∧ ∃ o, Xn E n (.call f args (Xf E.ng gl)) o jK = some v := by
  unfold FT1 at h
  simp only [Bool.cond_eq_ite, Nat.beq_eq] at h
  split at h
  · rename_i e
    subst e
    unfold Yaw at h
    split at h
    · simp only [Option.some.injEq] at h
      subst h
      exact ⟨EL0, 1000, Zsi, Wl, by kernel_rfl, Z2 rfl, ⟨[], (Z02 ..).trans (Zxq ..)⟩⟩
    · cases h
  split at h
  · rename_i e
    subst e
    unfold Ygt at h
    split at h
    · simp only [Option.some.injEq] at h
      subst h
      exact ⟨EL0, 1000, Zsi, Wl, by kernel_rfl, Z2 rfl, ⟨[], (Z9i ..).trans (Zpr ..)⟩⟩
    · cases h
  split at h
  · rename_i e
    subst e
    unfold Yar at h
    split at h
    · simp only [Option.some.injEq] at h
      subst h
      exact ⟨EL0, 1000, Zsi, Wl, by kernel_rfl, Z2 rfl, ⟨[], (Z4z ..).trans (Zxn ..)⟩⟩
    · cases h
  · cases h
def Yb : Env := V3 Tryd.prog 8 [29, 32, 24, 19, 20, 44, 51, 42, 31, 28] (Wv (Za1 kinds) (Wv (Zx FT0) (Zx FT1)))
theorem Ql (w : World) (hw : Yf gl w) : EnvOk Yb Tryd.prog (Kept gl w) := Vp (by kernel_rfl) ((Jt Zch).or ((W3 Zgs).or (W3 Zkm))) W1 (fun _ _ _ h => h.1) (Zt hw).ext
end
end Go.Proofs.YtdpkmhnpbbapcaaDoor
