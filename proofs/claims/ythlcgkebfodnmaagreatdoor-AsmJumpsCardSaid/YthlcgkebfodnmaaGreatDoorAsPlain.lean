/- What is put behind, byte by byte; the plain law of the padding. -/
import Derived.Test.YthlcgkebfodnmaaGreatDoorAsBytes
namespace Go.Proofs.YthlcgkebfodnmaaGreatDoor
open Go Go.Vai
noncomputable section
end
end Go.Proofs.YthlcgkebfodnmaaGreatDoor
namespace Go.Proofs.YthlcgkebfodnmaaGreatDoor
open Go Go.Vai
noncomputable section
set_option maxRecDepth 100000
def cBegT (c : Int) : Option AV := bc (!(ilt c (.ofNat 97))) (bc (!(ilt (.ofNat 122) c)) (some (.bool true)) (bc (!(ilt c (.ofNat 65))) (bc (!(ilt (.ofNat 90) c)) (some (.bool true)) (bc (ieq c (.ofNat 95)) (some (.bool true)) (bc (ieq c (.ofNat 46)) (some (.bool true)) (some (.bool (ieq c (.ofNat 36))))))) (bc (ieq c (.ofNat 95)) (some (.bool true)) (bc (ieq c (.ofNat 46)) (some (.bool true)) (some (.bool (ieq c (.ofNat 36)))))))) (bc (!(ilt c (.ofNat 65))) (bc (!(ilt (.ofNat 90) c)) (some (.bool true)) (bc (ieq c (.ofNat 95)) (some (.bool true)) (bc (ieq c (.ofNat 46)) (some (.bool true)) (some (.bool (ieq c (.ofNat 36))))))) (bc (ieq c (.ofNat 95)) (some (.bool true)) (bc (ieq c (.ofNat 46)) (some (.bool true)) (some (.bool (ieq c (.ofNat 36)))))))
theorem cBegT_eq (c : Int) : callP E1 1000 (.call 297 [.int .u8 c] (gHeap 12 gl)) [] jK = cBegT c := by kernel_rfl
def cBegB (c : Int) : Bool := bolV (at_ [] ((cBegT c).getD .nilp))
def cBegS : Option AV → Bool
  | some (.bool _) => true
  | _ => false
theorem cBegT_val (c : Int) : cBegT c = some (.bool (cBegB c)) := by
  have h : cBegS (cBegT c) = true := by
    unfold cBegT
    repeat (first | rfl | apply bc_sh)
  unfold cBegB
  generalize cBegT c = x at h ⊢
  unfold cBegS at h
  split at h
  · rfl
  · cases h
def cDigT (c : Int) : Option AV := bc (!(ilt c (.ofNat 48))) (some (.bool (!(ilt (.ofNat 57) c)))) (some (.bool false))
theorem cDigT_eq (c : Int) : callP E1 1000 (.call 300 [.int .u8 c] (gHeap 12 gl)) [] jK = cDigT c := by kernel_rfl
def cDigB (c : Int) : Bool := bolV (at_ [] ((cDigT c).getD .nilp))
def cDigS : Option AV → Bool
  | some (.bool _) => true
  | _ => false
theorem cDigT_val (c : Int) : cDigT c = some (.bool (cDigB c)) := by
  have h : cDigS (cDigT c) = true := by
    unfold cDigT
    repeat (first | rfl | apply bc_sh)
  unfold cDigB
  generalize cDigT c = x at h ⊢
  unfold cDigS at h
  split at h
  · rfl
  · cases h
def cBlT (c : Int) : Option AV := bc (ieq c (.ofNat 32)) (some (.bool true)) (some (.bool (ieq c (.ofNat 9))))
theorem cBlT_eq (c : Int) : callP E1 1000 (.call 218 [.int .u8 c] (gHeap 12 gl)) [] jK = cBlT c := by kernel_rfl
def cBlB (c : Int) : Bool := bolV (at_ [] ((cBlT c).getD .nilp))
def cBlS : Option AV → Bool
  | some (.bool _) => true
  | _ => false
theorem cBlT_val (c : Int) : cBlT c = some (.bool (cBlB c)) := by
  have h : cBlS (cBlT c) = true := by
    unfold cBlT
    repeat (first | rfl | apply bc_sh)
  unfold cBlB
  generalize cBlT c = x at h ⊢
  unfold cBlS at h
  split at h
  · rfl
  · cases h
def cEscT (c : Int) : Option AV := bc (ieq c (.ofNat 110)) (some (.tup [.int .u8 (.ofNat 10), .bool true])) (bc (ieq c (.ofNat 116)) (some (.tup [.int .u8 (.ofNat 9), .bool true])) (bc (ieq c (.ofNat 48)) (some (.tup [.int .u8 (.ofNat 0), .bool true])) (bc (ieq c (.ofNat 92)) (bc (ieq c (.ofNat 92)) (some (.tup [.int .u8 c, .bool true])) (some (.tup [.int .u8 (.ofNat 0), .bool false]))) (bc (ieq c (.ofNat 34)) (some (.tup [.int .u8 c, .bool true])) (some (.tup [.int .u8 (.ofNat 0), .bool false]))))))
theorem cEscT_eq (c : Int) : callP E1 1000 (.call 339 [.int .u8 c] (gHeap 12 gl)) [] jK = cEscT c := by kernel_rfl
def cEscV (c : Int) : Int := intV (at_ [0] ((cEscT c).getD .nilp))
def cEscB (c : Int) : Bool := bolV (at_ [1] ((cEscT c).getD .nilp))
def cEscS : Option AV → Bool
  | some (.tup [.int .u8 _, .bool _]) => true
  | _ => false
theorem cEscT_val (c : Int) : cEscT c = some (.tup [.int .u8 (cEscV c), .bool (cEscB c)]) := by
  have h : cEscS (cEscT c) = true := by
    unfold cEscT
    repeat (first | rfl | apply bc_sh)
  unfold cEscV cEscB
  generalize cEscT c = x at h ⊢
  unfold cEscS at h
  split at h
  · rfl
  · cases h
def cLowT (c : Int) : Option AV := some (.int .u8 (wrapR .u8 (orI .u8 c (.ofNat 32))))
theorem cLowT_eq (c : Int) : callP E1 1000 (.call 352 [.int .u8 c] (gHeap 12 gl)) [] jK = cLowT c := by kernel_rfl
def cLowV (c : Int) : Int := intV (at_ [] ((cLowT c).getD .nilp))
def cLowS : Option AV → Bool
  | some (.int .u8 _) => true
  | _ => false
theorem cLowT_val (c : Int) : cLowT c = some (.int .u8 (cLowV c)) := by
  have h : cLowS (cLowT c) = true := by
    unfold cLowT
    repeat (first | rfl | apply bc_sh)
  unfold cLowV
  generalize cLowT c = x at h ⊢
  unfold cLowS at h
  split at h
  · rfl
  · cases h
def cLowF : List AV → Option AV
  | [.int .u8 c] => some (.int .u8 (cLowV c))
  | _ => none
def cEscF : List AV → Option AV
  | [.int .u8 c] => some (.tup [.int .u8 (cEscV c), .bool (cEscB c)])
  | _ => none
def cBlF : List AV → Option AV
  | [.int .u8 c] => some (.bool (cBlB c))
  | _ => none
def cDigF : List AV → Option AV
  | [.int .u8 c] => some (.bool (cDigB c))
  | _ => none
def cBegF : List AV → Option AV
  | [.int .u8 c] => some (.bool (cBegB c))
  | _ => none
def FT0 : Nat → List AV → Option AV := fun f args => bif Nat.beq f 297 then cBegF args else bif Nat.beq f 300 then cDigF args else bif Nat.beq f 218 then cBlF args else bif Nat.beq f 339 then cEscF args else bif Nat.beq f 352 then cLowF args else none
theorem ft0_ok (f : Nat) (args : List AV) (v : AV) (h : FT0 f args = some v) : ∃ (E : Env) (n : Nat), (∀ w, GlobOk gl w → EnvOk E Tryz.prog (Kept gl w)) ∧ (gl.all fun x => Nat.blt x.1 E.ng) = true ∧ (E.fn f).isSome = true ∧ (∀ a ∈ args, Plain a) ∧ ∃ o, callP E n (.call f args (gHeap E.ng gl)) o jK = some v := by
  unfold FT0 at h
  simp only [Bool.cond_eq_ite, Nat.beq_eq] at h
  split at h
  · rename_i e
    subst e
    unfold cBegF at h
    split at h
    · simp only [Option.some.injEq] at h
      subst h
      exact ⟨E1, 1000, e1_ok, gl_ok, by kernel_rfl, plain_list rfl, ⟨[], (cBegT_eq ..).trans (cBegT_val ..)⟩⟩
    · cases h
  split at h
  · rename_i e
    subst e
    unfold cDigF at h
    split at h
    · simp only [Option.some.injEq] at h
      subst h
      exact ⟨E1, 1000, e1_ok, gl_ok, by kernel_rfl, plain_list rfl, ⟨[], (cDigT_eq ..).trans (cDigT_val ..)⟩⟩
    · cases h
  split at h
  · rename_i e
    subst e
    unfold cBlF at h
    split at h
    · simp only [Option.some.injEq] at h
      subst h
      exact ⟨E1, 1000, e1_ok, gl_ok, by kernel_rfl, plain_list rfl, ⟨[], (cBlT_eq ..).trans (cBlT_val ..)⟩⟩
    · cases h
  split at h
  · rename_i e
    subst e
    unfold cEscF at h
    split at h
    · simp only [Option.some.injEq] at h
      subst h
      exact ⟨E1, 1000, e1_ok, gl_ok, by kernel_rfl, plain_list rfl, ⟨[], (cEscT_eq ..).trans (cEscT_val ..)⟩⟩
    · cases h
  split at h
  · rename_i e
    subst e
    unfold cLowF at h
    split at h
    · simp only [Option.some.injEq] at h
      subst h
      exact ⟨E1, 1000, e1_ok, gl_ok, by kernel_rfl, plain_list rfl, ⟨[], (cLowT_eq ..).trans (cLowT_val ..)⟩⟩
    · cases h
  · cases h
def EL0 : Env := envOf Tryz.prog 12 [297, 300, 218, 339, 352] (orSm (extSm kinds) (plainSm FT0))
theorem el0_ok (w : World) (hw : GlobOk gl w) : EnvOk EL0 Tryz.prog (Kept gl w) := envOk_sm (by kernel_rfl) ((smOk_ext ext_ok).or (plain_ok ft0_ok)) mixed_ok (fun _ _ _ h => h.1) (kept_carried hw).ext
def cHexT (c : Int) : Option AV := bc (cDigB c) (some (.bool true)) (bc (!(ilt c (.ofNat 97))) (bc (!(ilt (.ofNat 102) c)) (some (.bool true)) (bc (!(ilt c (.ofNat 65))) (some (.bool (!(ilt (.ofNat 70) c)))) (some (.bool false)))) (bc (!(ilt c (.ofNat 65))) (some (.bool (!(ilt (.ofNat 70) c)))) (some (.bool false))))
theorem cHexT_eq (c : Int) : callP EL0 1000 (.call 338 [.int .u8 c] (gHeap 12 gl)) [] jK = cHexT c := by kernel_rfl
def cHexB (c : Int) : Bool := bolV (at_ [] ((cHexT c).getD .nilp))
def cHexS : Option AV → Bool
  | some (.bool _) => true
  | _ => false
theorem cHexT_val (c : Int) : cHexT c = some (.bool (cHexB c)) := by
  have h : cHexS (cHexT c) = true := by
    unfold cHexT
    repeat (first | rfl | apply bc_sh)
  unfold cHexB
  generalize cHexT c = x at h ⊢
  unfold cHexS at h
  split at h
  · rfl
  · cases h
def cGoT (c : Int) : Option AV := bc (cBegB c) (some (.bool true)) (some (.bool (cDigB c)))
theorem cGoT_eq (c : Int) : callP EL0 1000 (.call 299 [.int .u8 c] (gHeap 12 gl)) [] jK = cGoT c := by kernel_rfl
def cGoB (c : Int) : Bool := bolV (at_ [] ((cGoT c).getD .nilp))
def cGoS : Option AV → Bool
  | some (.bool _) => true
  | _ => false
theorem cGoT_val (c : Int) : cGoT c = some (.bool (cGoB c)) := by
  have h : cGoS (cGoT c) = true := by
    unfold cGoT
    repeat (first | rfl | apply bc_sh)
  unfold cGoB
  generalize cGoT c = x at h ⊢
  unfold cGoS at h
  split at h
  · rfl
  · cases h
def cGoF : List AV → Option AV
  | [.int .u8 c] => some (.bool (cGoB c))
  | _ => none
def cHexF : List AV → Option AV
  | [.int .u8 c] => some (.bool (cHexB c))
  | _ => none
def FT1 : Nat → List AV → Option AV := fun f args => bif Nat.beq f 338 then cHexF args else bif Nat.beq f 299 then cGoF args else none
theorem ft1_ok (f : Nat) (args : List AV) (v : AV) (h : FT1 f args = some v) : ∃ (E : Env) (n : Nat), (∀ w, GlobOk gl w → EnvOk E Tryz.prog (Kept gl w)) ∧ (gl.all fun x => Nat.blt x.1 E.ng) = true ∧ (E.fn f).isSome = true ∧ (∀ a ∈ args, Plain a) ∧ ∃ o, callP E n (.call f args (gHeap E.ng gl)) o jK = some v := by
  unfold FT1 at h
  simp only [Bool.cond_eq_ite, Nat.beq_eq] at h
  split at h
  · rename_i e
    subst e
    unfold cHexF at h
    split at h
    · simp only [Option.some.injEq] at h
      subst h
      exact ⟨EL0, 1000, el0_ok, gl_ok, by kernel_rfl, plain_list rfl, ⟨[], (cHexT_eq ..).trans (cHexT_val ..)⟩⟩
    · cases h
  split at h
  · rename_i e
    subst e
    unfold cGoF at h
    split at h
    · simp only [Option.some.injEq] at h
      subst h
      exact ⟨EL0, 1000, el0_ok, gl_ok, by kernel_rfl, plain_list rfl, ⟨[], (cGoT_eq ..).trans (cGoT_val ..)⟩⟩
    · cases h
  · cases h
def EL1 : Env := envOf Tryz.prog 12 [297, 300, 218, 339, 352, 338, 299] (orSm (extSm kinds) (orSm (plainSm FT0) (plainSm FT1)))
theorem el1_ok (w : World) (hw : GlobOk gl w) : EnvOk EL1 Tryz.prog (Kept gl w) := envOk_sm (by kernel_rfl) ((smOk_ext ext_ok).or ((plain_ok ft0_ok).or (plain_ok ft1_ok))) mixed_ok (fun _ _ _ h => h.1) (kept_carried hw).ext
end
end Go.Proofs.YthlcgkebfodnmaaGreatDoor
namespace Go.Proofs.YthlcgkebfodnmaaGreatDoor
open Go Go.Vai
noncomputable section
set_option maxRecDepth 100000
def cI (c : UInt8) : Int := .ofNat c.toNat
def goP (c : UInt8) : Bool := cGoB (cI c)
def hexP (c : UInt8) : Bool := cHexB (cI c)
def digP (c : UInt8) : Bool := cDigB (cI c)
def fn298 : AFunc := (EL1.fn 298).getD default
theorem fn298_eq : EL1.fn 298 = some fn298 := by kernel_rfl
theorem fn298_flat : flat fn298.body = (flat fn298.body).take 2 ++ .block 0 (.loop (codeAt [2, 0] fn298.body)) :: (flat fn298.body).drop 3 := by kernel_rfl
theorem fn298_res : fn298.results = [.tmp 4] := by kernel_rfl
theorem rows0 {keep : List Nat} : ∀ (j : Nat) (o o2 : AObj), ([] : List AObj)[j]? = some o → ([] : List AObj)[j]? = some o2 → RObj 0 keep o o2 := fun j o o2 h => by simp at h
theorem rnGo0_eq (s : List UInt8) : codesKK EL1 (callKK EL1 3) ((flat fn298.body).take 2) (leafK 12 [0, 1, 5] [0, 1, 2, 3, 4, 5, 6, 7, 8, 9, 10, 11]) (newFr fn298 [.str s, .fn 299 [] []]) (mkH 12 []) = lf .normal 20 ([.str s, .fn 299 [] [], .int .i64 (.ofNat 0)].map some) ([].map some) := by kernel_rfl
theorem rnGo1_eq (s : List UInt8) (j : Nat) : codesKK EL1 (callKK EL1 3) (flat (codeAt [2, 0] fn298.body)) (leafK 12 [0, 1, 5] [0, 1, 2, 3, 4, 5, 6, 7, 8, 9, 10, 11]) (mkFr 20 [0, 1, 5] [.str s, .fn 299 [] [], .int .i64 (.ofNat j)]) (mkH 12 []) = bc (Nat.blt j (lenU s)) (bc (Nat.blt j (lenU s)) (bc (cGoB (.ofNat (UInt8.toNat (byteAt s j)))) (lf .normal 20 ([.str s, .fn 299 [] [], .int .i64 (up j)].map some) ([].map some)) (lf (.exit 0) 20 ([.str s, .fn 299 [] [], .int .i64 (.ofNat j)].map some) ([].map some))) (none)) (lf (.exit 0) 20 ([.str s, .fn 299 [] [], .int .i64 (.ofNat j)].map some) ([].map some)) := by kernel_rfl
theorem rnGo2_eq (s : List UInt8) (j : Nat) : codesKK EL1 (callKK EL1 3) ((flat fn298.body).drop 3) (leafK 12 [4] [0, 1, 2, 3, 4, 5, 6, 7, 8, 9, 10, 11]) (mkFr 20 [0, 1, 5] [.str s, .fn 299 [] [], .int .i64 (.ofNat j)]) (mkH 12 []) = lf .ret 20 ([.int .i64 (.ofNat j)].map some) ([].map some) := by kernel_rfl
theorem rnHex0_eq (s : List UInt8) : codesKK EL1 (callKK EL1 3) ((flat fn298.body).take 2) (leafK 12 [0, 1, 5] [0, 1, 2, 3, 4, 5, 6, 7, 8, 9, 10, 11]) (newFr fn298 [.str s, .fn 338 [] []]) (mkH 12 []) = lf .normal 20 ([.str s, .fn 338 [] [], .int .i64 (.ofNat 0)].map some) ([].map some) := by kernel_rfl
theorem rnHex1_eq (s : List UInt8) (j : Nat) : codesKK EL1 (callKK EL1 3) (flat (codeAt [2, 0] fn298.body)) (leafK 12 [0, 1, 5] [0, 1, 2, 3, 4, 5, 6, 7, 8, 9, 10, 11]) (mkFr 20 [0, 1, 5] [.str s, .fn 338 [] [], .int .i64 (.ofNat j)]) (mkH 12 []) = bc (Nat.blt j (lenU s)) (bc (Nat.blt j (lenU s)) (bc (cHexB (.ofNat (UInt8.toNat (byteAt s j)))) (lf .normal 20 ([.str s, .fn 338 [] [], .int .i64 (up j)].map some) ([].map some)) (lf (.exit 0) 20 ([.str s, .fn 338 [] [], .int .i64 (.ofNat j)].map some) ([].map some))) (none)) (lf (.exit 0) 20 ([.str s, .fn 338 [] [], .int .i64 (.ofNat j)].map some) ([].map some)) := by kernel_rfl
theorem rnHex2_eq (s : List UInt8) (j : Nat) : codesKK EL1 (callKK EL1 3) ((flat fn298.body).drop 3) (leafK 12 [4] [0, 1, 2, 3, 4, 5, 6, 7, 8, 9, 10, 11]) (mkFr 20 [0, 1, 5] [.str s, .fn 338 [] [], .int .i64 (.ofNat j)]) (mkH 12 []) = lf .ret 20 ([.int .i64 (.ofNat j)].map some) ([].map some) := by kernel_rfl
theorem rnDig0_eq (s : List UInt8) : codesKK EL1 (callKK EL1 3) ((flat fn298.body).take 2) (leafK 12 [0, 1, 5] [0, 1, 2, 3, 4, 5, 6, 7, 8, 9, 10, 11]) (newFr fn298 [.str s, .fn 300 [] []]) (mkH 12 []) = lf .normal 20 ([.str s, .fn 300 [] [], .int .i64 (.ofNat 0)].map some) ([].map some) := by kernel_rfl
theorem rnDig1_eq (s : List UInt8) (j : Nat) : codesKK EL1 (callKK EL1 3) (flat (codeAt [2, 0] fn298.body)) (leafK 12 [0, 1, 5] [0, 1, 2, 3, 4, 5, 6, 7, 8, 9, 10, 11]) (mkFr 20 [0, 1, 5] [.str s, .fn 300 [] [], .int .i64 (.ofNat j)]) (mkH 12 []) = bc (Nat.blt j (lenU s)) (bc (Nat.blt j (lenU s)) (bc (cDigB (.ofNat (UInt8.toNat (byteAt s j)))) (lf .normal 20 ([.str s, .fn 300 [] [], .int .i64 (up j)].map some) ([].map some)) (lf (.exit 0) 20 ([.str s, .fn 300 [] [], .int .i64 (.ofNat j)].map some) ([].map some))) (none)) (lf (.exit 0) 20 ([.str s, .fn 300 [] [], .int .i64 (.ofNat j)].map some) ([].map some)) := by kernel_rfl
theorem rnDig2_eq (s : List UInt8) (j : Nat) : codesKK EL1 (callKK EL1 3) ((flat fn298.body).drop 3) (leafK 12 [4] [0, 1, 2, 3, 4, 5, 6, 7, 8, 9, 10, 11]) (mkFr 20 [0, 1, 5] [.str s, .fn 300 [] [], .int .i64 (.ofNat j)]) (mkH 12 []) = lf .ret 20 ([.int .i64 (.ofNat j)].map some) ([].map some) := by kernel_rfl
section
variable {P : Program} {I : List MEnt → AHeap → World → Prop} {ro : Option Nat}
theorem rnGo_tri (hE : EnvOk EL1 P I) (hI : Carried I) {s : List UInt8} (hs : s.length < 4294967296) : Tri EL1 P I ro fn298.body (newFr fn298 [.str s, .fn 299 [] []]) (mkH 12 []) fun e fr H => (e = .normal ∨ e = .ret) ∧ fr.df = [] ∧ ∃ l, resA EL1 fr.t H fn298.results = some l ∧ weak2 (resV l) = .int .i64 (.ofNat (runL goP s)) := by
  have hl : lenU s = s.length := rfl
  refine tri_of_triL _ ?_
  rw [fn298_flat]
  refine TriL.leafX hE hI (rnGo0_eq s) (by decide) rfl rfl rows0 (.inl ⟨rfl, ?_⟩)
  refine Tri.mono (Tri.block (Q := fun e fr H => e = .normal ∧ Ren 12 [0, 1, 2, 3, 4, 5, 6, 7, 8, 9, 10, 11] fr H (mkFr 20 [0, 1, 5] [.str s, .fn 299 [] [], .int .i64 (.ofNat (runL goP s))]) (mkH 12 [])) (Tri.loop (X := Nat) (fr := fun j => mkFr 20 [0, 1, 5] [.str s, .fn 299 [] [], .int .i64 (.ofNat j)]) (H := fun _ => mkH 12 []) (Inv := fun j => j ≤ runL goP s) (fun j => s.length - j) hI ?_ 0 (Nat.zero_le _))) ?_
  · intro j hj
    have hle := runL_le goP s
    refine tri_of_triL _ ?_
    have e := rnGo1_eq s j
    by_cases h : j < runL goP s
    · rw [blt_t (show j < lenU s by omega), show cGoB (.ofNat (UInt8.toNat (byteAt s j))) = true from runL_lt (p := goP) h, bc_true, bc_true, bc_true, up_eq (by omega)] at e
      exact TriL.leafE hE e (by decide) rfl rfl rows0 fun fr' H' r => .inl ⟨rfl, j + 1, _, h, by omega, r⟩
    · obtain rfl : j = runL goP s := by omega
      by_cases h2 : runL goP s < s.length
      · rw [blt_t (show runL goP s < lenU s by omega), show cGoB (.ofNat (UInt8.toNat (byteAt s (runL goP s)))) = false from runL_end (p := goP) h2, bc_true, bc_true, bc_false] at e
        exact TriL.leafE hE e (by decide) rfl rfl rows0 fun fr' H' r => .inr ⟨(by intro h; cases h), rfl, r⟩
      · rw [blt_f (show ¬ runL goP s < lenU s by omega), bc_false] at e
        exact TriL.leafE hE e (by decide) rfl rfl rows0 fun fr' H' r => .inr ⟨(by intro h; cases h), rfl, r⟩
  · rintro e fr H ⟨rfl, r⟩
    refine .inl ⟨rfl, TriL.ren hI r ?_⟩
    refine TriL.leafE hE (rnGo2_eq s _) (by decide) rfl rfl rows0 fun fr' H' r => ⟨.inr rfl, r.df.1, ?_⟩
    obtain ⟨x, h1, h2⟩ := r.t 4 _ rfl
    refine ⟨[x], by rw [fn298_res]; simp [resA, h1], ?_⟩
    rw [rn_int h2]; rfl
theorem rnHex_tri (hE : EnvOk EL1 P I) (hI : Carried I) {s : List UInt8} (hs : s.length < 4294967296) : Tri EL1 P I ro fn298.body (newFr fn298 [.str s, .fn 338 [] []]) (mkH 12 []) fun e fr H => (e = .normal ∨ e = .ret) ∧ fr.df = [] ∧ ∃ l, resA EL1 fr.t H fn298.results = some l ∧ weak2 (resV l) = .int .i64 (.ofNat (runL hexP s)) := by
  have hl : lenU s = s.length := rfl
  refine tri_of_triL _ ?_
  rw [fn298_flat]
  refine TriL.leafX hE hI (rnHex0_eq s) (by decide) rfl rfl rows0 (.inl ⟨rfl, ?_⟩)
  refine Tri.mono (Tri.block (Q := fun e fr H => e = .normal ∧ Ren 12 [0, 1, 2, 3, 4, 5, 6, 7, 8, 9, 10, 11] fr H (mkFr 20 [0, 1, 5] [.str s, .fn 338 [] [], .int .i64 (.ofNat (runL hexP s))]) (mkH 12 [])) (Tri.loop (X := Nat) (fr := fun j => mkFr 20 [0, 1, 5] [.str s, .fn 338 [] [], .int .i64 (.ofNat j)]) (H := fun _ => mkH 12 []) (Inv := fun j => j ≤ runL hexP s) (fun j => s.length - j) hI ?_ 0 (Nat.zero_le _))) ?_
  · intro j hj
    have hle := runL_le hexP s
    refine tri_of_triL _ ?_
    have e := rnHex1_eq s j
    by_cases h : j < runL hexP s
    · rw [blt_t (show j < lenU s by omega), show cHexB (.ofNat (UInt8.toNat (byteAt s j))) = true from runL_lt (p := hexP) h, bc_true, bc_true, bc_true, up_eq (by omega)] at e
      exact TriL.leafE hE e (by decide) rfl rfl rows0 fun fr' H' r => .inl ⟨rfl, j + 1, _, h, by omega, r⟩
    · obtain rfl : j = runL hexP s := by omega
      by_cases h2 : runL hexP s < s.length
      · rw [blt_t (show runL hexP s < lenU s by omega), show cHexB (.ofNat (UInt8.toNat (byteAt s (runL hexP s)))) = false from runL_end (p := hexP) h2, bc_true, bc_true, bc_false] at e
        exact TriL.leafE hE e (by decide) rfl rfl rows0 fun fr' H' r => .inr ⟨(by intro h; cases h), rfl, r⟩
      · rw [blt_f (show ¬ runL hexP s < lenU s by omega), bc_false] at e
        exact TriL.leafE hE e (by decide) rfl rfl rows0 fun fr' H' r => .inr ⟨(by intro h; cases h), rfl, r⟩
  · rintro e fr H ⟨rfl, r⟩
    refine .inl ⟨rfl, TriL.ren hI r ?_⟩
    refine TriL.leafE hE (rnHex2_eq s _) (by decide) rfl rfl rows0 fun fr' H' r => ⟨.inr rfl, r.df.1, ?_⟩
    obtain ⟨x, h1, h2⟩ := r.t 4 _ rfl
    refine ⟨[x], by rw [fn298_res]; simp [resA, h1], ?_⟩
    rw [rn_int h2]; rfl
theorem rnDig_tri (hE : EnvOk EL1 P I) (hI : Carried I) {s : List UInt8} (hs : s.length < 4294967296) : Tri EL1 P I ro fn298.body (newFr fn298 [.str s, .fn 300 [] []]) (mkH 12 []) fun e fr H => (e = .normal ∨ e = .ret) ∧ fr.df = [] ∧ ∃ l, resA EL1 fr.t H fn298.results = some l ∧ weak2 (resV l) = .int .i64 (.ofNat (runL digP s)) := by
  have hl : lenU s = s.length := rfl
  refine tri_of_triL _ ?_
  rw [fn298_flat]
  refine TriL.leafX hE hI (rnDig0_eq s) (by decide) rfl rfl rows0 (.inl ⟨rfl, ?_⟩)
  refine Tri.mono (Tri.block (Q := fun e fr H => e = .normal ∧ Ren 12 [0, 1, 2, 3, 4, 5, 6, 7, 8, 9, 10, 11] fr H (mkFr 20 [0, 1, 5] [.str s, .fn 300 [] [], .int .i64 (.ofNat (runL digP s))]) (mkH 12 [])) (Tri.loop (X := Nat) (fr := fun j => mkFr 20 [0, 1, 5] [.str s, .fn 300 [] [], .int .i64 (.ofNat j)]) (H := fun _ => mkH 12 []) (Inv := fun j => j ≤ runL digP s) (fun j => s.length - j) hI ?_ 0 (Nat.zero_le _))) ?_
  · intro j hj
    have hle := runL_le digP s
    refine tri_of_triL _ ?_
    have e := rnDig1_eq s j
    by_cases h : j < runL digP s
    · rw [blt_t (show j < lenU s by omega), show cDigB (.ofNat (UInt8.toNat (byteAt s j))) = true from runL_lt (p := digP) h, bc_true, bc_true, bc_true, up_eq (by omega)] at e
      exact TriL.leafE hE e (by decide) rfl rfl rows0 fun fr' H' r => .inl ⟨rfl, j + 1, _, h, by omega, r⟩
    · obtain rfl : j = runL digP s := by omega
      by_cases h2 : runL digP s < s.length
      · rw [blt_t (show runL digP s < lenU s by omega), show cDigB (.ofNat (UInt8.toNat (byteAt s (runL digP s)))) = false from runL_end (p := digP) h2, bc_true, bc_true, bc_false] at e
        exact TriL.leafE hE e (by decide) rfl rfl rows0 fun fr' H' r => .inr ⟨(by intro h; cases h), rfl, r⟩
      · rw [blt_f (show ¬ runL digP s < lenU s by omega), bc_false] at e
        exact TriL.leafE hE e (by decide) rfl rfl rows0 fun fr' H' r => .inr ⟨(by intro h; cases h), rfl, r⟩
  · rintro e fr H ⟨rfl, r⟩
    refine .inl ⟨rfl, TriL.ren hI r ?_⟩
    refine TriL.leafE hE (rnDig2_eq s _) (by decide) rfl rfl rows0 fun fr' H' r => ⟨.inr rfl, r.df.1, ?_⟩
    obtain ⟨x, h1, h2⟩ := r.t 4 _ rfl
    refine ⟨[x], by rw [fn298_res]; simp [resA, h1], ?_⟩
    rw [rn_int h2]; rfl
end
def runP (f : Nat) (s : List UInt8) : Nat := bif Nat.beq f 299 then runL goP s else bif Nat.beq f 338 then runL hexP s else runL digP s
def runOk (f : Nat) (s : List UInt8) : Bool := (Nat.beq f 299 || (Nat.beq f 338 || Nat.beq f 300)) && Nat.blt (lenU s) 4294967296
def runFv : Nat → List AV → Option AV := fun g args => match args with
  | [.str s, .fn f [] []] => bif Nat.beq g 298 && runOk f s then some (.int .i64 (.ofNat (runP f s))) else none
  | _ => none
theorem run_ok : SmOk Tryz.prog gl (plainSm runFv) := tri_plain fun g args v h => by
  unfold runFv at h
  split at h
  case h_2 => cases h
  rename_i s f
  rw [Bool.cond_eq_ite] at h
  split at h
  case isFalse => cases h
  rename_i hb
  unfold runOk at hb
  simp only [Bool.and_eq_true, Bool.or_eq_true, Nat.beq_eq, Nat.blt_eq] at hb
  obtain ⟨rfl, hf, hs⟩ := hb
  simp only [Option.some.injEq] at h
  subst h
  have hp : ∀ a ∈ [AV.str s, .fn f [] []], Plain a := fun a ha => by
    simp only [List.mem_cons, List.not_mem_nil, or_false] at ha
    rcases ha with rfl | rfl
    · exact plain_str _
    · intro b keep; rfl
  refine ⟨EL1, fn298, el1_ok, gl_ok, fn298_eq, hp, plain_int _ _, fun w hw => ?_⟩
  rcases hf with rfl | rfl | rfl
  · exact rnGo_tri (el1_ok w hw) (kept_carried hw) hs
  · exact rnHex_tri (el1_ok w hw) (kept_carried hw) hs
  · exact rnDig_tri (el1_ok w hw) (kept_carried hw) hs
end
end Go.Proofs.YthlcgkebfodnmaaGreatDoor
