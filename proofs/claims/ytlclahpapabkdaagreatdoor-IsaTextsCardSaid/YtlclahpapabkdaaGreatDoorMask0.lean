/- Package mask: how many ones, the lowest bits. -/
import Derived.Test.YtlclahpapabkdaaGreatDoorTxBase
import Derived.Test.YtlclahpapabkdaaGreatDoorVaiH
import Derived.KernelRfl
namespace Go.Proofs.YtlclahpapabkdaaGreatDoor
open Go Go.Vai
noncomputable section
set_option maxRecDepth 100000
theorem and127 (a : Int) : ∃ k : Nat, k ≤ 127 ∧ wrapR .i64 (andI .i64 a (.ofNat 127)) = .ofNat k :=
  ⟨Nat.land (bitsOf .i64 a) (bitsOf .i64 (.ofNat 127)), Nat.le_trans Nat.and_le_right (by decide), wrapR_nat (Nat.lt_of_le_of_lt Nat.and_le_right (by decide))⟩
def ocT (x : Int) : Option AV := some (.int .i64 (wrapR .i64 (andI .i64 (wrapR .i64 (wrapR .u64 (Int.add (wrapR .u64 (Int.add (wrapR .u64 (Int.add (wrapR .u64 (andI .u64 (wrapR .u64 (Int.add (shrI (wrapR .u64 (Int.add (wrapR .u64 (andI .u64 (shrI (wrapR .u64 (Int.add (wrapR .u64 (andI .u64 (shrI x 1) (.ofNat 6148914691236517205))) (wrapR .u64 (andI .u64 x (.ofNat 6148914691236517205))))) 2) (.ofNat 3689348814741910323))) (wrapR .u64 (andI .u64 (wrapR .u64 (Int.add (wrapR .u64 (andI .u64 (shrI x 1) (.ofNat 6148914691236517205))) (wrapR .u64 (andI .u64 x (.ofNat 6148914691236517205))))) (.ofNat 3689348814741910323))))) 4) (wrapR .u64 (Int.add (wrapR .u64 (andI .u64 (shrI (wrapR .u64 (Int.add (wrapR .u64 (andI .u64 (shrI x 1) (.ofNat 6148914691236517205))) (wrapR .u64 (andI .u64 x (.ofNat 6148914691236517205))))) 2) (.ofNat 3689348814741910323))) (wrapR .u64 (andI .u64 (wrapR .u64 (Int.add (wrapR .u64 (andI .u64 (shrI x 1) (.ofNat 6148914691236517205))) (wrapR .u64 (andI .u64 x (.ofNat 6148914691236517205))))) (.ofNat 3689348814741910323))))))) (.ofNat 1085102592571150095))) (shrI (wrapR .u64 (andI .u64 (wrapR .u64 (Int.add (shrI (wrapR .u64 (Int.add (wrapR .u64 (andI .u64 (shrI (wrapR .u64 (Int.add (wrapR .u64 (andI .u64 (shrI x 1) (.ofNat 6148914691236517205))) (wrapR .u64 (andI .u64 x (.ofNat 6148914691236517205))))) 2) (.ofNat 3689348814741910323))) (wrapR .u64 (andI .u64 (wrapR .u64 (Int.add (wrapR .u64 (andI .u64 (shrI x 1) (.ofNat 6148914691236517205))) (wrapR .u64 (andI .u64 x (.ofNat 6148914691236517205))))) (.ofNat 3689348814741910323))))) 4) (wrapR .u64 (Int.add (wrapR .u64 (andI .u64 (shrI (wrapR .u64 (Int.add (wrapR .u64 (andI .u64 (shrI x 1) (.ofNat 6148914691236517205))) (wrapR .u64 (andI .u64 x (.ofNat 6148914691236517205))))) 2) (.ofNat 3689348814741910323))) (wrapR .u64 (andI .u64 (wrapR .u64 (Int.add (wrapR .u64 (andI .u64 (shrI x 1) (.ofNat 6148914691236517205))) (wrapR .u64 (andI .u64 x (.ofNat 6148914691236517205))))) (.ofNat 3689348814741910323))))))) (.ofNat 1085102592571150095))) 8))) (shrI (wrapR .u64 (Int.add (wrapR .u64 (andI .u64 (wrapR .u64 (Int.add (shrI (wrapR .u64 (Int.add (wrapR .u64 (andI .u64 (shrI (wrapR .u64 (Int.add (wrapR .u64 (andI .u64 (shrI x 1) (.ofNat 6148914691236517205))) (wrapR .u64 (andI .u64 x (.ofNat 6148914691236517205))))) 2) (.ofNat 3689348814741910323))) (wrapR .u64 (andI .u64 (wrapR .u64 (Int.add (wrapR .u64 (andI .u64 (shrI x 1) (.ofNat 6148914691236517205))) (wrapR .u64 (andI .u64 x (.ofNat 6148914691236517205))))) (.ofNat 3689348814741910323))))) 4) (wrapR .u64 (Int.add (wrapR .u64 (andI .u64 (shrI (wrapR .u64 (Int.add (wrapR .u64 (andI .u64 (shrI x 1) (.ofNat 6148914691236517205))) (wrapR .u64 (andI .u64 x (.ofNat 6148914691236517205))))) 2) (.ofNat 3689348814741910323))) (wrapR .u64 (andI .u64 (wrapR .u64 (Int.add (wrapR .u64 (andI .u64 (shrI x 1) (.ofNat 6148914691236517205))) (wrapR .u64 (andI .u64 x (.ofNat 6148914691236517205))))) (.ofNat 3689348814741910323))))))) (.ofNat 1085102592571150095))) (shrI (wrapR .u64 (andI .u64 (wrapR .u64 (Int.add (shrI (wrapR .u64 (Int.add (wrapR .u64 (andI .u64 (shrI (wrapR .u64 (Int.add (wrapR .u64 (andI .u64 (shrI x 1) (.ofNat 6148914691236517205))) (wrapR .u64 (andI .u64 x (.ofNat 6148914691236517205))))) 2) (.ofNat 3689348814741910323))) (wrapR .u64 (andI .u64 (wrapR .u64 (Int.add (wrapR .u64 (andI .u64 (shrI x 1) (.ofNat 6148914691236517205))) (wrapR .u64 (andI .u64 x (.ofNat 6148914691236517205))))) (.ofNat 3689348814741910323))))) 4) (wrapR .u64 (Int.add (wrapR .u64 (andI .u64 (shrI (wrapR .u64 (Int.add (wrapR .u64 (andI .u64 (shrI x 1) (.ofNat 6148914691236517205))) (wrapR .u64 (andI .u64 x (.ofNat 6148914691236517205))))) 2) (.ofNat 3689348814741910323))) (wrapR .u64 (andI .u64 (wrapR .u64 (Int.add (wrapR .u64 (andI .u64 (shrI x 1) (.ofNat 6148914691236517205))) (wrapR .u64 (andI .u64 x (.ofNat 6148914691236517205))))) (.ofNat 3689348814741910323))))))) (.ofNat 1085102592571150095))) 8))) 16))) (shrI (wrapR .u64 (Int.add (wrapR .u64 (Int.add (wrapR .u64 (andI .u64 (wrapR .u64 (Int.add (shrI (wrapR .u64 (Int.add (wrapR .u64 (andI .u64 (shrI (wrapR .u64 (Int.add (wrapR .u64 (andI .u64 (shrI x 1) (.ofNat 6148914691236517205))) (wrapR .u64 (andI .u64 x (.ofNat 6148914691236517205))))) 2) (.ofNat 3689348814741910323))) (wrapR .u64 (andI .u64 (wrapR .u64 (Int.add (wrapR .u64 (andI .u64 (shrI x 1) (.ofNat 6148914691236517205))) (wrapR .u64 (andI .u64 x (.ofNat 6148914691236517205))))) (.ofNat 3689348814741910323))))) 4) (wrapR .u64 (Int.add (wrapR .u64 (andI .u64 (shrI (wrapR .u64 (Int.add (wrapR .u64 (andI .u64 (shrI x 1) (.ofNat 6148914691236517205))) (wrapR .u64 (andI .u64 x (.ofNat 6148914691236517205))))) 2) (.ofNat 3689348814741910323))) (wrapR .u64 (andI .u64 (wrapR .u64 (Int.add (wrapR .u64 (andI .u64 (shrI x 1) (.ofNat 6148914691236517205))) (wrapR .u64 (andI .u64 x (.ofNat 6148914691236517205))))) (.ofNat 3689348814741910323))))))) (.ofNat 1085102592571150095))) (shrI (wrapR .u64 (andI .u64 (wrapR .u64 (Int.add (shrI (wrapR .u64 (Int.add (wrapR .u64 (andI .u64 (shrI (wrapR .u64 (Int.add (wrapR .u64 (andI .u64 (shrI x 1) (.ofNat 6148914691236517205))) (wrapR .u64 (andI .u64 x (.ofNat 6148914691236517205))))) 2) (.ofNat 3689348814741910323))) (wrapR .u64 (andI .u64 (wrapR .u64 (Int.add (wrapR .u64 (andI .u64 (shrI x 1) (.ofNat 6148914691236517205))) (wrapR .u64 (andI .u64 x (.ofNat 6148914691236517205))))) (.ofNat 3689348814741910323))))) 4) (wrapR .u64 (Int.add (wrapR .u64 (andI .u64 (shrI (wrapR .u64 (Int.add (wrapR .u64 (andI .u64 (shrI x 1) (.ofNat 6148914691236517205))) (wrapR .u64 (andI .u64 x (.ofNat 6148914691236517205))))) 2) (.ofNat 3689348814741910323))) (wrapR .u64 (andI .u64 (wrapR .u64 (Int.add (wrapR .u64 (andI .u64 (shrI x 1) (.ofNat 6148914691236517205))) (wrapR .u64 (andI .u64 x (.ofNat 6148914691236517205))))) (.ofNat 3689348814741910323))))))) (.ofNat 1085102592571150095))) 8))) (shrI (wrapR .u64 (Int.add (wrapR .u64 (andI .u64 (wrapR .u64 (Int.add (shrI (wrapR .u64 (Int.add (wrapR .u64 (andI .u64 (shrI (wrapR .u64 (Int.add (wrapR .u64 (andI .u64 (shrI x 1) (.ofNat 6148914691236517205))) (wrapR .u64 (andI .u64 x (.ofNat 6148914691236517205))))) 2) (.ofNat 3689348814741910323))) (wrapR .u64 (andI .u64 (wrapR .u64 (Int.add (wrapR .u64 (andI .u64 (shrI x 1) (.ofNat 6148914691236517205))) (wrapR .u64 (andI .u64 x (.ofNat 6148914691236517205))))) (.ofNat 3689348814741910323))))) 4) (wrapR .u64 (Int.add (wrapR .u64 (andI .u64 (shrI (wrapR .u64 (Int.add (wrapR .u64 (andI .u64 (shrI x 1) (.ofNat 6148914691236517205))) (wrapR .u64 (andI .u64 x (.ofNat 6148914691236517205))))) 2) (.ofNat 3689348814741910323))) (wrapR .u64 (andI .u64 (wrapR .u64 (Int.add (wrapR .u64 (andI .u64 (shrI x 1) (.ofNat 6148914691236517205))) (wrapR .u64 (andI .u64 x (.ofNat 6148914691236517205))))) (.ofNat 3689348814741910323))))))) (.ofNat 1085102592571150095))) (shrI (wrapR .u64 (andI .u64 (wrapR .u64 (Int.add (shrI (wrapR .u64 (Int.add (wrapR .u64 (andI .u64 (shrI (wrapR .u64 (Int.add (wrapR .u64 (andI .u64 (shrI x 1) (.ofNat 6148914691236517205))) (wrapR .u64 (andI .u64 x (.ofNat 6148914691236517205))))) 2) (.ofNat 3689348814741910323))) (wrapR .u64 (andI .u64 (wrapR .u64 (Int.add (wrapR .u64 (andI .u64 (shrI x 1) (.ofNat 6148914691236517205))) (wrapR .u64 (andI .u64 x (.ofNat 6148914691236517205))))) (.ofNat 3689348814741910323))))) 4) (wrapR .u64 (Int.add (wrapR .u64 (andI .u64 (shrI (wrapR .u64 (Int.add (wrapR .u64 (andI .u64 (shrI x 1) (.ofNat 6148914691236517205))) (wrapR .u64 (andI .u64 x (.ofNat 6148914691236517205))))) 2) (.ofNat 3689348814741910323))) (wrapR .u64 (andI .u64 (wrapR .u64 (Int.add (wrapR .u64 (andI .u64 (shrI x 1) (.ofNat 6148914691236517205))) (wrapR .u64 (andI .u64 x (.ofNat 6148914691236517205))))) (.ofNat 3689348814741910323))))))) (.ofNat 1085102592571150095))) 8))) 16))) 32)))) (.ofNat 127))))
theorem ocT_eq (x : Int) : callP E1 1000 (.call 129 [.int .u64 x] (gHeap 12 gl)) [] jK = ocT x := by kernel_rfl
def pcN (x : Int) : Nat := (intV ((ocT x).getD .nilp)).toNat
theorem oc_nat (x : Int) : ∃ k : Nat, k ≤ 127 ∧ ocT x = some (.int .i64 (.ofNat k)) := by
  unfold ocT
  generalize wrapR .i64 (wrapR .u64 _) = y
  obtain ⟨k, h1, h2⟩ := and127 y
  exact ⟨k, h1, by rw [h2]⟩
theorem ocT_val (x : Int) : ocT x = some (.int .i64 (.ofNat (pcN x))) := by
  obtain ⟨k, _, h⟩ := oc_nat x
  unfold pcN
  rw [h]; rfl
def onT (k : Nat) : Option AV := bc (!(Nat.blt k 64)) (some (.int .u64 (.ofNat 18446744073709551615))) (some (.int .u64 (wrapR .u64 (Int.sub (wrapR .u64 (shlI (.ofNat 1) (Nat.min k 64))) (.ofNat 1)))))
theorem onT_eq (k : Nat) : callP E1 1000 (.call 128 [.int .i64 (.ofNat k)] (gHeap 12 gl)) [] jK = onT k := by kernel_rfl
def onV (k : Nat) : Int := intV ((onT k).getD .nilp)
def isU64 : Option AV → Bool
  | some (.int .u64 _) => true
  | _ => false
theorem u64_val {o : Option AV} (h : isU64 o = true) : o = some (.int .u64 (intV (o.getD .nilp))) := by
  unfold isU64 at h
  split at h
  · rfl
  · cases h
theorem onT_val (k : Nat) : onT k = some (.int .u64 (onV k)) := u64_val (by
  unfold onT
  repeat (first | rfl | apply bc_sh))
def onF : List AV → Option AV
  | [.int .i64 (.ofNat k)] => some (.int .u64 (onV k))
  | _ => none
def ocF : List AV → Option AV
  | [.int .u64 x] => some (.int .i64 (.ofNat (pcN x)))
  | _ => none
def MF0 : Nat → List AV → Option AV := fun f args => bif Nat.beq f 129 then ocF args else bif Nat.beq f 128 then onF args else none
theorem mf0_ok (f : Nat) (args : List AV) (v : AV) (h : MF0 f args = some v) : ∃ (E : Env) (n : Nat) (s : Smk AV), SmkOk E s ∧ (∀ w, GlobOk gl w → EnvOk E Tryz.prog (Kept gl w)) ∧ (gl.all fun x => Nat.blt x.1 E.ng) = true ∧ (E.fn f).isSome = true ∧ (∀ a ∈ args, Plain a) ∧ ∃ o, callPS E s noPin n (.call f args (gHeap E.ng gl)) o jK = some v := by
  unfold MF0 at h
  simp only [Bool.cond_eq_ite, Nat.beq_eq] at h
  split at h
  · rename_i e
    subst e
    unfold ocF at h
    split at h
    · simp only [Option.some.injEq] at h
      subst h
      exact ⟨E1, 1000, _, smC_ok _, e1_ok, gl_ok, by kernel_rfl, plain_list rfl, ⟨[], (ocT_eq ..).trans (ocT_val ..)⟩⟩
    · cases h
  split at h
  · rename_i e
    subst e
    unfold onF at h
    split at h
    · simp only [Option.some.injEq] at h
      subst h
      exact ⟨E1, 1000, _, smC_ok _, e1_ok, gl_ok, by kernel_rfl, plain_list rfl, ⟨[], (onT_eq ..).trans (onT_val ..)⟩⟩
    · cases h
  · cases h
def ML0 : Env := envOf Tryz.prog 12 [129, 128] (orSm (extSm kinds) (plainSm MF0))
theorem ml0_ok (w : World) (hw : GlobOk gl w) : EnvOk ML0 Tryz.prog (Kept gl w) := envOk_sm (by kernel_rfl) ((smOk_ext ext_ok).or (plain_okS mf0_ok)) mixed_ok (fun _ _ _ h => h.1) (kept_carried hw).ext
end
end Go.Proofs.YtlclahpapabkdaaGreatDoor
