/- The environment of isa.Encode. -/
import Derived.Test.YtlclahpapabkdaaGreatDoorTxFld
import Derived.Test.YtlclahpapabkdaaGreatDoorMask3
import Derived.Test.YtlclahpapabkdaaGreatDoorVaiOpq
import Derived.Test.YtlclahpapabkdaaGreatDoorTxEb
import Derived.KernelRfl
namespace Go.Proofs.YtlclahpapabkdaaGreatDoor
open Go Go.Vai
noncomputable section
set_option maxRecDepth 100000
def MFO : Nat → List AV → Option AV := fun f args => bif Nat.beq f 95 then ofF args else none
theorem mfo_ok (f : Nat) (args : List AV) (v : AV) (h : MFO f args = some v) : ∃ (E : Env) (n : Nat) (s : Smk AV), SmkOk E s ∧ (∀ w, GlobOk gl w → EnvOk E Tryz.prog (Kept gl w)) ∧ (gl.all fun x => Nat.blt x.1 E.ng) = true ∧ (E.fn f).isSome = true ∧ (∀ a ∈ args, Plain a) ∧ ∃ o, callPS E s noPin n (.call f args (gHeap E.ng gl)) o jK = some v := by
  unfold MFO at h
  simp only [Bool.cond_eq_ite, Nat.beq_eq] at h
  split at h
  · rename_i e
    subst e
    unfold ofF at h
    split at h
    · simp only [Option.some.injEq] at h
      subst h
      exact ⟨ML2, 1000, _, smC_ok _, ml2_ok, gl_ok, by kernel_rfl, plain_list rfl, ⟨[], (ofT_eq ..).trans (ofT_val ..)⟩⟩
    · cases h
  · cases h
def E3 : Env := envOf Tryz.prog 12 [156, 47, 53, 105, 113, 95, 103] (orSm (extSm kinds) (orSm (contSm 156) (orSm (plainSm findF) (orSm (plainSm MFO) fldSm))))
theorem e3_ok (w : World) (hw : GlobOk gl w) : EnvOk E3 Tryz.prog (Kept gl w) := envOk_sm (by kernel_rfl) ((smOk_ext ext_ok).or (cont_ok1.or (find_ok.or ((plain_okS mfo_ok).or fld_ok)))) mixed_ok (fun _ _ _ h => h.1) (kept_carried hw).ext
def E3e : Env := envOf Tryz.prog 12 [156, 47, 53, 105, 113, 95, 103, 49] (orSm (extSm kinds) (orSm (contSm 156) (orSm (plainSm findF) (orSm (plainSm MFO) fldSm))))
theorem e3e_ok (w : World) (hw : GlobOk gl w) : EnvOk E3e Tryz.prog (Kept gl w) := envOk_sm (by kernel_rfl) ((smOk_ext ext_ok).or (cont_ok1.or (find_ok.or ((plain_okS mfo_ok).or fld_ok)))) mixed_ok (fun _ _ _ h => h.1) (kept_carried hw).ext
def go9 (t : Nat) (nm : List UInt8) (A B C D I : Int) : Option AV := callP E3 100000 (.call 9 [.int .i64 (.ofNat t), insV nm A B C D I] (gHeap 12 gl)) [] jO
def go9e (t : Nat) (nm : List UInt8) (A B C D I : Int) : Option AV := callP E3e 100000 (.call 9 [.int .i64 (.ofNat t), insV nm A B C D I] (gHeap 12 gl)) [] jO
end
end Go.Proofs.YtlclahpapabkdaaGreatDoor
