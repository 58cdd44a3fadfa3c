/- Package mask: an element as often as it fits. -/
import Derived.Test.YtlclahpapabkdaaGreatDoorMask0
import Derived.KernelRfl
namespace Go.Proofs.YtlclahpapabkdaaGreatDoor
open Go Go.Vai
noncomputable section
set_option maxRecDepth 100000
theorem sub_nat {e r : Nat} (h : r ≤ e) (he : e ≤ 64) : wrapR .i64 (Int.sub (.ofNat e) (.ofNat r)) = .ofNat (e - r) := by
  have : Int.sub (.ofNat e) (.ofNat r) = .ofNat (e - r) := by
    show (Int.ofNat e) - (Int.ofNat r) = Int.ofNat (e - r)
    simp only [Int.ofNat_eq_natCast]
    omega
  rw [this]
  exact wrapR_nat (by show e - r < 9223372036854775808; omega)
theorem ilt_nat0 (a : Nat) : ilt (.ofNat a) (.ofNat 0) = false := rfl
def sp2T (x : Int) : Option AV := some (.int .u64 (wrapR .u64 (orI .u64 (wrapR .u64 (orI .u64 (wrapR .u64 (orI .u64 (wrapR .u64 (orI .u64 (wrapR .u64 (orI .u64 x (wrapR .u64 (shlI x 2)))) (wrapR .u64 (shlI (wrapR .u64 (orI .u64 x (wrapR .u64 (shlI x 2)))) 4)))) (wrapR .u64 (shlI (wrapR .u64 (orI .u64 (wrapR .u64 (orI .u64 x (wrapR .u64 (shlI x 2)))) (wrapR .u64 (shlI (wrapR .u64 (orI .u64 x (wrapR .u64 (shlI x 2)))) 4)))) 8)))) (wrapR .u64 (shlI (wrapR .u64 (orI .u64 (wrapR .u64 (orI .u64 (wrapR .u64 (orI .u64 x (wrapR .u64 (shlI x 2)))) (wrapR .u64 (shlI (wrapR .u64 (orI .u64 x (wrapR .u64 (shlI x 2)))) 4)))) (wrapR .u64 (shlI (wrapR .u64 (orI .u64 (wrapR .u64 (orI .u64 x (wrapR .u64 (shlI x 2)))) (wrapR .u64 (shlI (wrapR .u64 (orI .u64 x (wrapR .u64 (shlI x 2)))) 4)))) 8)))) 16)))) (wrapR .u64 (shlI (wrapR .u64 (orI .u64 (wrapR .u64 (orI .u64 (wrapR .u64 (orI .u64 (wrapR .u64 (orI .u64 x (wrapR .u64 (shlI x 2)))) (wrapR .u64 (shlI (wrapR .u64 (orI .u64 x (wrapR .u64 (shlI x 2)))) 4)))) (wrapR .u64 (shlI (wrapR .u64 (orI .u64 (wrapR .u64 (orI .u64 x (wrapR .u64 (shlI x 2)))) (wrapR .u64 (shlI (wrapR .u64 (orI .u64 x (wrapR .u64 (shlI x 2)))) 4)))) 8)))) (wrapR .u64 (shlI (wrapR .u64 (orI .u64 (wrapR .u64 (orI .u64 (wrapR .u64 (orI .u64 x (wrapR .u64 (shlI x 2)))) (wrapR .u64 (shlI (wrapR .u64 (orI .u64 x (wrapR .u64 (shlI x 2)))) 4)))) (wrapR .u64 (shlI (wrapR .u64 (orI .u64 (wrapR .u64 (orI .u64 x (wrapR .u64 (shlI x 2)))) (wrapR .u64 (shlI (wrapR .u64 (orI .u64 x (wrapR .u64 (shlI x 2)))) 4)))) 8)))) 16)))) 32)))))
theorem sp2T_eq (x : Int) : callP ML0 1000 (.call 127 [.int .u64 x, .int .i64 (.ofNat 2)] (gHeap 12 gl)) [] jK = sp2T x := by kernel_rfl
theorem sp2T_u (x : Int) : isU64 (sp2T x) = true := rfl
def sp4T (x : Int) : Option AV := some (.int .u64 (wrapR .u64 (orI .u64 (wrapR .u64 (orI .u64 (wrapR .u64 (orI .u64 (wrapR .u64 (orI .u64 x (wrapR .u64 (shlI x 4)))) (wrapR .u64 (shlI (wrapR .u64 (orI .u64 x (wrapR .u64 (shlI x 4)))) 8)))) (wrapR .u64 (shlI (wrapR .u64 (orI .u64 (wrapR .u64 (orI .u64 x (wrapR .u64 (shlI x 4)))) (wrapR .u64 (shlI (wrapR .u64 (orI .u64 x (wrapR .u64 (shlI x 4)))) 8)))) 16)))) (wrapR .u64 (shlI (wrapR .u64 (orI .u64 (wrapR .u64 (orI .u64 (wrapR .u64 (orI .u64 x (wrapR .u64 (shlI x 4)))) (wrapR .u64 (shlI (wrapR .u64 (orI .u64 x (wrapR .u64 (shlI x 4)))) 8)))) (wrapR .u64 (shlI (wrapR .u64 (orI .u64 (wrapR .u64 (orI .u64 x (wrapR .u64 (shlI x 4)))) (wrapR .u64 (shlI (wrapR .u64 (orI .u64 x (wrapR .u64 (shlI x 4)))) 8)))) 16)))) 32)))))
theorem sp4T_eq (x : Int) : callP ML0 1000 (.call 127 [.int .u64 x, .int .i64 (.ofNat 4)] (gHeap 12 gl)) [] jK = sp4T x := by kernel_rfl
theorem sp4T_u (x : Int) : isU64 (sp4T x) = true := rfl
def sp8T (x : Int) : Option AV := some (.int .u64 (wrapR .u64 (orI .u64 (wrapR .u64 (orI .u64 (wrapR .u64 (orI .u64 x (wrapR .u64 (shlI x 8)))) (wrapR .u64 (shlI (wrapR .u64 (orI .u64 x (wrapR .u64 (shlI x 8)))) 16)))) (wrapR .u64 (shlI (wrapR .u64 (orI .u64 (wrapR .u64 (orI .u64 x (wrapR .u64 (shlI x 8)))) (wrapR .u64 (shlI (wrapR .u64 (orI .u64 x (wrapR .u64 (shlI x 8)))) 16)))) 32)))))
theorem sp8T_eq (x : Int) : callP ML0 1000 (.call 127 [.int .u64 x, .int .i64 (.ofNat 8)] (gHeap 12 gl)) [] jK = sp8T x := by kernel_rfl
theorem sp8T_u (x : Int) : isU64 (sp8T x) = true := rfl
def sp16T (x : Int) : Option AV := some (.int .u64 (wrapR .u64 (orI .u64 (wrapR .u64 (orI .u64 x (wrapR .u64 (shlI x 16)))) (wrapR .u64 (shlI (wrapR .u64 (orI .u64 x (wrapR .u64 (shlI x 16)))) 32)))))
theorem sp16T_eq (x : Int) : callP ML0 1000 (.call 127 [.int .u64 x, .int .i64 (.ofNat 16)] (gHeap 12 gl)) [] jK = sp16T x := by kernel_rfl
theorem sp16T_u (x : Int) : isU64 (sp16T x) = true := rfl
def sp32T (x : Int) : Option AV := some (.int .u64 (wrapR .u64 (orI .u64 x (wrapR .u64 (shlI x 32)))))
theorem sp32T_eq (x : Int) : callP ML0 1000 (.call 127 [.int .u64 x, .int .i64 (.ofNat 32)] (gHeap 12 gl)) [] jK = sp32T x := by kernel_rfl
theorem sp32T_u (x : Int) : isU64 (sp32T x) = true := rfl
def sp64T (x : Int) : Option AV := some (.int .u64 x)
theorem sp64T_eq (x : Int) : callP ML0 1000 (.call 127 [.int .u64 x, .int .i64 (.ofNat 64)] (gHeap 12 gl)) [] jK = sp64T x := by kernel_rfl
theorem sp64T_u (x : Int) : isU64 (sp64T x) = true := rfl
def spT (x : Int) (e : Nat) : Option AV := bif Nat.beq e 2 then sp2T x else bif Nat.beq e 4 then sp4T x else bif Nat.beq e 8 then sp8T x else bif Nat.beq e 16 then sp16T x else bif Nat.beq e 32 then sp32T x else bif Nat.beq e 64 then sp64T x else none
def spV (x : Int) (e : Nat) : Int := intV ((spT x e).getD .nilp)
theorem sp_run {x : Int} {e : Nat} (hg : (Nat.beq e 2 || Nat.beq e 4 || Nat.beq e 8 || Nat.beq e 16 || Nat.beq e 32 || Nat.beq e 64) = true) : callP ML0 1000 (.call 127 [.int .u64 x, .int .i64 (.ofNat e)] (gHeap 12 gl)) [] jK = some (.int .u64 (spV x e)) := by
  simp only [Bool.or_eq_true, Nat.beq_eq, or_assoc] at hg
  rcases hg with rfl | rfl | rfl | rfl | rfl | rfl
  · exact (sp2T_eq x).trans (u64_val (sp2T_u x))
  · exact (sp4T_eq x).trans (u64_val (sp4T_u x))
  · exact (sp8T_eq x).trans (u64_val (sp8T_u x))
  · exact (sp16T_eq x).trans (u64_val (sp16T_u x))
  · exact (sp32T_eq x).trans (u64_val (sp32T_u x))
  · exact (sp64T_eq x).trans (u64_val (sp64T_u x))
def spF : List AV → Option AV
  | [.int .u64 x, .int .i64 (.ofNat e)] => bif (Nat.beq e 2 || Nat.beq e 4 || Nat.beq e 8 || Nat.beq e 16 || Nat.beq e 32 || Nat.beq e 64) then some (.int .u64 (spV x e)) else none
  | _ => none
def MF1 : Nat → List AV → Option AV := fun f args => bif Nat.beq f 127 then spF args else none
theorem mf1_ok (f : Nat) (args : List AV) (v : AV) (h : MF1 f args = some v) : ∃ (E : Env) (n : Nat) (s : Smk AV), SmkOk E s ∧ (∀ w, GlobOk gl w → EnvOk E Tryz.prog (Kept gl w)) ∧ (gl.all fun x => Nat.blt x.1 E.ng) = true ∧ (E.fn f).isSome = true ∧ (∀ a ∈ args, Plain a) ∧ ∃ o, callPS E s noPin n (.call f args (gHeap E.ng gl)) o jK = some v := by
  unfold MF1 at h
  simp only [Bool.cond_eq_ite, Nat.beq_eq] at h
  split at h
  · rename_i e
    subst e
    unfold spF at h
    split at h
    · rw [Bool.cond_eq_ite] at h
      split at h
      · rename_i hg
        simp only [Option.some.injEq] at h
        subst h
        exact ⟨ML0, 1000, _, smC_ok _, ml0_ok, gl_ok, by kernel_rfl, plain_list rfl, ⟨[], sp_run hg⟩⟩
      · cases h
    · cases h
  · cases h
def ML1 : Env := envOf Tryz.prog 12 [129, 128, 127] (orSm (extSm kinds) (orSm (plainSm MF0) (plainSm MF1)))
theorem ml1_ok (w : World) (hw : GlobOk gl w) : EnvOk ML1 Tryz.prog (Kept gl w) := envOk_sm (by kernel_rfl) ((smOk_ext ext_ok).or ((plain_okS mf0_ok).or (plain_okS mf1_ok))) mixed_ok (fun _ _ _ h => h.1) (kept_carried hw).ext
end
end Go.Proofs.YtlclahpapabkdaaGreatDoor
