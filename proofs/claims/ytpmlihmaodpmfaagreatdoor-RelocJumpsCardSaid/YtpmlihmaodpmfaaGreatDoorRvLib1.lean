/- Package riscv: what an instruction is refused for, its word, what a word is read as. -/
import Derived.Test.YtpmlihmaodpmfaaGreatDoorRvLib0
import Derived.KernelRfl
namespace Go.Proofs.YtpmlihmaodpmfaaGreatDoor
open Go Go.Vai
noncomputable section
set_option maxRecDepth 100000
def byNe (x : Option AV) : Bool := !(ieq (intV (at_ [2] (x.getD .nilp))) (.ofNat 0))
theorem rvBy_ne (fm : Int) : ieq (rvBy fm) (.ofNat 0) = false := by
  have h : byNe (rvBndT fm) = true := by
    unfold rvBndT
    repeat (first | rfl | apply bc_sh)
  unfold rvBy
  simpa [byNe] using h
def rvFaultyT (_rn : List UInt8) (fm : Int) (_rw : Int) (_nm : List UInt8) (a : Int) (b : Int) (c : Int) (d : Int) (im : Int) : Option AV := bc (!(rvRegB a (rvUA fm))) (some (.int .i64 (.ofNat 13))) (bc (!(rvRegB b (rvUB fm))) (some (.int .i64 (.ofNat 13))) (bc (!(rvRegB c (rvUC fm))) (some (.int .i64 (.ofNat 13))) (bc (!(ieq d (.ofNat 0))) (some (.int .i64 (.ofNat 13))) (bc (ieq (rvLo fm) (rvHi fm)) (bc (!(ieq im (.ofNat 0))) (some (.int .i64 (.ofNat 13))) (bc (ilt im (rvLo fm)) (some (.int .i64 (.ofNat 3))) (bc (ilt (rvHi fm) im) (some (.int .i64 (.ofNat 3))) (bc (ieq (rvBy fm) (.ofNat 0)) (none) (bc (!(ieq (Int.tmod im (rvBy fm)) (.ofNat 0))) (some (.int .i64 (.ofNat 10))) (some (.int .i64 (.ofNat 0)))))))) (bc (ilt im (rvLo fm)) (some (.int .i64 (.ofNat 3))) (bc (ilt (rvHi fm) im) (some (.int .i64 (.ofNat 3))) (bc (ieq (rvBy fm) (.ofNat 0)) (none) (bc (!(ieq (Int.tmod im (rvBy fm)) (.ofNat 0))) (some (.int .i64 (.ofNat 10))) (some (.int .i64 (.ofNat 0)))))))))))
theorem rvFaultyT_eq (rn : List UInt8) (fm : Int) (rw : Int) (nm : List UInt8) (a : Int) (b : Int) (c : Int) (d : Int) (im : Int) : callP EL0 1000 (.call 105 [.agg [.str rn, .int .i64 fm, .int .u32 rw], .agg [.str nm, .int .i64 a, .int .i64 b, .int .i64 c, .int .i64 d, .int .i64 im]] (gHeap 12 gl)) [] jK = rvFaultyT rn fm rw nm a b c d im := by kernel_rfl
def rvFault (rn : List UInt8) (fm : Int) (rw : Int) (nm : List UInt8) (a : Int) (b : Int) (c : Int) (d : Int) (im : Int) : Int := intV (at_ [] ((rvFaultyT rn fm rw nm a b c d im).getD .nilp))
def rvFaultyS : Option AV → Bool
  | some (.int .i64 _) => true
  | _ => false
theorem rvFaultyT_val (rn : List UInt8) (fm : Int) (rw : Int) (nm : List UInt8) (a : Int) (b : Int) (c : Int) (d : Int) (im : Int) : rvFaultyT rn fm rw nm a b c d im = some (.int .i64 (rvFault rn fm rw nm a b c d im)) := by
  have h : rvFaultyS (rvFaultyT rn fm rw nm a b c d im) = true := by
    unfold rvFaultyT
    simp only [rvBy_ne, bc_false]
    repeat (first | rfl | apply bc_sh)
  unfold rvFault
  generalize rvFaultyT rn fm rw nm a b c d im = x at h ⊢
  unfold rvFaultyS at h
  split at h
  · rfl
  · cases h
def rvWordT (_rn : List UInt8) (fm : Int) (rw : Int) (_nm : List UInt8) (a : Int) (b : Int) (c : Int) (_d : Int) (im : Int) : Option AV := bc (AV.eqb (.int .u32 (wrapR .u32 (orI .u32 (wrapR .u32 (orI .u32 (wrapR .u32 (orI .u32 rw (wrapR .u32 (shlI (wrapR .u32 a) 7)))) (wrapR .u32 (shlI (wrapR .u32 b) 15)))) (wrapR .u32 (shlI (wrapR .u32 c) 20))))) (.int .u32 (wrapR .u32 (orI .u32 (wrapR .u32 (orI .u32 (wrapR .u32 (orI .u32 rw (wrapR .u32 (shlI (wrapR .u32 a) 7)))) (wrapR .u32 (shlI (wrapR .u32 b) 15)))) (wrapR .u32 (shlI (wrapR .u32 c) 20)))))) (bc (AV.eqb (.int .u32 (wrapR .u32 (shlI (wrapR .u32 c) 20))) (.int .u32 (wrapR .u32 (shlI (wrapR .u32 c) 20)))) (bc (AV.eqb (.int .u32 (wrapR .u32 c)) (.int .u32 (wrapR .u32 c))) (bc (AV.eqb (.int .i64 c) (.int .i64 c)) (bc (AV.eqb (.int .u32 (wrapR .u32 (orI .u32 (wrapR .u32 (orI .u32 rw (wrapR .u32 (shlI (wrapR .u32 a) 7)))) (wrapR .u32 (shlI (wrapR .u32 b) 15))))) (.int .u32 (wrapR .u32 (orI .u32 (wrapR .u32 (orI .u32 rw (wrapR .u32 (shlI (wrapR .u32 a) 7)))) (wrapR .u32 (shlI (wrapR .u32 b) 15)))))) (bc (AV.eqb (.int .u32 (wrapR .u32 (shlI (wrapR .u32 b) 15))) (.int .u32 (wrapR .u32 (shlI (wrapR .u32 b) 15)))) (bc (AV.eqb (.int .u32 (wrapR .u32 b)) (.int .u32 (wrapR .u32 b))) (bc (AV.eqb (.int .i64 b) (.int .i64 b)) (bc (AV.eqb (.int .u32 (wrapR .u32 (orI .u32 rw (wrapR .u32 (shlI (wrapR .u32 a) 7))))) (.int .u32 (wrapR .u32 (orI .u32 rw (wrapR .u32 (shlI (wrapR .u32 a) 7)))))) (bc (AV.eqb (.int .u32 (wrapR .u32 (shlI (wrapR .u32 a) 7))) (.int .u32 (wrapR .u32 (shlI (wrapR .u32 a) 7)))) (bc (AV.eqb (.int .u32 (wrapR .u32 a)) (.int .u32 (wrapR .u32 a))) (bc (AV.eqb (.int .i64 a) (.int .i64 a)) (bc (AV.eqb (.int .u32 rw) (.int .u32 rw)) (some (.int .u32 (wrapR .u32 (orI .u32 (wrapR .u32 (orI .u32 (wrapR .u32 (orI .u32 (wrapR .u32 (orI .u32 rw (wrapR .u32 (shlI (wrapR .u32 a) 7)))) (wrapR .u32 (shlI (wrapR .u32 b) 15)))) (wrapR .u32 (shlI (wrapR .u32 c) 20)))) (rvImmE fm im))))) (none)) (none)) (none)) (none)) (none)) (none)) (none)) (none)) (none)) (none)) (none)) (none)) (none)
theorem rvWordT_eq (rn : List UInt8) (fm : Int) (rw : Int) (nm : List UInt8) (a : Int) (b : Int) (c : Int) (d : Int) (im : Int) : callP EL0 1000 (.call 106 [.agg [.str rn, .int .i64 fm, .int .u32 rw], .agg [.str nm, .int .i64 a, .int .i64 b, .int .i64 c, .int .i64 d, .int .i64 im]] (gHeap 12 gl)) [] jK = rvWordT rn fm rw nm a b c d im := by kernel_rfl
def rvWordE (rn : List UInt8) (fm : Int) (rw : Int) (nm : List UInt8) (a : Int) (b : Int) (c : Int) (d : Int) (im : Int) : Int := intV (at_ [] ((rvWordT rn fm rw nm a b c d im).getD .nilp))
def rvWordS : Option AV → Bool
  | some (.int .u32 _) => true
  | _ => false
theorem rvWordT_val (rn : List UInt8) (fm : Int) (rw : Int) (nm : List UInt8) (a : Int) (b : Int) (c : Int) (d : Int) (im : Int) : rvWordT rn fm rw nm a b c d im = some (.int .u32 (rvWordE rn fm rw nm a b c d im)) := by
  have h : rvWordS (rvWordT rn fm rw nm a b c d im) = true := by
    unfold rvWordT
    simp only [eqb_int, eqb_str, eqb_agg, bc_true]
    repeat (first | rfl | apply bc_sh)
  unfold rvWordE
  generalize rvWordT rn fm rw nm a b c d im = x at h ⊢
  unfold rvWordS at h
  split at h
  · rfl
  · cases h
def rvReadT (rn : List UInt8) (fm : Int) (_rw : Int) (w : Int) : Option AV := bc (AV.eqb (.str rn) (.str rn)) (bc (AV.eqb (.agg [.str rn, .int .i64 (.ofNat 0), .int .i64 (.ofNat 0), .int .i64 (.ofNat 0), .int .i64 (.ofNat 0), .int .i64 (rvNumE fm w)]) (.agg [.str rn, .int .i64 (.ofNat 0), .int .i64 (.ofNat 0), .int .i64 (.ofNat 0), .int .i64 (.ofNat 0), .int .i64 (rvNumE fm w)])) (bc (AV.eqb (.int .u32 w) (.int .u32 w)) (bc (AV.eqb (.int .i64 fm) (.int .i64 fm)) (bc (AV.eqb (.str rn) (.str rn)) (bc (rvUA fm) (bc (rvUB fm) (bc (rvUC fm) (some (.agg [.str rn, .int .i64 (wrapR .i64 (wrapR .u32 (andI .u32 (shrI w 7) (.ofNat 31)))), .int .i64 (wrapR .i64 (wrapR .u32 (andI .u32 (shrI w 15) (.ofNat 31)))), .int .i64 (wrapR .i64 (wrapR .u32 (andI .u32 (shrI w 20) (.ofNat 31)))), .int .i64 (.ofNat 0), .int .i64 (rvNumE fm w)])) (some (.agg [.str rn, .int .i64 (wrapR .i64 (wrapR .u32 (andI .u32 (shrI w 7) (.ofNat 31)))), .int .i64 (wrapR .i64 (wrapR .u32 (andI .u32 (shrI w 15) (.ofNat 31)))), .int .i64 (.ofNat 0), .int .i64 (.ofNat 0), .int .i64 (rvNumE fm w)]))) (bc (rvUC fm) (some (.agg [.str rn, .int .i64 (wrapR .i64 (wrapR .u32 (andI .u32 (shrI w 7) (.ofNat 31)))), .int .i64 (.ofNat 0), .int .i64 (wrapR .i64 (wrapR .u32 (andI .u32 (shrI w 20) (.ofNat 31)))), .int .i64 (.ofNat 0), .int .i64 (rvNumE fm w)])) (some (.agg [.str rn, .int .i64 (wrapR .i64 (wrapR .u32 (andI .u32 (shrI w 7) (.ofNat 31)))), .int .i64 (.ofNat 0), .int .i64 (.ofNat 0), .int .i64 (.ofNat 0), .int .i64 (rvNumE fm w)])))) (bc (rvUB fm) (bc (rvUC fm) (some (.agg [.str rn, .int .i64 (.ofNat 0), .int .i64 (wrapR .i64 (wrapR .u32 (andI .u32 (shrI w 15) (.ofNat 31)))), .int .i64 (wrapR .i64 (wrapR .u32 (andI .u32 (shrI w 20) (.ofNat 31)))), .int .i64 (.ofNat 0), .int .i64 (rvNumE fm w)])) (some (.agg [.str rn, .int .i64 (.ofNat 0), .int .i64 (wrapR .i64 (wrapR .u32 (andI .u32 (shrI w 15) (.ofNat 31)))), .int .i64 (.ofNat 0), .int .i64 (.ofNat 0), .int .i64 (rvNumE fm w)]))) (bc (rvUC fm) (some (.agg [.str rn, .int .i64 (.ofNat 0), .int .i64 (.ofNat 0), .int .i64 (wrapR .i64 (wrapR .u32 (andI .u32 (shrI w 20) (.ofNat 31)))), .int .i64 (.ofNat 0), .int .i64 (rvNumE fm w)])) (some (.agg [.str rn, .int .i64 (.ofNat 0), .int .i64 (.ofNat 0), .int .i64 (.ofNat 0), .int .i64 (.ofNat 0), .int .i64 (rvNumE fm w)]))))) (none)) (none)) (none)) (none)) (none)
theorem rvReadT_eq (rn : List UInt8) (fm : Int) (rw : Int) (w : Int) : callP EL0 1000 (.call 111 [.agg [.str rn, .int .i64 fm, .int .u32 rw], .int .u32 w] (gHeap 12 gl)) [] jK = rvReadT rn fm rw w := by kernel_rfl
def rvRN (rn : List UInt8) (fm : Int) (rw : Int) (w : Int) : List UInt8 := strV (at_ [0] ((rvReadT rn fm rw w).getD .nilp))
def rvRA (rn : List UInt8) (fm : Int) (rw : Int) (w : Int) : Int := intV (at_ [1] ((rvReadT rn fm rw w).getD .nilp))
def rvRB (rn : List UInt8) (fm : Int) (rw : Int) (w : Int) : Int := intV (at_ [2] ((rvReadT rn fm rw w).getD .nilp))
def rvRC (rn : List UInt8) (fm : Int) (rw : Int) (w : Int) : Int := intV (at_ [3] ((rvReadT rn fm rw w).getD .nilp))
def rvRD (rn : List UInt8) (fm : Int) (rw : Int) (w : Int) : Int := intV (at_ [4] ((rvReadT rn fm rw w).getD .nilp))
def rvRI (rn : List UInt8) (fm : Int) (rw : Int) (w : Int) : Int := intV (at_ [5] ((rvReadT rn fm rw w).getD .nilp))
def rvReadS : Option AV → Bool
  | some (.agg [.str _, .int .i64 _, .int .i64 _, .int .i64 _, .int .i64 _, .int .i64 _]) => true
  | _ => false
theorem rvReadT_val (rn : List UInt8) (fm : Int) (rw : Int) (w : Int) : rvReadT rn fm rw w = some (.agg [.str (rvRN rn fm rw w), .int .i64 (rvRA rn fm rw w), .int .i64 (rvRB rn fm rw w), .int .i64 (rvRC rn fm rw w), .int .i64 (rvRD rn fm rw w), .int .i64 (rvRI rn fm rw w)]) := by
  have h : rvReadS (rvReadT rn fm rw w) = true := by
    unfold rvReadT
    simp only [eqb_int, eqb_str, eqb_agg, bc_true]
    repeat (first | rfl | apply bc_sh)
  unfold rvRN rvRA rvRB rvRC rvRD rvRI
  generalize rvReadT rn fm rw w = x at h ⊢
  unfold rvReadS at h
  split at h
  · rfl
  · cases h
def rvReadF : List AV → Option AV
  | [.agg [.str rn, .int .i64 fm, .int .u32 rw], .int .u32 w] => some (.agg [.str (rvRN rn fm rw w), .int .i64 (rvRA rn fm rw w), .int .i64 (rvRB rn fm rw w), .int .i64 (rvRC rn fm rw w), .int .i64 (rvRD rn fm rw w), .int .i64 (rvRI rn fm rw w)])
  | _ => none
def rvWordF : List AV → Option AV
  | [.agg [.str rn, .int .i64 fm, .int .u32 rw], .agg [.str nm, .int .i64 a, .int .i64 b, .int .i64 c, .int .i64 d, .int .i64 im]] => some (.int .u32 (rvWordE rn fm rw nm a b c d im))
  | _ => none
def rvFaultyF : List AV → Option AV
  | [.agg [.str rn, .int .i64 fm, .int .u32 rw], .agg [.str nm, .int .i64 a, .int .i64 b, .int .i64 c, .int .i64 d, .int .i64 im]] => some (.int .i64 (rvFault rn fm rw nm a b c d im))
  | _ => none
def FT1 : Nat → List AV → Option AV := fun f args => bif Nat.beq f 105 then rvFaultyF args else bif Nat.beq f 106 then rvWordF args else bif Nat.beq f 111 then rvReadF args else none
theorem ft1_ok (f : Nat) (args : List AV) (v : AV) (h : FT1 f args = some v) : ∃ (E : Env) (n : Nat), (∀ w, GlobOk gl w → EnvOk E Tryz.prog (Kept gl w)) ∧ (gl.all fun x => Nat.blt x.1 E.ng) = true ∧ (E.fn f).isSome = true ∧ (∀ a ∈ args, Plain a) ∧ ∃ o, callP E n (.call f args (gHeap E.ng gl)) o jK = some v := by
  unfold FT1 at h
  simp only [Bool.cond_eq_ite, Nat.beq_eq] at h
  split at h
  · rename_i e
    subst e
    unfold rvFaultyF at h
    split at h
    · simp only [Option.some.injEq] at h
      subst h
      exact ⟨EL0, 1000, el0_ok, gl_ok, by kernel_rfl, plain_list rfl, [], (rvFaultyT_eq ..).trans (rvFaultyT_val ..)⟩
    · cases h
  split at h
  · rename_i e
    subst e
    unfold rvWordF at h
    split at h
    · simp only [Option.some.injEq] at h
      subst h
      exact ⟨EL0, 1000, el0_ok, gl_ok, by kernel_rfl, plain_list rfl, [], (rvWordT_eq ..).trans (rvWordT_val ..)⟩
    · cases h
  split at h
  · rename_i e
    subst e
    unfold rvReadF at h
    split at h
    · simp only [Option.some.injEq] at h
      subst h
      exact ⟨EL0, 1000, el0_ok, gl_ok, by kernel_rfl, plain_list rfl, [], (rvReadT_eq ..).trans (rvReadT_val ..)⟩
    · cases h
  · cases h
end
end Go.Proofs.YtpmlihmaodpmfaaGreatDoor
