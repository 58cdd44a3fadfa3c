/- Package arm's fields: what they compute. -/
import Derived.Test.YtpmlihmaodpmfaaGreatDoorMask3
import Derived.KernelRfl
namespace Go.Proofs.YtpmlihmaodpmfaaGreatDoor
open Go Go.Vai
noncomputable section
set_option maxRecDepth 100000
def okNum (t b k y : Int) : Bool := !(ieq k (.ofNat 1)) || (!(ilt t (.ofNat 0)) && (!(ilt b (.ofNat 0)) && (!(ilt (wrapR .i64 (Int.sub (.ofNat 32) (wrapR .i64 b))) (.ofNat 0)) && !(ieq (wrapR .i64 y) (.ofNat 0)))))
theorem okNum_iff {t b k y : Int} (h : okNum t b k y = true) : ieq k (.ofNat 1) = false ∨ (ilt t (.ofNat 0) = false ∧ ilt b (.ofNat 0) = false ∧ ilt (wrapR .i64 (Int.sub (.ofNat 32) (wrapR .i64 b))) (.ofNat 0) = false ∧ ieq (wrapR .i64 y) (.ofNat 0) = false) := by
  unfold okNum at h
  simpa using h
def arSmallT (_ft : Int) (_fb : Int) (_fk : Int) (_fy : Int) (fl : Int) (fh : Int) (n : Int) : Option AV := bc (!(ilt n (wrapR .i64 fl))) (some (.bool (!(ilt (wrapR .i64 fh) n)))) (some (.bool false))
theorem arSmallT_eq (ft : Int) (fb : Int) (fk : Int) (fy : Int) (fl : Int) (fh : Int) (n : Int) : callP ML3 1000 (.call 93 [.agg [.int .i8 ft, .int .i8 fb, .int .i8 fk, .int .i8 fy, .int .i32 fl, .int .i32 fh], .int .i64 n] (gHeap 12 gl)) [] jK = arSmallT ft fb fk fy fl fh n := by kernel_rfl
def arSmallB (ft : Int) (fb : Int) (fk : Int) (fy : Int) (fl : Int) (fh : Int) (n : Int) : Bool := bolV (at_ [] ((arSmallT ft fb fk fy fl fh n).getD .nilp))
def arSmallS : Option AV → Bool
  | some (.bool _) => true
  | _ => false
theorem arSmallT_val (ft : Int) (fb : Int) (fk : Int) (fy : Int) (fl : Int) (fh : Int) (n : Int) : arSmallT ft fb fk fy fl fh n = some (.bool (arSmallB ft fb fk fy fl fh n)) := by
  have h : arSmallS (arSmallT ft fb fk fy fl fh n) = true := by
    unfold arSmallT
    repeat (first | rfl | apply bc_sh)
  unfold arSmallB
  generalize arSmallT ft fb fk fy fl fh n = x at h ⊢
  unfold arSmallS at h
  split at h
  · rfl
  · cases h
def arGetT (ft : Int) (fb : Int) (fk : Int) (fy : Int) (fl : Int) (_fh : Int) (w : Int) : Option AV := bc (ieq fk (.ofNat 1)) (bc (ilt ft (.ofNat 0)) (none) (bc (ilt fb (.ofNat 0)) (none) (bc (ilt fl (.ofNat 0)) (bc (ilt (wrapR .i64 (Int.sub (.ofNat 32) (wrapR .i64 fb))) (.ofNat 0)) (none) (bc (ilt (wrapR .i64 (Int.sub (.ofNat 32) (wrapR .i64 fb))) (.ofNat 0)) (none) (bc (AV.eqb (.int .i8 fy) (.int .i8 fy)) (bc (AV.eqb (.int .i64 (wrapR .i64 fy)) (.int .i64 (wrapR .i64 fy))) (some (.int .i64 (wrapR .i64 (Int.mul (wrapR .i64 (shrI (wrapR .i32 (wrapR .u32 (shlI (wrapR .u32 (andI .u32 (shrI w (Nat.min (Int.toNat ft) 32)) (wrapR .u32 (Int.sub (wrapR .u32 (shlI (.ofNat 1) (Nat.min (Int.toNat fb) 32))) (.ofNat 1))))) (Nat.min (Int.toNat (wrapR .i64 (Int.sub (.ofNat 32) (wrapR .i64 fb)))) 32)))) (Nat.min (Int.toNat (wrapR .i64 (Int.sub (.ofNat 32) (wrapR .i64 fb)))) 32))) (wrapR .i64 fy))))) (none)) (none)))) (some (.int .i64 (wrapR .i64 (Int.mul (wrapR .i64 (wrapR .u32 (andI .u32 (shrI w (Nat.min (Int.toNat ft) 32)) (wrapR .u32 (Int.sub (wrapR .u32 (shlI (.ofNat 1) (Nat.min (Int.toNat fb) 32))) (.ofNat 1)))))) (wrapR .i64 fy)))))))) (bc (ieq fk (.ofNat 2)) (some (.int .i64 (wrapR .i64 (shrI (wrapR .i32 (wrapR .u32 (shlI (wrapR .u32 (orI .u32 (wrapR .u32 (shlI (wrapR .u32 (andI .u32 (shrI w 5) (.ofNat 524287))) 2)) (wrapR .u32 (andI .u32 (shrI w 29) (.ofNat 3))))) 11))) 11)))) (bc (ieq fk (.ofNat 3)) (some (.int .i64 (wrapR .i64 (atV (wrapR .i64 (wrapR .u32 (andI .u32 (shrI w 22) (.ofNat 1)))) (wrapR .i64 (wrapR .u32 (andI .u32 (shrI w 16) (.ofNat 63)))) (wrapR .i64 (wrapR .u32 (andI .u32 (shrI w 10) (.ofNat 63)))))))) (some (.int .i64 (.ofNat 0)))))
theorem arGetT_eq (ft : Int) (fb : Int) (fk : Int) (fy : Int) (fl : Int) (fh : Int) (w : Int) : callP ML3 1000 (.call 54 [.agg [.int .i8 ft, .int .i8 fb, .int .i8 fk, .int .i8 fy, .int .i32 fl, .int .i32 fh], .int .u32 w] (gHeap 12 gl)) [] jK = arGetT ft fb fk fy fl fh w := by kernel_rfl
def arGetV (ft : Int) (fb : Int) (fk : Int) (fy : Int) (fl : Int) (fh : Int) (w : Int) : Int := intV (at_ [] ((arGetT ft fb fk fy fl fh w).getD .nilp))
def arGetS : Option AV → Bool
  | some (.int .i64 _) => true
  | _ => false
theorem arGetT_val (ft : Int) (fb : Int) (fk : Int) (fy : Int) (fl : Int) (fh : Int) (w : Int) (hg : okNum ft fb fk fy = true) : arGetT ft fb fk fy fl fh w = some (.int .i64 (arGetV ft fb fk fy fl fh w)) := by
  have h : arGetS (arGetT ft fb fk fy fl fh w) = true := by
    unfold arGetT
    rcases okNum_iff hg with g1 | ⟨g2, g3, g4, g5⟩
    · simp only [g1, bc_false]
      repeat (first | rfl | apply bc_sh)
    · simp only [g2, g3, g4, bc_false, bc_true, eqb_int]
      repeat (first | rfl | apply bc_sh)
  unfold arGetV
  generalize arGetT ft fb fk fy fl fh w = x at h ⊢
  unfold arGetS at h
  split at h
  · rfl
  · cases h
def arPutT (ft : Int) (fb : Int) (fk : Int) (fy : Int) (_fl : Int) (_fh : Int) (n : Int) : Option AV := bc (ieq fk (.ofNat 1)) (bc (ieq (wrapR .i64 fy) (.ofNat 0)) (none) (bc (ilt fb (.ofNat 0)) (none) (bc (ilt ft (.ofNat 0)) (none) (some (.int .u32 (wrapR .u32 (shlI (wrapR .u32 (andI .u32 (wrapR .u32 (wrapR .i64 (Int.tdiv n (wrapR .i64 fy)))) (wrapR .u32 (Int.sub (wrapR .u32 (shlI (.ofNat 1) (Nat.min (Int.toNat fb) 32))) (.ofNat 1))))) (Nat.min (Int.toNat ft) 32)))))))) (bc (ieq fk (.ofNat 2)) (some (.int .u32 (wrapR .u32 (orI .u32 (wrapR .u32 (shlI (wrapR .u32 (andI .u32 (wrapR .u32 n) (.ofNat 3))) 29)) (wrapR .u32 (shlI (wrapR .u32 (andI .u32 (wrapR .u32 (shrI n 2)) (.ofNat 524287))) 5)))))) (bc (ieq fk (.ofNat 3)) (some (.int .u32 (wrapR .u32 (orI .u32 (wrapR .u32 (orI .u32 (wrapR .u32 (shlI (wrapR .u32 (ofN (wrapR .u64 n))) 22)) (wrapR .u32 (shlI (wrapR .u32 (ofR (wrapR .u64 n))) 16)))) (wrapR .u32 (shlI (wrapR .u32 (ofS (wrapR .u64 n))) 10)))))) (some (.int .u32 (.ofNat 0)))))
theorem arPutT_eq (ft : Int) (fb : Int) (fk : Int) (fy : Int) (fl : Int) (fh : Int) (n : Int) : callP ML3 1000 (.call 95 [.agg [.int .i8 ft, .int .i8 fb, .int .i8 fk, .int .i8 fy, .int .i32 fl, .int .i32 fh], .int .i64 n] (gHeap 12 gl)) [] jK = arPutT ft fb fk fy fl fh n := by kernel_rfl
def arPutV (ft : Int) (fb : Int) (fk : Int) (fy : Int) (fl : Int) (fh : Int) (n : Int) : Int := intV (at_ [] ((arPutT ft fb fk fy fl fh n).getD .nilp))
def arPutS : Option AV → Bool
  | some (.int .u32 _) => true
  | _ => false
theorem arPutT_val (ft : Int) (fb : Int) (fk : Int) (fy : Int) (fl : Int) (fh : Int) (n : Int) (hg : okNum ft fb fk fy = true) : arPutT ft fb fk fy fl fh n = some (.int .u32 (arPutV ft fb fk fy fl fh n)) := by
  have h : arPutS (arPutT ft fb fk fy fl fh n) = true := by
    unfold arPutT
    rcases okNum_iff hg with g1 | ⟨g2, g3, g4, g5⟩
    · simp only [g1, bc_false]
      repeat (first | rfl | apply bc_sh)
    · simp only [g2, g3, g5, bc_false]
      repeat (first | rfl | apply bc_sh)
  unfold arPutV
  generalize arPutT ft fb fk fy fl fh n = x at h ⊢
  unfold arPutS at h
  split at h
  · rfl
  · cases h
def arPutF : List AV → Option AV
  | [.agg [.int .i8 ft, .int .i8 fb, .int .i8 fk, .int .i8 fy, .int .i32 fl, .int .i32 fh], .int .i64 n] => bif okNum ft fb fk fy then some (.int .u32 (arPutV ft fb fk fy fl fh n)) else none
  | _ => none
def arGetF : List AV → Option AV
  | [.agg [.int .i8 ft, .int .i8 fb, .int .i8 fk, .int .i8 fy, .int .i32 fl, .int .i32 fh], .int .u32 w] => bif okNum ft fb fk fy then some (.int .i64 (arGetV ft fb fk fy fl fh w)) else none
  | _ => none
def arSmallF : List AV → Option AV
  | [.agg [.int .i8 ft, .int .i8 fb, .int .i8 fk, .int .i8 fy, .int .i32 fl, .int .i32 fh], .int .i64 n] => some (.bool (arSmallB ft fb fk fy fl fh n))
  | _ => none
def AF4 : Nat → List AV → Option AV := fun f args => bif Nat.beq f 93 then arSmallF args else bif Nat.beq f 54 then arGetF args else bif Nat.beq f 95 then arPutF args else none
theorem af4_ok (f : Nat) (args : List AV) (v : AV) (h : AF4 f args = some v) : ∃ (E : Env) (n : Nat) (s : Smk AV), SmkOk E s ∧ (∀ w, GlobOk gl w → EnvOk E Tryz.prog (Kept gl w)) ∧ (gl.all fun x => Nat.blt x.1 E.ng) = true ∧ (E.fn f).isSome = true ∧ (∀ a ∈ args, Plain a) ∧ ∃ o, callPS E s noPin n (.call f args (gHeap E.ng gl)) o jK = some v := by
  unfold AF4 at h
  simp only [Bool.cond_eq_ite, Nat.beq_eq] at h
  split at h
  · rename_i e
    subst e
    unfold arSmallF at h
    split at h
    · simp only [Option.some.injEq] at h
      subst h
      exact ⟨ML3, 1000, _, smC_ok _, ml3_ok, gl_ok, by kernel_rfl, plain_list rfl, ⟨[], (arSmallT_eq ..).trans (arSmallT_val ..)⟩⟩
    · cases h
  split at h
  · rename_i e
    subst e
    unfold arGetF at h
    split at h
    · rw [Bool.cond_eq_ite] at h
      split at h
      · rename_i hg
        simp only [Option.some.injEq] at h
        subst h
        exact ⟨ML3, 1000, _, smC_ok _, ml3_ok, gl_ok, by kernel_rfl, plain_list rfl, ⟨[], (arGetT_eq ..).trans (arGetT_val (hg := hg) ..)⟩⟩
      · cases h
    · cases h
  split at h
  · rename_i e
    subst e
    unfold arPutF at h
    split at h
    · rw [Bool.cond_eq_ite] at h
      split at h
      · rename_i hg
        simp only [Option.some.injEq] at h
        subst h
        exact ⟨ML3, 1000, _, smC_ok _, ml3_ok, gl_ok, by kernel_rfl, plain_list rfl, ⟨[], (arPutT_eq ..).trans (arPutT_val (hg := hg) ..)⟩⟩
      · cases h
    · cases h
  · cases h
def AL4 : Env := envOf Tryz.prog 12 [132, 131, 130, 133, 94, 99, 93, 54, 95] (orSm (extSm kinds) (orSm (plainSm MF0) (orSm (plainSm MF1) (orSm (plainSm MF2) (orSm (plainSm MF3) (plainSm AF4))))))
theorem al4_ok (w : World) (hw : GlobOk gl w) : EnvOk AL4 Tryz.prog (Kept gl w) := envOk_sm (by kernel_rfl) ((smOk_ext ext_ok).or ((plain_okS mf0_ok).or ((plain_okS mf1_ok).or ((plain_okS mf2_ok).or ((plain_okS mf3_ok).or (plain_okS af4_ok)))))) mixed_ok (fun _ _ _ h => h.1) (kept_carried hw).ext
def arGetK {α : Type} (args : List AV) (H : AHeap) (k : AV → AHeap → Option α) : Option α := match args with
  | [.agg [.int .i8 ft, .int .i8 fb, .int .i8 fk, .int .i8 fy, .int .i32 fl, .int .i32 fh], .int .u32 w] => bc (okNum ft fb fk fy) (k (.int .i64 (arGetV ft fb fk fy fl fh w)) H) none
  | _ => none
def arPutK {α : Type} (args : List AV) (H : AHeap) (k : AV → AHeap → Option α) : Option α := match args with
  | [.agg [.int .i8 ft, .int .i8 fb, .int .i8 fk, .int .i8 fy, .int .i32 fl, .int .i32 fh], .int .i64 n] => bc (okNum ft fb fk fy) (k (.int .u32 (arPutV ft fb fk fy fl fh n)) H) none
  | _ => none
theorem arGet_smAL4 (ft : Int) (fb : Int) (fk : Int) (fy : Int) (fl : Int) (fh : Int) (w : Int) (H : AHeap) (hg : (okNum ft fb fk fy) = true) : AL4.sm 54 [.agg [.int .i8 ft, .int .i8 fb, .int .i8 fk, .int .i8 fy, .int .i32 fl, .int .i32 fh], .int .u32 w] H = some (.int .i64 (arGetV ft fb fk fy fl fh w), H) := by
  have h : arGetF [.agg [.int .i8 ft, .int .i8 fb, .int .i8 fk, .int .i8 fy, .int .i32 fl, .int .i32 fh], .int .u32 w] = some (.int .i64 (arGetV ft fb fk fy fl fh w)) := by
    show (bif okNum ft fb fk fy then (some (.int .i64 (arGetV ft fb fk fy fl fh w)) : Option AV) else none) = _
    rw [hg]; rfl
  have e : AL4.sm 54 [.agg [.int .i8 ft, .int .i8 fb, .int .i8 fk, .int .i8 fy, .int .i32 fl, .int .i32 fh], .int .u32 w] H = Option.rec (motive := fun _ => Option (AV × AHeap)) none (fun v => some (v, H)) (arGetF [.agg [.int .i8 ft, .int .i8 fb, .int .i8 fk, .int .i8 fy, .int .i32 fl, .int .i32 fh], .int .u32 w]) := by kernel_rfl
  rw [e, h]
theorem arPut_smAL4 (ft : Int) (fb : Int) (fk : Int) (fy : Int) (fl : Int) (fh : Int) (n : Int) (H : AHeap) (hg : (okNum ft fb fk fy) = true) : AL4.sm 95 [.agg [.int .i8 ft, .int .i8 fb, .int .i8 fk, .int .i8 fy, .int .i32 fl, .int .i32 fh], .int .i64 n] H = some (.int .u32 (arPutV ft fb fk fy fl fh n), H) := by
  have h : arPutF [.agg [.int .i8 ft, .int .i8 fb, .int .i8 fk, .int .i8 fy, .int .i32 fl, .int .i32 fh], .int .i64 n] = some (.int .u32 (arPutV ft fb fk fy fl fh n)) := by
    show (bif okNum ft fb fk fy then (some (.int .u32 (arPutV ft fb fk fy fl fh n)) : Option AV) else none) = _
    rw [hg]; rfl
  have e : AL4.sm 95 [.agg [.int .i8 ft, .int .i8 fb, .int .i8 fk, .int .i8 fy, .int .i32 fl, .int .i32 fh], .int .i64 n] H = Option.rec (motive := fun _ => Option (AV × AHeap)) none (fun v => some (v, H)) (arPutF [.agg [.int .i8 ft, .int .i8 fb, .int .i8 fk, .int .i8 fy, .int .i32 fl, .int .i32 fh], .int .i64 n]) := by kernel_rfl
  rw [e, h]
def SKAL4 {α : Type} : Smk α := fun f args H k => bif Nat.beq f 54 then arGetK args H k else (bif Nat.beq f 95 then arPutK args H k else (smC AL4 f args H k))
theorem skAL4_ok {α : Type} : SmkOk (α := α) AL4 SKAL4 := by
  intro f args H k r h
  unfold SKAL4 at h
  simp only [Bool.cond_eq_ite, Nat.beq_eq] at h
  split at h
  · rename_i e
    subst e
    unfold arGetK at h
    split at h
    · rename_i ft fb fk fy fl fh w
      cases hg : (okNum ft fb fk fy) with
      | false => rw [hg] at h; cases h
      | true =>
        rw [hg] at h
        exact ⟨_, _, arGet_smAL4 (H := H) (hg := hg) .., h⟩
    · cases h
  split at h
  · rename_i e
    subst e
    unfold arPutK at h
    split at h
    · rename_i ft fb fk fy fl fh n
      cases hg : (okNum ft fb fk fy) with
      | false => rw [hg] at h; cases h
      | true =>
        rw [hg] at h
        exact ⟨_, _, arPut_smAL4 (H := H) (hg := hg) .., h⟩
    · cases h
  exact smC_ok _ _ _ _ _ _ h
end
end Go.Proofs.YtpmlihmaodpmfaaGreatDoor
