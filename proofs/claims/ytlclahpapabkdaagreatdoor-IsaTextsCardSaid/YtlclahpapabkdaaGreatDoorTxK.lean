/- Encode of any name: what Encode answers; unknown names, other targets. -/
import Derived.Test.YtlclahpapabkdaaGreatDoorTxT
import Derived.Test.YtlclahpapabkdaaGreatDoorTxE
import Derived.KernelRfl
namespace Go.Proofs.YtlclahpapabkdaaGreatDoor
open Go Go.Vai
noncomputable section
set_option maxRecDepth 100000
def Ans9 (t : Int) (nm : List UInt8) (A B C D I : Int) (e : Int) : Prop := ∃ (E : Env) (n : Nat) (s : Smk AV) (pn : Pin), SmkOk E s ∧ (∀ w, GlobOk gl w → EnvOk E Tryz.prog (Kept gl w)) ∧ (gl.all fun x => Nat.blt x.1 E.ng) = true ∧ (E.fn 9).isSome = true ∧ ∃ o, callPS E s pn n (.call 9 [.int .i64 t, insV nm A B C D I] (gHeap E.ng gl)) o jO = some (.tup [.opq none, .int .i64 e])
theorem e3_fn : (E3.fn 9).isSome = true := by kernel_rfl
theorem e3e_fn : (E3e.fn 9).isSome = true := by kernel_rfl
theorem ans3 {t : Int} {nm : List UInt8} {A B C D I e : Int} {g : Option AV} {o : Orc} (h : callP E3 100000 (.call 9 [.int .i64 t, insV nm A B C D I] (gHeap 12 gl)) o jO = g) (hv : g = some (.tup [.opq none, .int .i64 e])) : Ans9 t nm A B C D I e := ⟨E3, 100000, _, noPin, smC_ok E3, e3_ok, gl_ok, e3_fn, o, h.trans hv⟩
theorem ans3e {t : Int} {nm : List UInt8} {A B C D I e : Int} {g : Option AV} {o : Orc} (h : callP E3e 100000 (.call 9 [.int .i64 t, insV nm A B C D I] (gHeap 12 gl)) o jO = g) (hv : g = some (.tup [.opq none, .int .i64 e])) : Ans9 t nm A B C D I e := ⟨E3e, 100000, _, noPin, smC_ok E3e, e3e_ok, gl_ok, e3e_fn, o, h.trans hv⟩
theorem ieq_t {a b : Int} (h : ieq a b = true) : a = b := by rw [ieq_iff, decide_eq_true_iff] at h; exact h
theorem mem_ans {nm : List UInt8} {f0 f1 : Int → Int → Int → Int → Option AV} {e0 e1 : Int → Int → Int → Int → Int}
    (r0 : ∀ A B C I, go9 1 nm A B C (.ofNat 0) I = f0 A B C I) (v0 : ∀ A B C I, f0 A B C I = some (.tup [.opq none, .int .i64 (e0 A B C I)]))
    (r1 : ∀ A B C I, go9 1 nm A B C (.ofNat 1) I = f1 A B C I) (r2 : ∀ A B C I, go9 1 nm A B C (.ofNat 2) I = f1 A B C I)
    (r4 : ∀ A B C I, go9 1 nm A B C (.ofNat 4) I = f1 A B C I) (r8 : ∀ A B C I, go9 1 nm A B C (.ofNat 8) I = f1 A B C I) (v1 : ∀ A B C I, f1 A B C I = some (.tup [.opq none, .int .i64 (e1 A B C I)]))
    (rE : ∀ A B C D I, go9e 1 nm A B C D I = efE A B C D I) (A B C D I : Int) :
    Ans9 (.ofNat 1) nm A B C D I (bc (ieq D (.ofNat 0)) (e0 A B C I) (bc (ieq D (.ofNat 1)) (e1 A B C I) (bc (ieq D (.ofNat 2)) (e1 A B C I) (bc (ieq D (.ofNat 4)) (e1 A B C I) (bc (ieq D (.ofNat 8)) (e1 A B C I) (.ofNat 13)))))) := by
  cases h0 : ieq D (.ofNat 0) with
  | true => rw [bc_true]; have := ieq_t h0; subst this; exact ans3 (r0 ..) (v0 ..)
  | false =>
  rw [bc_false]
  cases h1 : ieq D (.ofNat 1) with
  | true => rw [bc_true]; have := ieq_t h1; subst this; exact ans3 (r1 ..) (v1 ..)
  | false =>
  rw [bc_false]
  cases h2 : ieq D (.ofNat 2) with
  | true => rw [bc_true]; have := ieq_t h2; subst this; exact ans3 (r2 ..) (v1 ..)
  | false =>
  rw [bc_false]
  cases h4 : ieq D (.ofNat 4) with
  | true => rw [bc_true]; have := ieq_t h4; subst this; exact ans3 (r4 ..) (v1 ..)
  | false =>
  rw [bc_false]
  cases h8 : ieq D (.ofNat 8) with
  | true => rw [bc_true]; have := ieq_t h8; subst this; exact ans3 (r8 ..) (v1 ..)
  | false =>
  rw [bc_false]
  exact ans3e (rE ..) (efE_val _ _ _ _ _ h0 h1 h2 h4 h8)
def notIn (n : List UInt8) : List (List AV) → Bool
  | [] => true
  | (.str m :: _) :: l => !(leq m n) && notIn n l
  | _ :: l => notIn n l
theorem findAll_notIn (z : AV) (n : List UInt8) (l : List (List AV)) : notIn n l = true → findAll z n l = some z := by
  induction l with
  | nil => intro _; rfl
  | cons x l ih =>
    intro h
    cases x with
    | nil => exact ih h
    | cons a r =>
      cases a with
      | str m =>
        have h : (!(leq m n) && notIn n l) = true := h
        rw [Bool.and_eq_true, Bool.not_eq_true'] at h
        show bc (leq m n) _ (findAll z n l) = _
        rw [h.1, bc_false]
        exact ih h.2
      | _ => exact ih h
def notK {α : Type} (z : AV) (rows : List (List AV)) (args : List AV) (H : AHeap) (k : AV → AHeap → Option α) : Option α := match args with
  | [.str n] => bc (notIn n rows) (k z H) none
  | _ => none
def SKN {α : Type} : Smk α := fun f args H k => bif Nat.beq f 47 then notK amZero amRows args H k else bif Nat.beq f 53 then notK arZero arRows args H k else bif Nat.beq f 105 then notK rvZero rvRows args H k else bif Nat.beq f 113 then notK coZero coRows args H k else smC E3 f args H k
theorem e3_am {n : List UInt8} (h : notIn n amRows = true) (H : AHeap) : E3.sm 47 [.str n] H = some (amZero, H) := by
  show orSm (extSm kinds) (orSm (contSm 156) (orSm (plainSm findF) (orSm (plainSm MFO) fldSm))) 47 [.str n] H = _
  rw [or_none (by rfl), or_none (by rfl)]
  refine or_some ?_
  show Option.rec (motive := fun _ => Option (AV × AHeap)) none (fun v => some (v, H)) (findAll amZero n amRows) = _
  rw [findAll_notIn _ _ _ h]
theorem e3_ar {n : List UInt8} (h : notIn n arRows = true) (H : AHeap) : E3.sm 53 [.str n] H = some (arZero, H) := by
  show orSm (extSm kinds) (orSm (contSm 156) (orSm (plainSm findF) (orSm (plainSm MFO) fldSm))) 53 [.str n] H = _
  rw [or_none (by rfl), or_none (by rfl)]
  refine or_some ?_
  show Option.rec (motive := fun _ => Option (AV × AHeap)) none (fun v => some (v, H)) (findAll arZero n arRows) = _
  rw [findAll_notIn _ _ _ h]
theorem e3_rv {n : List UInt8} (h : notIn n rvRows = true) (H : AHeap) : E3.sm 105 [.str n] H = some (rvZero, H) := by
  show orSm (extSm kinds) (orSm (contSm 156) (orSm (plainSm findF) (orSm (plainSm MFO) fldSm))) 105 [.str n] H = _
  rw [or_none (by rfl), or_none (by rfl)]
  refine or_some ?_
  show Option.rec (motive := fun _ => Option (AV × AHeap)) none (fun v => some (v, H)) (findAll rvZero n rvRows) = _
  rw [findAll_notIn _ _ _ h]
theorem e3_co {n : List UInt8} (h : notIn n coRows = true) (H : AHeap) : E3.sm 113 [.str n] H = some (coZero, H) := by
  show orSm (extSm kinds) (orSm (contSm 156) (orSm (plainSm findF) (orSm (plainSm MFO) fldSm))) 113 [.str n] H = _
  rw [or_none (by rfl), or_none (by rfl)]
  refine or_some ?_
  show Option.rec (motive := fun _ => Option (AV × AHeap)) none (fun v => some (v, H)) (findAll coZero n coRows) = _
  rw [findAll_notIn _ _ _ h]
theorem skn_ok {α : Type} : SmkOk (α := α) E3 SKN := by
  intro f args H k r h
  unfold SKN at h
  simp only [Bool.cond_eq_ite, Nat.beq_eq] at h
  split at h
  · rename_i e
    subst e
    unfold notK at h
    split at h
    case h_2 => cases h
    obtain ⟨h1, h2⟩ := bc_none h
    exact ⟨_, _, e3_am h1 H, h2⟩
  split at h
  · rename_i e
    subst e
    unfold notK at h
    split at h
    case h_2 => cases h
    obtain ⟨h1, h2⟩ := bc_none h
    exact ⟨_, _, e3_ar h1 H, h2⟩
  split at h
  · rename_i e
    subst e
    unfold notK at h
    split at h
    case h_2 => cases h
    obtain ⟨h1, h2⟩ := bc_none h
    exact ⟨_, _, e3_rv h1 H, h2⟩
  split at h
  · rename_i e
    subst e
    unfold notK at h
    split at h
    case h_2 => cases h
    obtain ⟨h1, h2⟩ := bc_none h
    exact ⟨_, _, e3_co h1 H, h2⟩
  exact smC_ok _ _ _ _ _ _ h
theorem unk1_run (nm : List UInt8) (A B C D I : Int) : callPS E3 SKN noPin 100000 (.call 9 [.int .i64 (.ofNat 1), insV nm A B C D I] (gHeap 12 gl)) [] jO = bc (notIn nm amRows) (some (.tup [.opq none, .int .i64 (.ofNat 7)])) none := by kernel_rfl
theorem unk2_run (nm : List UInt8) (A B C D I : Int) : callPS E3 SKN noPin 100000 (.call 9 [.int .i64 (.ofNat 2), insV nm A B C D I] (gHeap 12 gl)) [] jO = bc (notIn nm arRows) (some (.tup [.opq none, .int .i64 (.ofNat 7)])) none := by kernel_rfl
def unk3 (nm : List UInt8) : Option AV := bc (!(Nat.blt (lenU nm) 2)) (bc (Nat.ble 2 (lenU nm)) (bc (leq (List.take 2 (List.drop 0 nm)) [99, 46]) (bc (notIn nm coRows) (some (.tup [.opq none, .int .i64 (.ofNat 7)])) none) (bc (notIn nm rvRows) (some (.tup [.opq none, .int .i64 (.ofNat 7)])) none)) none) (bc (notIn nm rvRows) (some (.tup [.opq none, .int .i64 (.ofNat 7)])) none)
theorem unk3_run (nm : List UInt8) (A B C D I : Int) : callPS E3 SKN noPin 100000 (.call 9 [.int .i64 (.ofNat 3), insV nm A B C D I] (gHeap 12 gl)) [] jO = unk3 nm := by kernel_rfl
theorem unk3_val (nm : List UInt8) (h1 : notIn nm coRows = true) (h2 : notIn nm rvRows = true) : unk3 nm = some (.tup [.opq none, .int .i64 (.ofNat 7)]) := by
  unfold unk3
  rw [h1, h2, bc_true, bc_same]
  cases h : Nat.blt (lenU nm) 2 with
  | true => rfl
  | false =>
    have : Nat.ble 2 (lenU nm) = true := by
      rw [Nat.ble_eq]
      rcases Nat.lt_or_ge (lenU nm) 2 with h' | h'
      · have e : Nat.blt (lenU nm) 2 = true := by rw [Nat.blt_eq]; exact h'
        rw [e] at h; cases h
      · exact h'
    rw [this]; rfl
theorem other_run (t : Int) (nm : List UInt8) (A B C D I : Int) : callP E3 100000 (.call 9 [.int .i64 t, insV nm A B C D I] (gHeap 12 gl)) [false, false, false] jO = bc (ieq t (.ofNat 1)) none (bc (ieq t (.ofNat 2)) none (bc (ieq t (.ofNat 3)) none (some (.tup [.opq none, .int .i64 (.ofNat 11)])))) := by kernel_rfl
theorem ansN {t : Int} {nm : List UInt8} {A B C D I e : Int} {g : Option AV} {o : Orc} (h : callPS E3 SKN noPin 100000 (.call 9 [.int .i64 t, insV nm A B C D I] (gHeap 12 gl)) o jO = g) (hv : g = some (.tup [.opq none, .int .i64 e])) : Ans9 t nm A B C D I e := ⟨E3, 100000, _, noPin, skn_ok, e3_ok, gl_ok, e3_fn, o, h.trans hv⟩
end
end Go.Proofs.YtlclahpapabkdaaGreatDoor
