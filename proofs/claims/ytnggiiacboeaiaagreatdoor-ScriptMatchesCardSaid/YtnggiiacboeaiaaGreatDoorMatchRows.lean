/- One letter of a glob, one place of a name: what script.Match's and foundryref21.Match's inner rounds do. -/
import Derived.Test.YtnggiiacboeaiaaGreatDoorMatchTrees
namespace Go.Proofs.YtnggiiacboeaiaaGreatDoor
open Go Go.Vai
/-- One letter of the glob: which fronts of the name fit. -/
def stepB (c : UInt8) (s : List UInt8) (F : Nat → Bool) : Nat → Bool
  | 0 => bif Nat.beq c.toNat 42 then F 0 else false
  | k + 1 => bif Nat.beq c.toNat 42 then F (k + 1) || stepB c s F k else F k && (Nat.beq c.toNat 63 || Nat.beq c.toNat (byteAt s k).toNat)
def rowsB (g s : List UInt8) : Nat → Nat → Bool
  | 0 => fun k => Nat.beq k 0
  | i + 1 => stepB (byteAt g i) s (rowsB g s i)
def matchB (g s : List UInt8) : Bool := rowsB g s (lenU g) (lenU s)
/-- A row under way: its first k places. -/
def midB (c : UInt8) (s : List UInt8) (F : Nat → Bool) (k j : Nat) : Bool := bif Nat.blt j k then stepB c s F j else false
theorem midB_lt {c : UInt8} {s : List UInt8} {F : Nat → Bool} {k j : Nat} (h : j < k) : midB c s F k j = stepB c s F j := by rw [midB, blt_t h]; rfl
theorem midB_ge {c : UInt8} {s : List UInt8} {F : Nat → Bool} {k j : Nat} (h : ¬ j < k) : midB c s F k j = false := by rw [midB, blt_f h]; rfl
theorem midB_zero (c : UInt8) (s : List UInt8) (F : Nat → Bool) : midB c s F 0 = fun _ => false := by funext j; exact midB_ge (by omega)
theorem midB_step {c : UInt8} {s : List UInt8} {F : Nat → Bool} {k j : Nat} (h : j ≠ k) : midB c s F k j = midB c s F (k + 1) j := by
  by_cases e : j < k
  · rw [midB_lt e, midB_lt (by omega)]
  · rw [midB_ge e, midB_ge (by omega)]
theorem ieq_nat (a b : Nat) : ieq (.ofNat a) (.ofNat b) = Nat.beq a b := rfl
theorem ilt_zero (a : Nat) : ilt (.ofNat a) (.ofNat 0) = false := rfl
theorem toNat_nat (a : Nat) : (Int.ofNat a).toNat = a := rfl

theorem step_put {N k : Nat} {T : Tr AV} {c : UInt8} {s : List UInt8} {F : Nat → Bool} {b : Bool} (h : RowIs N T (midB c s F k)) (hN : N ≤ 100000) (hk : k < N) (hb : b = stepB c s F k) : RowIs N (T.putAll k [.bool b]) (midB c s F (k + 1)) :=
  h.put (by omega) hk (by rw [hb, midB_lt (by omega)]) fun j _ hj => midB_step hj
theorem step_stay {N k : Nat} {T : Tr AV} {c : UInt8} {s : List UInt8} {F : Nat → Bool} (h : RowIs N T (midB c s F k)) (hb : stepB c s F k = false) : RowIs N T (midB c s F (k + 1)) :=
  ⟨h.1, fun j hj => by
    rw [h.2 j hj]
    by_cases e : j = k
    · subst e
      rw [midB_ge (k := j) (by omega), midB_lt (k := j + 1) (by omega), hb]
    · rw [midB_step e]⟩

theorem a3_step {g s : List UInt8} {N i k : Nat} {T1 T2 : Tr AV} {F : Nat → Bool} (hN : N = lenU s + 1) (hs : N ≤ 100000) (hk : k < N) (hi : i < lenU g) (h1 : RowIs N T1 F) (h2 : RowIs N T2 (midB (byteAt g i) s F k)) :
    ∃ T2', a3 g s N i k T1 T2 = lf .normal 87 ((vI g s N i (k + 1)).map some) ([row N T1, row N T2'].map some) ∧ RowIs N T2' (midB (byteAt g i) s F (k + 1)) := by
  rw [a3_eq]
  have e1 := blt_t hk
  have e2 := blt_t hi
  have e3 : Nat.ble k.succ N = true := ble_t hk
  have e4 := h1.2 k hk
  have e5 := up_eq (k := k) (by omega)
  simp only [e1, e2, at1_eq, e3, e4, e5, bc_true, isB, asB, ieq_nat]
  cases hst : Nat.beq (byteAt g i).toNat 42 with
  | true =>
    simp only [bc_true]
    cases hF : F k with
    | true =>
      simp only [bc_true]
      exact ⟨_, rfl, step_put h2 hs hk (by cases k <;> simp [stepB, hst, hF])⟩
    | false =>
      simp only [bc_false]
      cases k with
      | zero =>
        simp only [blt_f (Nat.lt_irrefl 0), bc_false]
        exact ⟨_, rfl, step_put h2 hs hk (by simp [stepB, hst, hF])⟩
      | succ k =>
        have e6 := h2.2 k (by omega)
        rw [midB_lt (by omega)] at e6
        have e7 : Nat.blt k N = true := blt_t (by omega)
        simp only [blt_t (Nat.succ_pos k), bc_true, pr_eq (k := k) (by omega), ilt_zero, bc_false, toNat_nat, e7, e6]
        exact ⟨_, rfl, step_put h2 hs hk (by simp [stepB, hst, hF])⟩
  | false =>
    simp only [bc_false]
    cases k with
    | zero =>
      simp only [blt_f (Nat.lt_irrefl 0), bc_false]
      exact ⟨_, rfl, step_stay h2 (by simp [stepB, hst])⟩
    | succ k =>
      have e6 := h1.2 k (by omega)
      have e7 : Nat.blt k N = true := blt_t (by omega)
      have e8 : Nat.blt k (lenU s) = true := blt_t (by omega)
      simp only [blt_t (Nat.succ_pos k), bc_true, pr_eq (k := k) (by omega), ilt_zero, bc_false, toNat_nat, e7, e6]
      cases hF : F k with
      | true =>
        simp only [bc_true]
        cases hq : Nat.beq (byteAt g i).toNat 63 with
        | true =>
          simp only [bc_true]
          exact ⟨_, rfl, step_put h2 hs hk (by simp [stepB, hst, hF, hq])⟩
        | false =>
          simp only [bc_false, e8, bc_true]
          exact ⟨_, rfl, step_put h2 hs hk (by simp [stepB, hst, hF, hq])⟩
      | false =>
        simp only [bc_false]
        exact ⟨_, rfl, step_put h2 hs hk (by simp [stepB, hst, hF])⟩
theorem a3_out {g s : List UInt8} {N i : Nat} {T1 T2 : Tr AV} : a3 g s N i N T1 T2 = lf (.exit 2) 87 ((vI g s N i N).map some) ([row N T1, row N T2].map some) := by
  rw [a3_eq]
  simp only [blt_f (Nat.lt_irrefl N), bc_false]
  rfl
theorem c3_step {g s : List UInt8} {N i k : Nat} {T1 T2 : Tr AV} {F : Nat → Bool} (hN : N = lenU s + 1) (hs : N ≤ 100000) (hk : k < N) (hi : i < lenU g) (h1 : RowIs N T1 F) (h2 : RowIs N T2 (midB (byteAt g i) s F k)) :
    ∃ T2', c3 g s N i k T1 T2 = lf .normal 87 ((vJ g s N i (k + 1)).map some) ([row N T1, row N T2'].map some) ∧ RowIs N T2' (midB (byteAt g i) s F (k + 1)) := by
  rw [c3_eq]
  have e0 : (!Nat.blt (lenU s) k) = true := by rw [blt_f (by omega)]; rfl
  have e1 := blt_t hk
  have e2 := blt_t hi
  have e3 : Nat.ble k.succ N = true := ble_t hk
  have e4 := h1.2 k hk
  have e5 := up_eq (k := k) (by omega)
  simp only [e0, e1, e2, at1_eq, e3, e4, e5, bc_true, isB, asB, ieq_nat]
  cases hst : Nat.beq (byteAt g i).toNat 42 with
  | true =>
    simp only [bc_true]
    cases hF : F k with
    | true =>
      simp only [bc_true]
      exact ⟨_, rfl, step_put h2 hs hk (by cases k <;> simp [stepB, hst, hF])⟩
    | false =>
      simp only [bc_false]
      cases k with
      | zero =>
        simp only [blt_f (Nat.lt_irrefl 0), bc_false]
        exact ⟨_, rfl, step_put h2 hs hk (by simp [stepB, hst, hF])⟩
      | succ k =>
        have e6 := h2.2 k (by omega)
        rw [midB_lt (by omega)] at e6
        have e7 : Nat.blt k N = true := blt_t (by omega)
        simp only [blt_t (Nat.succ_pos k), bc_true, pr_eq (k := k) (by omega), ilt_zero, bc_false, toNat_nat, e7, e6]
        exact ⟨_, rfl, step_put h2 hs hk (by simp [stepB, hst, hF])⟩
  | false =>
    simp only [bc_false]
    cases k with
    | zero =>
      simp only [blt_f (Nat.lt_irrefl 0), bc_false]
      exact ⟨_, rfl, step_stay h2 (by simp [stepB, hst])⟩
    | succ k =>
      have e6 := h1.2 k (by omega)
      have e7 : Nat.blt k N = true := blt_t (by omega)
      have e8 : Nat.blt k (lenU s) = true := blt_t (by omega)
      simp only [blt_t (Nat.succ_pos k), bc_true, pr_eq (k := k) (by omega), ilt_zero, bc_false, toNat_nat, e7, e6]
      cases hF : F k with
      | true =>
        simp only [bc_true]
        cases hq : Nat.beq (byteAt g i).toNat 63 with
        | true =>
          simp only [bc_true]
          exact ⟨_, rfl, step_put h2 hs hk (by simp [stepB, hst, hF, hq])⟩
        | false =>
          simp only [bc_false, e8, bc_true]
          exact ⟨_, rfl, step_put h2 hs hk (by simp [stepB, hst, hF, hq])⟩
      | false =>
        simp only [bc_false]
        exact ⟨_, rfl, step_put h2 hs hk (by simp [stepB, hst, hF])⟩
theorem c3_out {g s : List UInt8} {N i : Nat} {T1 T2 : Tr AV} (hN : N = lenU s + 1) : c3 g s N i N T1 T2 = lf (.exit 2) 87 ((vJ g s N i N).map some) ([row N T1, row N T2].map some) := by
  rw [c3_eq]
  have e0 : (!Nat.blt (lenU s) N) = false := by rw [blt_t (by omega)]; rfl
  simp only [e0, bc_false]
  rfl
end Go.Proofs.YtnggiiacboeaiaaGreatDoor
