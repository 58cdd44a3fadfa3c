/- A body cut at a test that hangs on an argument: its front by the kernel, the test by a fact, its rest by the kernel. -/
import Derived.Test.YtopjbfgikglncaaGreatDoorVaiFast
namespace Go.Vai
noncomputable section

def flat : Code → List Code
  | .seq a b => flat a ++ flat b
  | c => [c]
def codeL (E : Env) (ih : Task → Option TRes) : List Code → AFr → AHeap → Option TRes
  | [], fr, H => some (.code .normal fr H)
  | c :: cs, fr, H => match codeA E ih c fr H with
    | some (.code .normal fr H) => codeL E ih cs fr H
    | r => r
section
variable {E : Env} {ih : Task → Option TRes}
theorem codeL_append : ∀ (a b : List Code) (fr : AFr) (H : AHeap), codeL E ih (a ++ b) fr H = (match codeL E ih a fr H with
    | some (.code .normal fr H) => codeL E ih b fr H
    | r => r)
  | [], _, _, _ => rfl
  | c :: cs, b, fr, H => by
    simp only [List.cons_append, codeL]
    split
    · exact codeL_append cs b _ _
    · rename_i r hr
      split
      · rename_i fr' H' he; exact absurd he (hr fr' H')
      · rfl
theorem codeL_one (c : Code) (fr : AFr) (H : AHeap) : codeL E ih [c] fr H = codeA E ih c fr H := by
  simp only [codeL]
  split
  · rename_i h; exact h.symm
  · rfl
theorem codeL_flat : ∀ (c : Code) (fr : AFr) (H : AHeap), codeL E ih (flat c) fr H = codeA E ih c fr H := by
  intro c
  induction c with
  | seq a b iha ihb =>
    intro fr H
    simp only [flat, codeL_append, iha, codeA]
    split
    · rename_i fr' H' h; rw [h]; exact ihb fr' H'
    · rename_i r hr
      split
      · rename_i fr' H' he; exact absurd he (hr fr' H')
      · rfl
  | _ => intro fr H; exact codeL_one _ fr H

def getFr : Option TRes → AFr
  | some (.code _ fr _) => fr
  | _ => default
def getH : Option TRes → AHeap
  | some (.code _ _ H) => H
  | _ => default
def isNormal : Option TRes → Bool
  | some (.code .normal _ _) => true
  | _ => false
theorem normal_of {r : Option TRes} (h : isNormal r = true) : r = some (.code .normal (getFr r) (getH r)) := by
  unfold isNormal at h
  split at h
  · rfl
  · cases h

/-- The rest of a list of code, behind its front. -/
theorem codeL_cut {l : List Code} {k : Nat} {fr : AFr} {H : AHeap} (h : isNormal (codeL E ih (l.take k) fr H) = true) :
    codeL E ih l fr H = codeL E ih (l.drop k) (getFr (codeL E ih (l.take k) fr H)) (getH (codeL E ih (l.take k) fr H)) := by
  conv => lhs; rw [← List.take_append_drop k l, codeL_append, normal_of h]

/-- A test whose answer is known. -/
theorem codeL_cond {c : Operand} {a b : Code} {l : List Code} {fr : AFr} {H : AHeap} {x : Bool} (h : opd E fr.t c = some (.bool x)) :
    codeL E ih (.cond c a b :: l) fr H = codeL E ih ((bif x then a else b) :: l) fr H := by
  simp only [codeL]
  have : codeA E ih (.cond c a b) fr H = codeA E ih (bif x then a else b) fr H := by
    simp only [codeA, h]
    cases x <;> rfl
  rw [this]

def isRetB (E : Env) (rs : List ResultVar) (b : Bool) : Option TRes → Bool
  | some (.code .ret fr H) => (match fr.df with | [] => true | _ => false) && (match resA E fr.t H rs with | some [.bool c] => b == c | _ => false)
  | _ => false
theorem call_of {n : Nat} {f : FuncId} {args : List AV} {H : AHeap} {fn : AFunc} {b : Bool} (hf : E.fn f = some fn) (h : isRetB E fn.results b (codeL E (run E n) (flat fn.body) (newFr fn args) H) = true) : TRes.isB b (run E (n + 1) (.call f args H)) = true := by
  rw [codeL_flat] at h
  show TRes.isB b (stepA E (run E n) (.call f args H)) = true
  simp only [stepA, hf]
  unfold isRetB at h
  split at h
  case h_2 => cases h
  rename_i fr H' hc
  rw [hc]
  simp only [Bool.and_eq_true] at h
  obtain ⟨h1, h2⟩ := h
  have hd : fr.df = [] := by
    cases hx : fr.df with
    | nil => rfl
    | cons x xs => rw [hx] at h1; cases h1
  simp only [hd, leaveA]
  split at h2
  · rename_i c hr
    rw [hr]
    exact h2
  · cases h2
end
end
end Go.Vai
