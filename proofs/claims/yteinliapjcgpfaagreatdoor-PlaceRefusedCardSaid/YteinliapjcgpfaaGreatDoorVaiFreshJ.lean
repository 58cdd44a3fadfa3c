/- A body with one region of new objects in it; a body that ends with a truth value. -/
import Derived.Test.YteinliapjcgpfaaGreatDoorVaiFresh
import Derived.Test.YteinliapjcgpfaaGreatDoorVaiClose
namespace Go.Vai
variable {E : Env} {P : Program} {I : List MEnt → AHeap → World → Prop} {ih : Task → Option TRes} {ro : Option Nat}
theorem fresh_join {ops : Array Oper} {n0 m n : Nat} {val : Nat → AV} {row : Nat → TypeId × List AV} {frC : Tr AV} {nm : Nat → Nat → Bool} {L A B : List Code} {id : Nat} {fr fr1 : AFr} {H H1 HF : AHeap} {Q : TQ} (hE : EnvOk E P I) (hs : Sound E P I ih)
    (hL : L = A ++ .region id ops true :: B) (h1 : codeL E ih A fr H = some (.code .normal fr1 H1)) (hm : FLit E ops n0 m n val row frC nm) (hn0 : H1.next = n0) (hn : fr1.n = n) (hb : n0 + m < 1000000) (ks : List Nat)
    (hks : ∀ k ∈ ks, k < m ∧ ∃ ok, ops[k]? = some ok ∧ freshOp ok.op = true) (hl : ∀ o, ops[m]? = some o → o.dst = none ∧ execA E (flHeap H1 m row ks) frC o = some (.skip HF)) (hQ : TriL E P I ro B (flFrame val ops fr1) HF Q) : TriL E P I ro L fr H Q := by
  subst hL
  refine TriL.run hE hs h1 (.inl ⟨rfl, ?_⟩)
  show Tri E P I ro (.region id ops true) fr1 H1 _
  exact Tri.fresh hE hs hm hn0 hn hb ks hks hl id (.inl ⟨rfl, hQ⟩)
theorem retB_triL {rs : List ResultVar} {b : Bool} {L : List Code} {fr : AFr} {H : AHeap} (hE : EnvOk E P I) (hs : Sound E P I ih) (h : isRetB E rs b (codeL E ih L fr H) = true) :
    TriL E P I ro L fr H fun e fr H => (e = .normal ∨ e = .ret) ∧ fr.df = [] ∧ ∃ l, resA E fr.t H rs = some l ∧ resV l = .bool b := by
  unfold isRetB at h
  split at h
  case h_2 => cases h
  rename_i fr' H' hc
  simp only [Bool.and_eq_true] at h
  rw [← List.append_nil L]
  refine TriL.run (m := []) hE hs hc (.inr ⟨(by intro h; cases h), .inr rfl, ?_, ?_⟩)
  · have h1 := h.1
    cases hd : fr'.df with
    | nil => rfl
    | cons x xs => rw [hd] at h1; cases h1
  · have h2 := h.2
    split at h2
    · rename_i c hr
      refine ⟨_, hr, ?_⟩
      have : b = c := by simpa using h2
      rw [this]; rfl
    · cases h2
end Go.Vai
