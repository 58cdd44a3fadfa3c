/- foundrylaw23.begun answers true: script.Read's call by what it leaves, the region whose order is open by VaiFresh, the rest by the interpreter. -/
import Derived.Test.YteinliapjcgpfaaGreatDoorPlaceBegunF
import Derived.Test.YteinliapjcgpfaaGreatDoorVaiFreshJ
import Derived.Test.YteinliapjcgpfaaGreatDoorVaiClose
import Derived.KernelRfl
namespace Go.Proofs.YteinliapjcgpfaaGreatDoor
open Go Go.Vai
theorem HF_eq {o : Oper} (ho : ops2[9]? = some o) : HF = getSkip (execA E2 HE frC o) := by unfold HF; rw [ho]; rfl
attribute [local irreducible] n0 nn H1 fr1 st1 L ops2 frC vals rows HE HF fr3
theorem begun_tri (w : World) (hw : GlobOk gl w) : Tri E2 Tryz.prog (Kept gl w) none fnB.body (newFr fnB []) (gHeap E2.ng gl) fun e fr H => (e = .normal ∨ e = .ret) ∧ fr.df = [] ∧ ∃ l, resA E2 fr.t H fnB.results = some l ∧ resV l = .bool true := by
  have hE := e2_ok w hw
  have hs : Sound E2 Tryz.prog (Kept gl w) ih2 := by unfold ih2; rw [runR_eq]; exact sound_run hE _
  refine tri_of_triL _ ?_
  rw [flat_L]
  refine fresh_join hE hs L_eq st1_eq flit n0_eq nn_eq small_lt [0, 2, 4, 6, 8] (fun k hk => ?_) (fun o ho => ?_) (HF := HF) ?_
  · have := List.all_eq_true.1 fresh_ok k hk
    simp only [Bool.and_eq_true, Nat.blt_eq] at this
    refine ⟨this.1, ?_⟩
    have h2 := this.2
    split at h2
    · rename_i o ho; exact ⟨o, ho, h2⟩
    · cases h2
  · have h := last_ok
    rw [ho] at h
    simp only [Option.map_some, Option.some.injEq, Prod.mk.injEq] at h
    refine ⟨?_, ?_⟩
    · cases e : o.dst with
      | none => rfl
      | some _ => rw [e] at h; cases h.1
    · have e : HF = getSkip (execA E2 HE frC o) := HF_eq ho
      rw [e, HE_eq]
      exact skip_of h.2
  · rw [fr3_eq]
    exact retB_triL hE hs end_ok
theorem begun_ret : ∀ w, GlobOk gl w → (callFunc 5 #[]).run Tryz.prog w = .ok (.enter 5 #[]) w ∧ Calls Tryz.prog 5 #[] w fun e w' => e = .returned (.bool true) ∧ Keeps w w' := by
  intro w hw
  obtain ⟨a, b⟩ := body_to (args := []) (cargs := []) (R := fun v _ => v = .bool true) e2_ok gl_ok fnB_eq trivial begun_tri w hw
  refine ⟨a, Calls.mono (callsIn_wide.1 b) ?_⟩
  rintro e w' ⟨cv, v, H, M, rfl, _, kp, hv, rfl⟩
  simp only [VRel] at hv
  exact ⟨by rw [hv], kp.2.1⟩
end Go.Proofs.YteinliapjcgpfaaGreatDoor
