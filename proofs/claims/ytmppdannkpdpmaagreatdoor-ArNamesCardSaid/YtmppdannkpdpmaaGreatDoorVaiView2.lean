/- A call that reads one row that it is handed and answers a plain value: by a run from known memory, in whatever memory. -/
import Derived.Test.YtmppdannkpdpmaaGreatDoorVaiH
section
namespace Go.Vai
noncomputable section
variable {P : Program} {gl : List (Nat × List AV)} {E : Env}
theorem Zc4 {f : FuncId} {args : List AV} {cargs : List Value} {v1 : AV} {H1 : AHeap} {w : World} {os : List AObj} {ex : List MEnt} {n : Nat} (hE : ∀ w, Ya gl w → EnvOk E P (Kept gl w)) (hf : (E.fn f).isSome = true) (hw : Ya gl w)
    (hl : ex.length = os.length) (hro : ∀ o ∈ os, o.isRo = true) (ho : ∀ (j : Nat) m o, ex[j]? = some m → os[j]? = some o → Wj [] m w o) (ha : Zs (X2 E.ng 0 ++ ex) args cargs)
    (hu : Vq 0 [] v1 = some (.bool true)) (h : run E n (.call f args (Z6 E.ng os)) = some (.call (.ret v1 H1))) : Calls P f cargs.toArray w fun e w' => e = .returned (.bool true) ∧ Keeps w w' := by
  obtain ⟨fn, hfn⟩ := Option.isSome_iff_exists.1 hf
  have hr0 := Zea (ng := E.ng) hl hro ho
  have kp : Kept gl w (X2 E.ng 0 ++ ex) (Z6 E.ng os) w := ⟨hw, Keeps.refl w, fun b _ ⟨id, o, m, e, r, _⟩ => by
    obtain ⟨j, _, hj⟩ := Qp e
    rw [hro o (List.mem_of_getElem? hj)] at r; cases r⟩
  have key := Qn (hE w hw) hfn (Zek (hE w hw) h ⟨hr0, (K9 E).mono (List.prefix_append _ _), kp⟩ ha)
  refine Calls.mono (callsIn_wide.1 key.2) ?_
  intro e w' hpost
  cases e with
  | outgrown => exact hpost.elim
  | panicked ch => obtain ⟨_, _, _, _, e, _⟩ := hpost; cases e
  | returned cv =>
    obtain ⟨v2, H2, M', e, x1, x2, x3⟩ := hpost
    cases e
    have hv : Zm M' (.bool true) cv := Vn (b := 0) (keep := []) (fun k i hk => by simp at hk) v1 (.bool true) cv hu x3
    simp only [Zm] at hv
    exact ⟨by rw [hv], ((Yg hw).ext _ _ _ _ _ _ kp x1).2.1⟩
end
end Go.Vai
end
