/- A call that reads one row that it is handed and answers a plain value: by a run from known memory, in whatever memory. -/
import Derived.Test.YtbfdooplkdofeaaGreatDoorVaiH
section
namespace Go.Vai
noncomputable section
variable {P : Program} {gl : List (Nat × List AV)} {E : Env}
theorem view_closed {f : FuncId} {args : List AV} {cargs : List Value} {u v1 : AV} {M : List MEnt} {H H1 : AHeap} {w : World} {os : List AObj} {ex : List MEnt} {n : Nat} (hE : ∀ w, Zay gl w → EnvOk E P (Kept gl w)) (hf : (E.fn f).isSome = true) (hw : Zay gl w) (hr : HRel M H w)
    (hl : ex.length = os.length) (hro : ∀ o ∈ os, o.isRo = true) (ho : ∀ (j : Nat) m o, ex[j]? = some m → os[j]? = some o → ORel [] m w o) (ha : Zaj (Zc2 E.ng 0 ++ ex) args cargs)
    (hu : rnV 0 [] v1 = some u) (h : run E n (.call f args (mkH E.ng os)) = some (.call (.ret v1 H1))) : CallsA P f cargs M H w (.ret u H) := by
  obtain ⟨fn, hfn⟩ := Option.isSome_iff_exists.1 hf
  have hr0 := start_rel (ng := E.ng) hl hro ho
  have kp : Kept gl w (Zc2 E.ng 0 ++ ex) (mkH E.ng os) w := ⟨hw, Keeps.refl w, fun b _ ⟨id, o, m, e, r, _⟩ => by
    obtain ⟨j, _, hj⟩ := Zep e
    rw [hro o (List.mem_of_getElem? hj)] at r; cases r⟩
  have key := Zcj (hE w hw) hfn (run_sound (hE w hw) h ⟨hr0, (grel_glob E).mono (List.prefix_append _ _), kp⟩ ha)
  refine .inr ⟨key.1, CallsIn.mono key.2 ?_⟩
  intro e w' hpost
  cases e with
  | outgrown => exact hpost.elim
  | panicked ch => obtain ⟨_, _, _, _, e, _⟩ := hpost; cases e
  | returned cv =>
    obtain ⟨v2, H2, M', e, x1, x2, x3⟩ := hpost
    cases e
    have hv : VRel M u cv := Zdi (b := 0) (keep := []) (fun k i hk => by simp at hk) v1 u cv hu x3
    have kk := ((Zau hw).ext _ _ _ _ _ _ kp x1).2.1
    exact ⟨u, H, M, rfl, ⟨List.prefix_refl _, kk.size, kk.os, kk.tape, kk.output, fun b hb hn => ⟨kk.old b hb, hn⟩, fun _ _ hn => hn⟩, ⟨hr.len, fun id o e => by
      obtain ⟨m, hm, r⟩ := hr.obj id o e
      exact ⟨m, hm, r.carry (List.prefix_refl _) (kk.old _ r.lt)⟩, hr.inj⟩, hv⟩
theorem view_law {f : FuncId} {args : List AV} {cargs : List Value} {v1 : AV} {H1 : AHeap} {w : World} {os : List AObj} {ex : List MEnt} {n : Nat} (hE : ∀ w, Zay gl w → EnvOk E P (Kept gl w)) (hf : (E.fn f).isSome = true) (hw : Zay gl w)
    (hl : ex.length = os.length) (hro : ∀ o ∈ os, o.isRo = true) (ho : ∀ (j : Nat) m o, ex[j]? = some m → os[j]? = some o → ORel [] m w o) (ha : Zaj (Zc2 E.ng 0 ++ ex) args cargs)
    (hu : rnV 0 [] v1 = some (.bool true)) (h : run E n (.call f args (mkH E.ng os)) = some (.call (.ret v1 H1))) : Calls P f cargs.toArray w fun e w' => e = .returned (.bool true) ∧ Keeps w w' := by
  obtain ⟨fn, hfn⟩ := Option.isSome_iff_exists.1 hf
  have hr0 := start_rel (ng := E.ng) hl hro ho
  have kp : Kept gl w (Zc2 E.ng 0 ++ ex) (mkH E.ng os) w := ⟨hw, Keeps.refl w, fun b _ ⟨id, o, m, e, r, _⟩ => by
    obtain ⟨j, _, hj⟩ := Zep e
    rw [hro o (List.mem_of_getElem? hj)] at r; cases r⟩
  have key := Zcj (hE w hw) hfn (run_sound (hE w hw) h ⟨hr0, (grel_glob E).mono (List.prefix_append _ _), kp⟩ ha)
  refine Calls.mono (callsIn_wide.1 key.2) ?_
  intro e w' hpost
  cases e with
  | outgrown => exact hpost.elim
  | panicked ch => obtain ⟨_, _, _, _, e, _⟩ := hpost; cases e
  | returned cv =>
    obtain ⟨v2, H2, M', e, x1, x2, x3⟩ := hpost
    cases e
    have hv : VRel M' (.bool true) cv := Zdi (b := 0) (keep := []) (fun k i hk => by simp at hk) v1 (.bool true) cv hu x3
    simp only [VRel] at hv
    exact ⟨by rw [hv], ((Zau hw).ext _ _ _ _ _ _ kp x1).2.1⟩
end
end Go.Vai
end
