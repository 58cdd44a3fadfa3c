/- foundrylaw21.begun answers true, from the listed variables: script.Read's two calls by what they leave, script.Match by what it answers. -/
import Derived.Test.YtnggiiacboeaiaaGreatDoorReadD
import Derived.Test.YtnggiiacboeaiaaGreatDoorReadS
import Derived.Test.YtnggiiacboeaiaaGreatDoorMatch
namespace Go.Proofs.YtnggiiacboeaiaaGreatDoor
open Go Go.Vai
/-- script.Match's answer, and the document's. -/
noncomputable def matchSm : Sm := fun f args H => match args with
  | [.str g, .str s] => bif (Nat.beq f 11 || Nat.beq f 12) && (Nat.blt (lenU s) 100000 && Nat.ble (lenU g) 100000) then some (.bool (matchB g s), H) else none
  | _ => none
theorem match_ok {gl : List (Nat × List AV)} : SmOk Tryz.prog gl matchSm := by
  intro f args H v H' M w cargs h _ hr ha
  unfold matchSm at h
  split at h
  case h_2 => cases h
  rename_i g s
  cases hb : (Nat.beq f 11 || Nat.beq f 12) && (Nat.blt (lenU s) 100000 && Nat.ble (lenU g) 100000) with
  | false => rw [hb] at h; cases h
  | true =>
    rw [hb] at h
    simp only [cond_true, Option.some.injEq, Prod.mk.injEq] at h
    obtain ⟨rfl, rfl⟩ := h
    simp only [Bool.and_eq_true, Bool.or_eq_true, Nat.beq_eq, Nat.blt_eq, Nat.ble_eq] at hb
    obtain ⟨hf, h1, h2⟩ := hb
    rcases hf with rfl | rfl
    · exact match11 h1 h2 hr ha
    · exact match12 h1 h2 hr ha
theorem ext_ok : extOk Tryz.prog kinds = true := by kernel_rfl
theorem gl_ok : (gl.all fun x => Nat.blt x.1 8) = true := by kernel_rfl
theorem e1_ok (w : World) (hw : GlobOk gl w) : EnvOk E1 Tryz.prog (Kept gl w) := envOk_sm names_ok (smOk_ext ext_ok) mixed_ok (fun _ _ _ h => h.1) (kept_carried hw).ext
theorem has13 : (E1.fn 13).isSome = true := by kernel_rfl
theorem readD_keep : readD.keep.Nodup := by decide
theorem readD_ro : (readD.os.all fun o => !o.ro) = true := by kernel_rfl
theorem readD_ok : SmOk Tryz.prog gl (closedSm readD) := closed_ok (E := E1) (n := 100000) e1_ok gl_ok has13 (fun v hv => by
  obtain rfl : v = .str dflt := List.mem_singleton.1 hv
  exact plain_str _) (by have := readD_run; rw [runR_eq] at this; exact this) readD_keep readD_ro
theorem readS_ok : SmOk Tryz.prog gl (closedSm readS) := closed_ok (E := E1) (n := 100000) e1_ok gl_ok has13 (fun v hv => by
  rw [List.mem_singleton.1 hv]
  exact plain_str _) (by have := readS_run; rw [runR_eq] at this; exact this) (by decide) rfl
noncomputable def sm2 : Sm := orSm (extSm kinds) (orSm (closedSm readD) (orSm (closedSm readS) matchSm))
theorem sm2_ok : SmOk Tryz.prog gl sm2 := (smOk_ext ext_ok).or (readD_ok.or (readS_ok.or match_ok))
noncomputable def E2 : Env := envOf Tryz.prog 8 [11, 12, 13] sm2
set_option maxRecDepth 100000
theorem begun_run : TRes.isB true (runR E2 100000 (.call 10 [] (gHeap 8 gl))) = true := by kernel_rfl
theorem begun_ret : ∀ w, GlobOk gl w → (callFunc 10 #[]).run Tryz.prog w = .ok (.enter 10 #[]) w ∧ Calls Tryz.prog 10 #[] w fun e w' => e = .returned (.bool true) ∧ Keeps w w' := by
  intro w hw
  have h := begun_run
  rw [runR_eq] at h
  obtain ⟨H1, hrun⟩ := TRes.isB_some h
  have e2 : ∀ w, GlobOk gl w → EnvOk E2 Tryz.prog (Kept gl w) := fun w hw => envOk_sm (by kernel_rfl) sm2_ok mixed_ok (fun _ _ _ h => h.1) (kept_carried hw).ext
  obtain ⟨a, b⟩ := body_closed (args := []) (cargs := []) e2 gl_ok (by kernel_rfl) trivial hrun w hw
  refine ⟨a, Calls.mono (callsIn_wide.1 b) ?_⟩
  rintro e w' ⟨cv, v, H, M, rfl, _, kp, hv, rfl, rfl⟩
  simp only [VRel] at hv
  exact ⟨by rw [hv], kp.2.1⟩
end Go.Proofs.YtnggiiacboeaiaaGreatDoor
