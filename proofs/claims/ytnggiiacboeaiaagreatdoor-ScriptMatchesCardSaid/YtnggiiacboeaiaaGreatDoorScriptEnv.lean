/- The statements about globs: begun and both Match functions by what they answer. -/
import Derived.Test.YtnggiiacboeaiaaGreatDoorScriptBegun
namespace Go.Proofs.YtnggiiacboeaiaaGreatDoor
open Go Go.Vai
noncomputable section
def sm3 : Sm := orSm (retSm 10 true) matchSm
theorem sm3_ok : SmOk Tryz.prog gl sm3 := (smOk_ret begun_ret).or match_ok
def E3 : Env := envOf Tryz.prog 8 [10, 11, 12] sm3
theorem e3_ok (w : World) (hw : GlobOk gl w) : EnvOk E3 Tryz.prog (Kept gl w) := envOk_sm (by kernel_rfl) sm3_ok mixed_ok (fun _ _ _ h => h.1) (kept_carried hw).ext
/-- A call of Match, in a tree. -/
def matchA {α : Type} (g : AV) (s : AV) (H : AHeap) (k : AV → AHeap → Option α) : Option α := match g, s with
  | .str g, .str s => bc (Nat.blt (lenU s) 100000) (bc (Nat.ble (lenU g) 100000) (k (.bool (matchB g s)) H) none) none
  | _, _ => none
def matchC {α : Type} : Cl α := fun _ args H k => match args with
  | [g, s] => matchA g s H k
  | _ => none
def isM (f : FuncId) : Bool := bc (Nat.beq f 11) true (Nat.beq f 12)
def cl3 {α : Type} : Cl α := orCl matchC (callKK E3 0) isM
theorem cl3_ok {α : Type} : ClOk (cl3 (α := α)) (run E3 1) := by
  refine ClOk.orCl ?_ (callKK_ok E3 0 0)
  intro f args H k r hf h
  have hf2 : f = 11 ∨ f = 12 := by
    unfold isM at hf
    cases e : Nat.beq f 11 with
    | true => exact .inl (Nat.beq_eq ▸ e)
    | false => rw [e] at hf; exact .inr (Nat.beq_eq ▸ hf)
  unfold matchC at h
  split at h
  case h_2 => cases h
  rename_i g s
  unfold matchA at h
  split at h
  case h_2 => cases h
  rename_i g s
  obtain ⟨h1, h⟩ := bc_none h
  obtain ⟨h2, h⟩ := bc_none h
  refine ⟨_, _, ?_, h⟩
  have hsm : E3.sm f [.str g, .str s] H = some (.bool (matchB g s), H) := by
    show sm3 f [.str g, .str s] H = _
    unfold sm3 orSm
    simp only [retSm]
    unfold matchSm
    simp only [h1, h2]
    rcases hf2 with rfl | rfl <;> rfl
  show stepA E3 (run E3 0) (.call f [.str g, .str s] H) = _
  have hn : E3.fn f = none := by
    rcases hf2 with rfl | rfl
    · have : (E3.fn 11).isNone = true := by kernel_rfl
      exact Option.isNone_iff_eq_none.1 this
    · have : (E3.fn 12).isNone = true := by kernel_rfl
      exact Option.isNone_iff_eq_none.1 this
  simp only [stepA, hn, hsm]
end
end Go.Proofs.YtnggiiacboeaiaaGreatDoor
