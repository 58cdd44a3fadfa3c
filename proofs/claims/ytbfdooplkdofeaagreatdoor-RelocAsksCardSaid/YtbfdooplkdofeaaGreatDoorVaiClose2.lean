/- A closed call whose arguments hold structs, by what it leaves (as closedSm). -/
import Derived.Test.YtbfdooplkdofeaaGreatDoorVaiH
section
namespace Go.Vai
section
variable {P : Program} {gl : List (Nat × List AV)}
def eqArgB : AV → AV → Bool
  | .agg a, .agg b => Zdx a b
  | x, y => eqPlain x y
theorem eqArgB_iff {x y : AV} (h : eqArgB x y = true) : x = y := by
  unfold eqArgB at h
  split at h
  · rw [eqPlains_iff h]
  · exact eqPlain_iff h
def eqArgsB : List AV → List AV → Bool
  | [], [] => true
  | a :: l, b :: m => eqArgB a b && eqArgsB l m
  | _, _ => false
theorem eqArgsB_iff : ∀ {l m : List AV}, eqArgsB l m = true → l = m
  | [], [], _ => rfl
  | [], _ :: _, h => by simp [eqArgsB] at h
  | _ :: _, [], h => by simp [eqArgsB] at h
  | a :: l, b :: m, h => by
    simp only [eqArgsB, Bool.and_eq_true] at h
    rw [eqArgB_iff h.1, eqArgsB_iff h.2]
noncomputable def Zab (c : Done) : Sm := fun f args H => bif Nat.beq f c.f && eqArgsB c.args args then (match rnV H.next c.keep c.v with
  | some u => some (u, news H (c.os.map (mkO H.next c.keep)))
  | none => none) else none
theorem Zan {E : Env} {c : Done} {n : Nat} (hE : ∀ w, Zay gl w → EnvOk E P (Kept gl w)) (hgl : (gl.all fun x => Nat.blt x.1 E.ng) = true) (hf : (E.fn c.f).isSome = true)
    (hp : ∀ v ∈ c.args, Plain v) (h : pack c.keep (run E n (.call c.f c.args (Zap E.ng gl))) = some (c.v, c.os.map some)) (hk : c.keep.Nodup) (hro : (c.os.all fun o => !o.ro) = true) : SmOk P gl (Zab c) := by
  intro f args H v H' M w cargs hs hw hr ha
  unfold Zab at hs
  cases hb : Nat.beq f c.f && eqArgsB c.args args with
  | false => rw [hb] at hs; cases hs
  | true =>
    rw [hb] at hs
    simp only [cond_true] at hs
    rw [Bool.and_eq_true, Nat.beq_eq] at hb
    obtain ⟨rfl, hb⟩ := hb
    have := eqArgsB_iff hb
    subst this
    split at hs
    case h_2 => cases hs
    rename_i u hu
    simp only [Option.some.injEq, Prod.mk.injEq] at hs
    obtain ⟨rfl, rfl⟩ := hs
    unfold pack at h
    split at h
    case h_2 => cases h
    rename_i v1 H1 hrun
    simp only [Option.some.injEq, Prod.mk.injEq] at h
    obtain ⟨rfl, h2⟩ := h
    refine BodyTo.calls (Zdl hE hgl hf (Zaj.anyPlain hp ha _) hrun) hw hr ?_
    rintro v2 H2 ⟨rfl, rfl⟩
    have hl : c.os.length = c.keep.length := by have := congrArg List.length h2; simpa using this.symm
    refine ⟨c.keep, hk, by simpa using hl, hu, fun j x hx => ?_⟩
    rw [List.getElem?_map] at hx
    obtain ⟨o, ho, rfl⟩ := Option.map_eq_some_iff.1 hx
    have hj : j < c.os.length := (List.getElem?_eq_some_iff.1 ho).1
    have h3 := congrArg (·[j]?) h2
    simp only [List.getElem?_map, ho, Option.map_some] at h3
    obtain ⟨i, hi, h4⟩ := Option.map_eq_some_iff.1 h3
    cases hg : H2.get i with
    | none => rw [hg] at h4; cases h4
    | some p =>
      rw [hg] at h4
      obtain ⟨r1, r2⟩ := mkO_robj (b := H.next) (keep := c.keep) h4
      refine ⟨i, p, hi, hg, r1, ?_⟩
      rw [r2]
      have := List.all_eq_true.1 hro o (List.mem_of_getElem? ho)
      simpa using this
end
end Go.Vai
end
