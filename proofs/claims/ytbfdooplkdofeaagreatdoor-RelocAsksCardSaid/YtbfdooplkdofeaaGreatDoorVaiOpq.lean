/- Calls of whose first answer, a row, nothing is asked. -/
import Derived.Test.YtbfdooplkdofeaaGreatDoorVaiH
section
namespace Go.Vai
noncomputable section
def weakV : AV → AV
  | .tup [.sl _ _ _ _, y] => .tup [.opq none, y]
  | .tup [.nils, y] => .tup [.opq none, y]
  | v => v
theorem weak_rel {M : List MEnt} {v : AV} {cv : Value} (h : VRel M v cv) : VRel M (weakV v) cv := by
  unfold weakV
  split
  · obtain ⟨vs, e, h⟩ := h
    match vs, h with
    | [a, b], ⟨h1, h2, _⟩ =>
      obtain ⟨m, cc, _, rfl, _⟩ := h1
      exact ⟨_, e, ⟨fun cs e => (by cases e), fun vs e => (by cases e), fun k e => (by cases e)⟩, h2, trivial⟩
  · obtain ⟨vs, e, h⟩ := h
    match vs, h with
    | [a, b], ⟨h1, h2, _⟩ =>
      simp only [VRel] at h1
      subst h1
      exact ⟨_, e, ⟨fun cs e => (by cases e), fun vs e => (by cases e), fun k e => (by cases e)⟩, h2, trivial⟩
  · exact h
def jO : TRes → Orc → Option AV
  | .call (.ret v _), _ => rnV 0 [] (weakV v)
  | _, _ => none
section
variable {P : Program} {gl : List (Nat × List AV)}
theorem opq_okS {F : Nat → List AV → Option AV}
    (hF : ∀ f args v, F f args = some v → ∃ (E : Env) (n : Nat) (s : Smk AV) (pn : Pin), SmkOk E s ∧ (∀ w, Zay gl w → EnvOk E P (Kept gl w)) ∧ (gl.all fun x => Nat.blt x.1 E.ng) = true ∧ (E.fn f).isSome = true ∧ (∀ a ∈ args, Plain a) ∧ ∃ o, Zcq E s pn n (.call f args (Zap E.ng gl)) o jO = some v) : SmOk P gl (Zaz F) := by
  intro f args H v H' M w cargs hs hw hr ha
  unfold Zaz at hs
  cases hF' : F f args with
  | none => rw [hF'] at hs; cases hs
  | some u =>
    rw [hF'] at hs
    have hs : some (u, H) = some (v, H') := hs
    simp only [Option.some.injEq, Prod.mk.injEq] at hs
    obtain ⟨rfl, rfl⟩ := hs
    obtain ⟨E, n, s, pn, hs, hE, hgl, h1, h2, o, h3⟩ := hF f args _ hF'
    obtain ⟨x, o', e, hk⟩ := callPS_ok E hs pn n _ _ _ _ h3
    cases x with
    | code a b c => cases hk
    | dcall a => cases hk
    | call c =>
      cases c with
      | pan v H => cases hk
      | ret v1 H1 =>
        have hk : rnV 0 [] (weakV v1) = some u := hk
        have b : BodyTo P gl f cargs fun x _ => x = weakV v1 := fun w hw => by
          obtain ⟨b1, b2⟩ := Zdl hE hgl h1 (Zaj.anyPlain h2 ha _) e w hw
          refine ⟨b1, CallsIn.mono b2 ?_⟩
          rintro e w' ⟨cv, v2, H2, M2, rfl, x1, x2, x3, rfl, rfl⟩
          exact ⟨cv, _, _, M2, rfl, x1, x2, weak_rel x3, rfl⟩
        refine BodyTo.calls (os := []) b hw hr ?_
        rintro v2 H2 rfl
        exact ⟨[], List.nodup_nil, rfl, by rw [rnV_nil]; exact hk, fun j x hx => by simp at hx⟩
end
end
end Go.Vai
end
