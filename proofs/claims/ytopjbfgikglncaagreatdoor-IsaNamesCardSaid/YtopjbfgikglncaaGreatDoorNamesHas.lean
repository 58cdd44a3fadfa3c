/- compact's row.has as a summary. -/
import Derived.Test.YtopjbfgikglncaaGreatDoorNamesHasC0
import Derived.Test.YtopjbfgikglncaaGreatDoorNamesHasC1
import Derived.Test.YtopjbfgikglncaaGreatDoorNamesHasC2
import Derived.KernelRfl
namespace Go.Proofs.YtopjbfgikglncaaGreatDoor
open Go Go.Vai
noncomputable section
def RH : List HRow := RH0 ++ RH1 ++ RH2 ++ RH3 ++ RH4
theorem rh_all {x : HRow} (h : x ∈ RH) : chkH x = true := by
  unfold RH at h
  simp only [List.mem_append] at h
  rcases h with (((h | h) | h) | h) | h
  · exact List.all_eq_true.1 rh0_all x h
  · exact List.all_eq_true.1 rh1_all x h
  · exact List.all_eq_true.1 rh2_all x h
  · exact List.all_eq_true.1 rh3_all x h
  · exact List.all_eq_true.1 rh4_all x h
def lookC (c : Nat) : List (Nat × Bool × Bool) → Option AV
  | [] => none
  | y :: t => bif Nat.beq c y.1 then some (.tup [.bool y.2.1, .bool y.2.2]) else lookC c t
def lookH (r : List AV) (c : Nat) : List HRow → Option AV
  | [] => none
  | x :: t => bif eqPlains x.1 r then lookC c x.2 else lookH r c t
theorem lookC_mem {c : Nat} {v : AV} : ∀ {l : List (Nat × Bool × Bool)}, lookC c l = some v → ∃ y ∈ l, c = y.1 ∧ v = .tup [.bool y.2.1, .bool y.2.2]
  | [], h => by cases h
  | y :: t, h => by
    simp only [lookC, Bool.cond_eq_ite, Nat.beq_eq] at h
    split at h
    · rename_i e
      simp only [Option.some.injEq] at h
      exact ⟨y, List.mem_cons_self, e, h.symm⟩
    · obtain ⟨z, hz, e⟩ := lookC_mem h
      exact ⟨z, List.mem_cons_of_mem _ hz, e⟩
theorem lookH_mem {r : List AV} {c : Nat} {v : AV} : ∀ {l : List HRow}, lookH r c l = some v → ∃ x ∈ l, eqPlains x.1 r = true ∧ lookC c x.2 = some v
  | [], h => by cases h
  | x :: t, h => by
    simp only [lookH] at h
    cases e : eqPlains x.1 r with
    | true => rw [e] at h; exact ⟨x, List.mem_cons_self, e, h⟩
    | false =>
      rw [e] at h
      obtain ⟨z, hz, e⟩ := lookH_mem h
      exact ⟨z, List.mem_cons_of_mem _ hz, e⟩
def FH : Nat → List AV → Option AV := fun f args => match args with
  | [.agg r, .int .u8 (.ofNat c)] => bif Nat.beq f 133 then lookH r c RH else none
  | _ => none
theorem has_fn : (E1.fn 133).isSome = true := by kernel_rfl
theorem fh_ok (f : Nat) (args : List AV) (v : AV) (h : FH f args = some v) : ∃ (E : Env) (n : Nat), (∀ w, GlobOk gl w → EnvOk E Tryz.prog (Kept gl w)) ∧ (gl.all fun x => Nat.blt x.1 E.ng) = true ∧ (E.fn f).isSome = true ∧ (∀ a ∈ args, Plain a) ∧ ∃ o, callP E n (.call f args (gHeap E.ng gl)) o jK = some v := by
  unfold FH at h
  split at h
  case h_2 => cases h
  rename_i r c
  simp only [Bool.cond_eq_ite, Nat.beq_eq] at h
  split at h
  case isFalse => cases h
  rename_i hf
  subst hf
  obtain ⟨x, hx, e, h2⟩ := lookH_mem h
  have hp := plain_agg e
  have := eqPlains_iff e
  subst this
  obtain ⟨y, hy, rfl, rfl⟩ := lookC_mem h2
  have h3 := eqOB_of (List.all_eq_true.1 (rh_all hx) y hy)
  refine ⟨E1, 100000, e1_ok, gl_ok, has_fn, fun a ha => ?_, [], h3⟩
  rcases List.mem_cons.1 ha with rfl | ha
  · exact hp
  · obtain rfl := List.mem_singleton.1 ha
    exact plain_int _ _
def E2 : Env := envOf Tryz.prog 12 [133] (orSm (extSm kinds) (plainSm FH))
theorem e2_ok (w : World) (hw : GlobOk gl w) : EnvOk E2 Tryz.prog (Kept gl w) := envOk_sm (by kernel_rfl) ((smOk_ext ext_ok).or (plain_ok fh_ok)) mixed_ok (fun _ _ _ h => h.1) (kept_carried hw).ext
end
end Go.Proofs.YtopjbfgikglncaaGreatDoor
