/- A call that reads rows which it is handed and answers with a new row, by a run from known memory; a row's copy. -/
import Derived.Test.YtmppdannkpdpmaaGreatDoorVaiView2
import Derived.Test.YtmppdannkpdpmaaGreatDoorVaiH
section
namespace Go.Vai
noncomputable section
variable {P : Program} {gl : List (Nat × List AV)} {E : Env}
theorem Zi1 {vs : List AV} {o : Nat} (h : o + vs.length < 2 ^ 47) : ∀ (n k : Nat), k + n ≤ vs.length → (Tr.nil.putAll o vs).getAll (o + k) n = some ((vs.drop k).take n)
  | 0, k, _ => by simp [Tr.getAll_zero]
  | n + 1, k, hk => by
    have e : (Tr.nil.putAll o vs).get (o + k) = some (vs[k]'(by omega)) := by
      rw [J7 _ _ _ _ (by omega), if_pos (by omega), show o + k - o = k by omega, List.getElem?_eq_getElem (by omega)]
    rw [Tr.getAll_succ, e]
    simp only []
    rw [Nat.add_assoc, Zi1 h n (k + 1) (by omega)]
    simp only [Option.some.injEq]
    rw [List.drop_eq_getElem_cons (by omega : k < vs.length), List.take_succ_cons]
theorem Zcf {T : Tr AV} : ∀ {n o : Nat} {l : List AV}, T.getAll o n = some l → l.length = n
  | 0, o, l, h => by rw [Tr.getAll_zero] at h; cases h; rfl
  | n + 1, o, l, h => by
    rw [Tr.getAll_succ] at h
    cases h1 : T.get o with
    | none => rw [h1] at h; cases h
    | some v =>
      rw [h1] at h
      cases h2 : T.getAll (o + 1) n with
      | none => rw [h2] at h; cases h
      | some m =>
        rw [h2] at h
        cases h
        rw [List.length_cons, Zcf h2]
theorem Zcj {T : Tr AV} : ∀ {n o : Nat} {l : List AV}, T.getAll o n = some l → ∀ j, j < n → T.get (o + j) = l[j]?
  | 0, o, l, h, j, hj => by omega
  | n + 1, o, l, h, j, hj => by
    rw [Tr.getAll_succ] at h
    cases h1 : T.get o with
    | none => rw [h1] at h; cases h
    | some v =>
      rw [h1] at h
      cases h2 : T.getAll (o + 1) n with
      | none => rw [h2] at h; cases h
      | some m =>
        rw [h2] at h
        cases h
        cases j with
        | zero => rw [Nat.add_zero, h1]; rfl
        | succ j =>
          have := Zcj h2 j (by omega)
          rw [show o + (j + 1) = o + 1 + j by omega, this]; rfl
end
end Go.Vai
end
