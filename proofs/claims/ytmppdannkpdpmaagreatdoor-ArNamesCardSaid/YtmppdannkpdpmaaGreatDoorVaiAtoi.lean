/- strconv.Atoi of a numeral, by the shelf's contract. -/
import Derived.Test.YtmppdannkpdpmaaGreatDoorVaiShelfS
import Derived.Shelf.Strconv.AtoiAll
import Derived.Lib.AtoiErrMem
section
namespace Go.Vai
open Go.RowKit
noncomputable section
def Zaa (g : Nat) : Sm := fun f args H => match args with
  | [.str s] => bif Nat.beq f g && Nat.ble (Za s) 4294967280 then (match Lib.atoiAll s with
    | .ok v => some (.tup [.int .i64 v, .nili], H)
    | _ => none) else none
  | _ => none
section
variable {P : Program} {ρ : Shelf.Ren} {gl : List (Nat × List AV)}
theorem Zwh (L : Go.Proofs.LaysC.n172 P ρ) : Vt P gl (Zaa (ρ.f 172)) := by
  intro g args H v H' M w cargs hs hw hr ha
  unfold Zaa at hs
  split at hs
  case h_2 => cases hs
  rename_i s
  rw [Bool.cond_eq_ite] at hs
  split at hs
  case isFalse => cases hs
  rename_i hb
  split at hs
  case h_2 => cases hs
  rename_i n hn
  simp only [Option.some.injEq, Prod.mk.injEq] at hs
  obtain ⟨rfl, rfl⟩ := hs
  simp only [Bool.and_eq_true, Nat.beq_eq, Nat.ble_eq] at hb
  obtain ⟨rfl, hl⟩ := hb
  have hl : s.length ≤ 4294967280 := hl
  match cargs, ha with
  | [x], ha =>
    obtain ⟨h1, _⟩ := ha
    simp only [Zm] at h1
    subst h1
    have e : ∀ args w, (callFunc (ρ.f 172) args).run P w = .ok (.enter (ρ.f 172) args) w := Go.Proofs.enters_of L.f172 (by kernel_rfl) rfl
    refine .inr ⟨e _ _, callsIn_wide.2 ((Go.Proofs.Any.strconv_Atoi_ok L ⟨s.toArray⟩ (by show s.toArray.size ≤ _; rw [List.size_toArray]; omega) n hn w).mono fun e w' he => ?_)⟩
    obtain ⟨rfl, he⟩ := he
    have hbel : Below w.heap.size w w' := by
      rcases he with rfl | ⟨t, rfl⟩
      · exact ⟨rfl, rfl, rfl, Nat.le_refl _, fun _ _ => rfl⟩
      · exact Lib.bytesWorld_below w (ρ.t 5) t
    obtain ⟨x1, x2⟩ := (Zdv hbel).ext hr
    exact ⟨_, _, M, rfl, x1, x2, by simp [Zm, Zs]⟩
end
end
end Go.Vai
end
