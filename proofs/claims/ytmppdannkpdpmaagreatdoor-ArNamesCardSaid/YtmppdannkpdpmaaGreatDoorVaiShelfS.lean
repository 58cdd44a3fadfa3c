/- strings.Repeat, strings.TrimRight (one byte), strings.Cut by the shelf's contracts. -/
import Derived.Test.YtmppdannkpdpmaaGreatDoorVaiH
import Derived.Test.YtmppdannkpdpmaaGreatDoorVaiLoop
import Derived.Shelf.Strings.Repeat
import Derived.Shelf.Strings.Trim
import Derived.Shelf.Strings.Cut
section
namespace Go.Vai
open Go.RowKit
noncomputable section
theorem Zdv {w w' : World} (h : Below w.heap.size w w') : Keeps w w' := ⟨h.size, h.os, h.tape, h.output, h.block⟩
def Je (g : Nat) : Sm := fun f args H => match args with
  | [.str s, .int .i64 (.ofNat c)] => bif Nat.beq f g && (Nat.ble c 1048576 && Nat.ble (Za s) 1048576) then some (.str (Lib.repeatL s c), H) else none
  | _ => none
def Q0 (g : Nat) : Sm := fun f args H => match args with
  | [.str s, .str [c]] => bif Nat.beq f g && (Nat.blt c.toNat 128 && Nat.ble (Za s) 4294967280) then some (.str (Lib.trimRightB s c), H) else none
  | _ => none
def Zdk (g : Nat) : Sm := fun f args H => match args with
  | [.str s, .str sep] => bif Nat.beq f g && Nat.blt (Za s) 4294967281 then some (.tup [.str (Lib.cut s sep).1, .str (Lib.cut s sep).2.1, .bool (Lib.cut s sep).2.2], H) else none
  | _ => none
section
variable {P : Program} {ρ : Shelf.Ren} {gl : List (Nat × List AV)}
theorem Zqc (L : Go.Proofs.Lays.n105 P ρ) (X : Go.Proofs.Builder.Extra P ρ) : Vt P gl (Je (ρ.f 105)) := by
  intro g args H v H' M w cargs hs hw hr ha
  unfold Je at hs
  split at hs
  case h_2 => cases hs
  rename_i s c
  rw [Bool.cond_eq_ite] at hs
  split at hs
  case isFalse => cases hs
  rename_i hb
  simp only [Option.some.injEq, Prod.mk.injEq] at hs
  obtain ⟨rfl, rfl⟩ := hs
  simp only [Bool.and_eq_true, Nat.beq_eq, Nat.ble_eq] at hb
  obtain ⟨rfl, hc, hl⟩ := hb
  have hl : s.length ≤ 1048576 := hl
  match cargs, ha with
  | [x, y], ha =>
    obtain ⟨h1, h2, _⟩ := ha
    simp only [Zm] at h1 h2
    subst h1; subst h2
    have e : ∀ args w, (callFunc (ρ.f 105) args).run P w = .ok (.enter (ρ.f 105) args) w := Go.Proofs.enters_of L.f105 (by kernel_rfl) rfl
    have hm : s.length * c ≤ 1048576 * 1048576 := Nat.mul_le_mul hl hc
    refine .inr ⟨e _ _, callsIn_wide.2 ((Go.Proofs.Any.strings_Repeat L X ⟨s.toArray⟩ c w (by omega) (by show s.toArray.size * c ≤ _; rw [List.size_toArray]; omega)).mono fun e w' he => ?_)⟩
    obtain ⟨rfl, hbel⟩ := he
    obtain ⟨x1, x2⟩ := (Zdv hbel).ext hr
    exact ⟨_, _, M, rfl, x1, x2, by simp [Zm]⟩
theorem Zur (L : Go.Proofs.Lays.n162 P ρ) : Vt P gl (Q0 (ρ.f 162)) := by
  intro g args H v H' M w cargs hs hw hr ha
  unfold Q0 at hs
  split at hs
  case h_2 => cases hs
  rename_i s c
  rw [Bool.cond_eq_ite] at hs
  split at hs
  case isFalse => cases hs
  rename_i hb
  simp only [Option.some.injEq, Prod.mk.injEq] at hs
  obtain ⟨rfl, rfl⟩ := hs
  simp only [Bool.and_eq_true, Nat.beq_eq, Nat.ble_eq, Nat.blt_eq] at hb
  obtain ⟨rfl, hc, hl⟩ := hb
  have hl : s.length ≤ 4294967280 := hl
  match cargs, ha with
  | [x, y], ha =>
    obtain ⟨h1, h2, _⟩ := ha
    simp only [Zm] at h1 h2
    subst h1; subst h2
    have e : ∀ args w, (callFunc (ρ.f 162) args).run P w = .ok (.enter (ρ.f 162) args) w := Go.Proofs.enters_of L.f162 (by kernel_rfl) rfl
    refine .inr ⟨e _ _, callsIn_wide.2 ((Go.Proofs.Any.strings_TrimRight_one L ⟨s.toArray⟩ c hc w (by show s.toArray.size ≤ _; rw [List.size_toArray]; omega)).mono fun e w' he => ?_)⟩
    obtain ⟨rfl, rfl⟩ := he
    obtain ⟨x1, x2⟩ := (Keeps.refl w').ext hr
    exact ⟨_, _, M, rfl, x1, x2, by simp [Zm]⟩
theorem Z1n (L : Go.Proofs.Lays.n145 P ρ) (hg : (ρ.g 1, [.opq (some .i64)]) ∈ gl) : Vt P gl (Zdk (ρ.f 145)) := by
  intro g args H v H' M w cargs hs hw hr ha
  unfold Zdk at hs
  split at hs
  case h_2 => cases hs
  rename_i s sep
  rw [Bool.cond_eq_ite] at hs
  split at hs
  case isFalse => cases hs
  rename_i hb
  simp only [Option.some.injEq, Prod.mk.injEq] at hs
  obtain ⟨rfl, rfl⟩ := hs
  simp only [Bool.and_eq_true, Nat.beq_eq, Nat.blt_eq] at hb
  obtain ⟨rfl, hl⟩ := hb
  match cargs, ha with
  | [x, y], ha =>
    obtain ⟨h1, h2, _⟩ := ha
    simp only [Zm] at h1 h2
    subst h1; subst h2
    obtain ⟨m, hm⟩ := Zmb hg hw
    have e : ∀ args w, (callFunc (ρ.f 145) args).run P w = .ok (.enter (ρ.f 145) args) w := Go.Proofs.enters_of L.f145 (by kernel_rfl) rfl
    refine .inr ⟨e _ _, callsIn_wide.2 ((Go.Proofs.Any.strings_Cut L ⟨s.toArray⟩ ⟨sep.toArray⟩ m w (by show s.toArray.size < _; rw [List.size_toArray]; exact hl) hm).mono fun e w' he => ?_)⟩
    obtain ⟨rfl, n, rfl⟩ := he
    obtain ⟨x1, x2⟩ := (Zdv (⟨rfl, rfl, rfl, Nat.le_refl _, fun _ _ => rfl⟩ : Below w.heap.size w (w.drewN n))).ext hr
    exact ⟨_, _, M, rfl, x1, x2, by simp [Zm, Zs]⟩
end
end
end Go.Vai
end
