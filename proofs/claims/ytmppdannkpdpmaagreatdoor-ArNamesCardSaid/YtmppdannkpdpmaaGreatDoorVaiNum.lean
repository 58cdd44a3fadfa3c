/- strconv's numerals and strings.Join, by the shelf's contracts. -/
import Derived.Test.YtmppdannkpdpmaaGreatDoorVaiH
import Derived.Test.YtmppdannkpdpmaaGreatDoorVaiG
import Derived.Shelf.Strconv.Itoa4
import Derived.Shelf.Strings.OnBuilder
import Derived.Lib.AppendIntMem
section
namespace Go.Vai
open Go.RowKit
noncomputable section
theorem Zkj {w w' : World} (h : Below w.heap.size w w') : Keeps w w' := ⟨h.size, h.os, h.tape, h.output, h.block⟩
def Ziq (n : Int) : Bool := !(Yi n (.negSucc 9223372036854775807)) && !(Yi (.ofNat 9223372036854775807) n)
theorem Zp3 {n : Int} (h : Ziq n = true) : -9223372036854775808 ≤ n ∧ n ≤ 9223372036854775807 := by
  unfold Ziq at h
  simp only [Xn, Bool.and_eq_true, Bool.not_eq_true', decide_eq_false_iff_not] at h
  exact ⟨Int.not_lt.1 h.1, Int.not_lt.1 h.2⟩
theorem Z13 {P : Program} {gl : List (Nat × List AV)} {g : Nat} {av : List AV} {name : String} {zs : List Int} (hm : (g, av) ∈ gl) (hz : av = zs.map (AV.int .u64)) (hn : P.globalNamed name = some g) {w : World} (hw : Ya gl w) : Lib.TabIs P w name .u64 zs := by
  obtain ⟨cs, e, lo, hi, h1, h2⟩ := hw g av hm
  subst hz
  unfold Lib.TabIs World.var?
  rw [hn]
  simp only [Option.bind_some, h1, Option.some.injEq]
  have key : ∀ (zs : List Int) (l : List Value), Zs [] (zs.map (AV.int .u64)) l → l = zs.map fun z => Value.int .u64 z := by
    intro zs
    induction zs with
    | nil => intro l h; cases l with | nil => rfl | cons a l => exact h.elim
    | cons z zs ih =>
      intro l h
      cases l with
      | nil => exact h.elim
      | cons a l =>
        obtain ⟨h1, h2⟩ := h
        simp only [Zm] at h1
        rw [h1, ih l h2]; rfl
  rw [← key zs _ h2]
def Jn (g : Nat) : Sm := fun f args H => match args with
  | [.int .i64 n] => bif Nat.beq f g && Ziq n then some (.str (Lib.itoa n), H) else none
  | _ => none
section
variable {P : Program} {ρ : Shelf.Ren} {gl : List (Nat × List AV)}
theorem Zvj (L : Go.Proofs.LaysM.n171 P ρ) (ht : ∀ w, Ya gl w → Lib.TabIs P w "internal/strconv.uint64pow10" .u64 Lib.pow10Tab) : Vt P gl (Jn (ρ.f 171)) := by
  intro g args H v H' M w cargs hs hw hr ha
  unfold Jn at hs
  split at hs
  case h_2 => cases hs
  rename_i n
  cases hb : Nat.beq g (ρ.f 171) && Ziq n with
  | false => rw [hb] at hs; cases hs
  | true =>
    rw [hb] at hs
    simp only [cond_true, Option.some.injEq, Prod.mk.injEq] at hs
    obtain ⟨rfl, rfl⟩ := hs
    rw [Bool.and_eq_true, Nat.beq_eq] at hb
    obtain ⟨rfl, hn⟩ := hb
    obtain ⟨n0, n1⟩ := Zp3 hn
    match cargs, ha with
    | [x], ⟨h1, _⟩ =>
      simp only [Zm] at h1
      subst h1
      have e : ∀ args w, (callFunc (ρ.f 171) args).run P w = .ok (.enter (ρ.f 171) args) w := Go.Proofs.enters_of L.f171 (by kernel_rfl) rfl
      refine .inr ⟨e _ _, callsIn_wide.2 ((Go.Proofs.Any.strconv_Itoa L n n0 n1 w (ht w hw)).mono fun e w' he => ?_)⟩
      obtain ⟨rfl, k, os, rfl⟩ := he
      obtain ⟨x1, x2⟩ := (Zkj (Lib.below_grow w.heap.size w (Nat.le_refl _) k os)).ext hr
      exact ⟨_, _, M, rfl, x1, x2, by simp [Zm]⟩
end
section
variable {P : Program} {ρ : Shelf.Ren} {gl : List (Nat × List AV)}
end
end
end Go.Vai
end
