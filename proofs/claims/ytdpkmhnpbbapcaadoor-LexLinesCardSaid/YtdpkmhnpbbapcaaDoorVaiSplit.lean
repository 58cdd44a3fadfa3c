/- strings.Count and strings.Split at a separator of one byte, by the shelf's contracts. -/
import Derived.Test.YtdpkmhnpbbapcaaDoorVaiH
import Derived.Test.YtdpkmhnpbbapcaaDoorVaiLoop
import Derived.Shelf.Strings.Split
section
namespace Go.Vai
noncomputable section
def Zsg (b : UInt8) : List (List UInt8) → List (List UInt8)
  | [] => [[b]]
  | h :: t => (b :: h) :: t
def Zl (c : UInt8) : List UInt8 → List (List UInt8)
  | [] => [[]]
  | b :: r => if b = c then [] :: Zl c r else Zsg b (Zl c r)
theorem Zgk (c b : UInt8) (r : List UInt8) : Zl c (b :: r) = if b = c then [] :: Zl c r else Zsg b (Zl c r) := rfl
def V4 (c : UInt8) (b : UInt8) : Bool := !(Nat.beq b.toNat c.toNat)
theorem Zd1 {c b : UInt8} : V4 c b = true ↔ b ≠ c := by
  unfold V4
  rw [Bool.not_eq_true', Bool.eq_false_iff, ne_eq, Nat.beq_eq, UInt8.toNat_inj]
theorem Zmy (c : UInt8) : ∀ s : List UInt8, Zl c s = if Zi (V4 c) s < s.length then s.take (Zi (V4 c) s) :: Zl c (s.drop (Zi (V4 c) s + 1)) else [s]
  | [] => rfl
  | b :: r => by
    have ih := Zmy c r
    rw [Zgk]
    unfold Zi
    by_cases h : b = c
    · have hn : V4 c b = false := by rw [Bool.eq_false_iff, ne_eq, Zd1]; exact fun h2 => h2 h
      rw [if_pos h, hn]
      simp
    · rw [if_neg h, Zd1.2 h, ih]
      simp only [cond_true, List.length_cons]
      by_cases h2 : Zi (V4 c) r < r.length
      · rw [if_pos h2, if_pos (by omega)]
        simp [Zsg]
      · rw [if_neg h2, if_neg (by omega)]
        rfl
theorem J0 (c : UInt8) : ∀ s : List UInt8, (Zl c s).length = s.count c + 1
  | [] => rfl
  | b :: r => by
    have ih := J0 c r
    rw [Zgk]
    by_cases h : b = c
    · subst h
      rw [if_pos rfl, List.length_cons, ih, List.count_cons_self]
    · rw [if_neg h, List.count_cons_of_ne (by simpa using h), ← ih]
      cases hc : Zl c r with
      | nil => rw [hc] at ih; simp at ih
      | cons x t => rfl
theorem Zls (c : UInt8) : ∀ s : List UInt8, Lib.index s [c] = if Zi (V4 c) s < s.length then (Zi (V4 c) s : Int) else -1
  | [] => by rw [Lib.index_one]; rfl
  | b :: r => by
    have ih := Zls c r
    rw [Lib.index_one] at ih ⊢
    unfold Lib.indexByte Zi
    by_cases h : b = c
    · have hn : V4 c b = false := by rw [Bool.eq_false_iff, ne_eq, Zd1]; exact fun h2 => h2 h
      rw [if_pos (by simpa using h), hn]
      simp
    · rw [if_neg (by simpa using h), Zd1.2 h, ih]
      simp only [cond_true, List.length_cons]
      by_cases h2 : Zi (V4 c) r < r.length
      · rw [if_pos h2, if_neg (by simp), if_pos (by omega)]
        push_cast; rfl
      · rw [if_neg h2, if_pos (by rfl), if_neg (by omega)]
theorem Zhg (c : UInt8) : ∀ s : List UInt8, s.count c = if Zi (V4 c) s < s.length then (s.drop (Zi (V4 c) s + 1)).count c + 1 else 0
  | [] => rfl
  | b :: r => by
    have ih := Zhg c r
    unfold Zi
    by_cases h : b = c
    · have hn : V4 c b = false := by rw [Bool.eq_false_iff, ne_eq, Zd1]; exact fun h2 => h2 h
      subst h
      rw [hn]
      simp
    · rw [List.count_cons_of_ne (by simpa using h), Zd1.2 h, ih]
      simp only [cond_true, List.length_cons, List.drop_succ_cons]
      by_cases h2 : Zi (V4 c) r < r.length
      · rw [if_pos h2, if_pos (by omega)]
      · rw [if_neg h2, if_neg (by omega)]
theorem Zkz (c : UInt8) : ∀ (n : Nat) (s : List UInt8), s.length ≤ n → Lib.splitK [c] 0 (s.count c) s = Zl c s
  | n, s, hn => by
    rw [Zmy]
    by_cases h : Zi (V4 c) s < s.length
    · have hc := Zhg c s
      rw [if_pos h] at hc
      rw [if_pos h, hc]
      unfold Lib.splitK
      have hi := Zls c s
      rw [if_pos h] at hi
      rw [hi, if_neg (by simp)]
      cases n with
      | zero => omega
      | succ n =>
        simp only [Int.toNat_natCast, Nat.add_zero, List.length_cons, List.length_nil]
        rw [Zkz c n _ (by rw [List.length_drop]; omega)]
    · have hc := Zhg c s
      rw [if_neg h] at hc
      rw [if_neg h, hc]
      rfl
termination_by n => n
def Zay (f : Nat) : Sm := fun g args H => match args with
  | [.str a, .str [c]] => bif Nat.beq g f && Nat.blt a.length 4294967281 then some (.int .i64 (.ofNat (a.count c)), H) else none
  | _ => none
def Zaq (f ty : Nat) : Sm := fun g args H => match args with
  | [.str a, .str [c]] => bif Nat.beq g f && Nat.blt a.length 4294967281 then some (.sl H.next 0 (Zl c a).length (some (Zl c a).length), Xx H ty ((Zl c a).map .str)) else none
  | _ => none
theorem Z27 {P : Program} {ρ : Shelf.Ren} (L : Go.Proofs.Lays.n138 P ρ) {gl : List (Nat × List AV)} : Qm P gl (Zay (ρ.f 138)) := by
  intro g args H v H' M w cargs hs hw hr ha
  unfold Zay at hs
  split at hs
  case h_2 => cases hs
  rename_i a c
  rw [Bool.cond_eq_ite] at hs
  split at hs
  case isFalse => cases hs
  rename_i hb
  simp only [Option.some.injEq, Prod.mk.injEq] at hs
  obtain ⟨rfl, rfl⟩ := hs
  rw [Bool.and_eq_true, Nat.beq_eq, Nat.blt_eq] at hb
  obtain ⟨rfl, hl⟩ := hb
  match cargs, ha with
  | [x, y], ha =>
    obtain ⟨h1, h2, _⟩ := ha
    simp only [Zj] at h1 h2
    subst h1; subst h2
    have e : ∀ args w, (callFunc (ρ.f 138) args).run P w = .ok (.enter (ρ.f 138) args) w := Go.Proofs.enters_of L.f138 (by kernel_rfl) rfl
    refine .inr ⟨e _ _, callsIn_wide.2 ((Go.Proofs.Any.strings_Count_one L ⟨a.toArray⟩ c w).mono fun e w' he => ?_)⟩
    obtain ⟨rfl, rfl⟩ := he
    obtain ⟨x1, x2⟩ := (Keeps.refl w').ext hr
    exact ⟨_, _, M, rfl, x1, x2, by simp [Zj, Lib.countByte]⟩
theorem Zzd {P : Program} {ρ : Shelf.Ren} (L : Go.Proofs.Lays.n146 P ρ) (hi9 : (P.info? (ρ.t 9)).map (fun i => (i.zero, i.size, i.bytes)) = some (some (.string ByteArray.empty), 1, 16)) {gl : List (Nat × List AV)} (hg : (ρ.g 1, [.opq (some .i64)]) ∈ gl) : Qm P gl (Zaq (ρ.f 146) (ρ.t 9)) := by
  intro g args H v H' M w cargs hs hw hr ha
  unfold Zaq at hs
  split at hs
  case h_2 => cases hs
  rename_i a c
  rw [Bool.cond_eq_ite] at hs
  split at hs
  case isFalse => cases hs
  rename_i hb
  simp only [Option.some.injEq, Prod.mk.injEq] at hs
  obtain ⟨rfl, rfl⟩ := hs
  rw [Bool.and_eq_true, Nat.beq_eq, Nat.blt_eq] at hb
  obtain ⟨rfl, hl⟩ := hb
  match cargs, ha with
  | [x, y], ha =>
    obtain ⟨h1, h2, _⟩ := ha
    simp only [Zj] at h1 h2
    subst h1; subst h2
    obtain ⟨m, hm⟩ := Z4u hg hw
    have e : ∀ args w, (callFunc (ρ.f 146) args).run P w = .ok (.enter (ρ.f 146) args) w := Go.Proofs.enters_of L.f146 (by kernel_rfl) rfl
    have hcut : (Lib.splitB ⟨#[c]⟩ 0 (Lib.countB ⟨a.toArray⟩ ⟨#[c]⟩) ⟨a.toArray⟩).map (fun x => x.data.toList) = Zl c a := by
      rw [Lib.splitB_data]
      show Lib.splitK [c] 0 (Lib.count a [c]) a = _
      rw [Lib.count_one]
      exact Zkz c _ a (Nat.le_refl _)
    have hcnt : Lib.countB ⟨a.toArray⟩ ⟨#[c]⟩ + 1 = (Zl c a).length := by
      rw [J0]
      show Lib.count a [c] + 1 = _
      rw [Lib.count_one]
    refine .inr ⟨e _ _, callsIn_wide.2 ((Go.Proofs.Any.strings_Split L hi9 ⟨a.toArray⟩ ⟨#[c]⟩ m w (by simpa [ByteArray.size] using hl) hm (Nat.le_refl 1)).mono fun e w' he => ?_)⟩
    obtain ⟨rfl, rfl⟩ := he
    have hv : Zq M ((Zl c a).map .str) ((Lib.splitB ⟨#[c]⟩ 0 (Lib.countB ⟨a.toArray⟩ ⟨#[c]⟩) ⟨a.toArray⟩).map Value.string) := by
      rw [← hcut]
      generalize Lib.splitB ⟨#[c]⟩ 0 (Lib.countB ⟨a.toArray⟩ ⟨#[c]⟩) ⟨a.toArray⟩ = l
      induction l with
      | nil => trivial
      | cons x l ih => exact ⟨by simp [Zj], ih⟩
    obtain ⟨n1, n2⟩ := Q7 hr (ρ.t 9) hv
    refine ⟨_, _, _, rfl, n2, n1, ⟨⟨w.heap.size, 0, 0, 0⟩, (Zl c a).length, ?_, ?_, fun d h => (by cases h; rfl), fun h => by cases h⟩⟩
    · rw [← hr.len]; simp
    · rw [hcnt]
end
end Go.Vai
end
