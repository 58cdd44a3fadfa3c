/- What Line answers: a fault, no words, words. -/
import Derived.Test.YtdpkmhnpbbapcaaDoorLnStep
import Derived.KernelRfl
namespace Go.Proofs.YtdpkmhnpbbapcaaDoor
open Go Go.Vai
noncomputable section
set_option maxRecDepth 100000
def Zdh (s : List UInt8) : Nat := (Ye s).1.length
def Znu (s : List UInt8) : Tr AV := WT (Ye s).1
def Zs1 (s : List UInt8) : Nat := (Ye s).2.1
def Zg1 (s : List UInt8) : Nat := (Ye s).2.2
def Zh1 (s : List UInt8) : Bool := Nat.blt (Zb s) 1048576 && !(Nat.beq (Ye s).2.2 0)
def Zhs (s : List UInt8) : Bool := Nat.blt (Zb s) 1048576 && (Nat.beq (Ye s).2.2 0 && Nat.beq (Ye s).1.length 0)
def Zht (s : List UInt8) : Bool := Nat.blt (Zb s) 1048576 && (Nat.beq (Ye s).2.2 0 && !(Nat.beq (Ye s).1.length 0))
theorem Z26 {s : List UInt8} (h : Nat.beq (Ye s).2.2 0 = true) : Ye s = ((Ye s).1, 0, 0) := by
  have h1 := Nat.eq_of_beq_eq_true h
  have h2 := (Qo (s.length + 1) s 0).1 h1
  show Ye s = _
  unfold Ye at h1 h2 ⊢
  generalize Vx (s.length + 1) s 0 = x at h1 h2 ⊢
  obtain ⟨a, b, c⟩ := x
  simp only at h1 h2
  rw [h1, h2]
theorem Ycd (H : AHeap) {s : List UInt8} (h : (!(Nat.beq (Ye s).2.2 0)) = true) : Zdn H s = (.tup [.nils, .int .i64 (.ofNat (Zs1 s)), .int .i64 (.ofNat (Zg1 s))], H) := by
  have h1 : (Ye s).1 = [] := (Qo (s.length + 1) s 0).2 fun e => by rw [show (Ye s).2.2 = 0 from e] at h; cases h
  unfold Zdn Zs1 Zg1
  generalize Ye s = x at h1 ⊢
  obtain ⟨a, b, c⟩ := x
  simp only at h1
  subst h1; rfl
theorem Yb8 (H : AHeap) {s : List UInt8} (h : Nat.beq (Ye s).2.2 0 = true ∧ Nat.beq (Ye s).1.length 0 = true) : Zdn H s = (.tup [.nils, .int .i64 (.ofNat 0), .int .i64 (.ofNat 0)], H) := by
  have h1 := Z26 h.1
  have h2 := List.eq_nil_of_length_eq_zero (Nat.eq_of_beq_eq_true h.2)
  unfold Zdn
  rw [h1, h2]
theorem Ydp (H : AHeap) {s : List UInt8} (h : Nat.beq (Ye s).2.2 0 = true ∧ (!(Nat.beq (Ye s).1.length 0)) = true) : Zdn H s = (.tup [.sl H.next 0 (Zdh s) none, .int .i64 (.ofNat 0), .int .i64 (.ofNat 0)], H.new (.cells (Nat.mul (Zdh s) 4) (Znu s) 31 (some 4) 0 false false)) := by
  have h1 := Z26 h.1
  have h2 := h.2
  unfold Zdn Zdh Znu
  generalize (Ye s).1 = a at h1 h2 ⊢
  rw [h1]
  cases a with
  | nil => simp at h2
  | cons p a => rfl
theorem Zpi {s : List UInt8} (hs : s.length < 1048576) (h : (Ye s).2.2 ≠ 0) : Zh1 s = true := by unfold Zh1; rw [show Nat.blt (Zb s) 1048576 = true from Zm hs, J2 h]; rfl
theorem Zgb {s : List UInt8} (hs : s.length < 1048576) (h : (Ye s).2.2 = 0) (h2 : (Ye s).1 = []) : Zhs s = true := by unfold Zhs; rw [show Nat.blt (Zb s) 1048576 = true from Zm hs, h, h2]; rfl
theorem Zfg {s : List UInt8} (hs : s.length < 1048576) (h : (Ye s).2.2 = 0) (h2 : (Ye s).1 ≠ []) : Zht s = true := by
  unfold Zht
  rw [show Nat.blt (Zb s) 1048576 = true from Zm hs, h, J2 (fun e => h2 (List.eq_nil_of_length_eq_zero e))]; rfl
def Zk4 (args : List AV) (H : AHeap) : Option (AV × AHeap) := match args with
  | [.str s] => bif Nat.blt (Zb s) 1048576 then some (Zdn H s) else none
  | _ => none
theorem Zhk (args : List AV) (H : AHeap) : Zkt 9 args H = Zk4 args H := by
  unfold Zkt Zk4
  split <;> simp
theorem Zka (args : List AV) (H : AHeap) : Zbr 13 args H = Zk4 args H := by
  unfold Zbr Zk4
  split <;> simp
def Zqz (s : List UInt8) : Bool := Nat.blt s.length 4294967281
def Zuv (s : List UInt8) : Bool := Nat.blt (Zb s) 4294967290
def Zq1 (s : List UInt8) : Nat := (Zl 10 s).length
def Yct (s : List UInt8) : Tr AV := Ki (Zl 10 s)
theorem Zf6 (c : UInt8) : ∀ (s p : List UInt8), p ∈ Zl c s → p.length ≤ s.length
  | [], p, h => by
    obtain rfl := List.mem_singleton.1 h
    exact Nat.le_refl _
  | b :: r, p, h => by
    have ih := Zf6 c r
    rw [Zgk] at h
    split at h
    · rcases List.mem_cons.1 h with rfl | h
      · exact Nat.zero_le _
      · have := ih p h
        simp only [List.length_cons]; omega
    · cases hc : Zl c r with
      | nil =>
        rw [hc] at h
        obtain rfl := List.mem_singleton.1 h
        simp
      | cons x t =>
        rw [hc] at h
        rcases List.mem_cons.1 h with rfl | h
        · have := ih x (by rw [hc]; exact List.mem_cons_self)
          simp only [List.length_cons]; omega
        · have := ih p (by rw [hc]; exact List.mem_cons_of_mem _ h)
          simp only [List.length_cons]; omega
theorem W8 (L : List (List UInt8)) : noT (Ki L) := Ze7 Zuz fun v hv => by
  obtain ⟨b, _, rfl⟩ := List.mem_map.1 hv
  rfl
theorem Z4o {L : List (List UInt8)} {k : Nat} {p : List UInt8} (hl : L.length < 1099511627776) (h : L[k]? = some p) : Tr.get (Ki L) (Yl k) = some (.str p) := by
  have hk := (List.getElem?_eq_some_iff.1 h).1
  rw [Zrs]
  unfold Ki
  rw [Ws _ _ _ _ (by rw [List.length_map]; omega), if_pos (by rw [List.length_map]; omega), Nat.sub_zero, List.getElem?_map, h]; rfl
def Zbo (s : List UInt8) : Prop := 262144 < s.length ∨ 16384 < s.count 10 + 1
def Zgc (s : List UInt8) (k : Nat) : Prop := ∀ (j : Nat) p, j < k → (Zl 10 s)[j]? = some p → (Ye p).2.2 = 0
def Wi (s : List UInt8) (k : Nat) : List WL := ((Zl 10 s).take k).map fun p => (Ye p).1
def Zrv (ls : List WL) (o : Nat) : AV := match ls with
  | [] => .nils
  | _ :: _ => .sl o 0 ls.length none
theorem Zak {ls : List WL} {o : Nat} (h : ls ≠ []) : Zrv ls o = .sl o 0 ls.length none := by
  cases ls with
  | nil => exact absurd rfl h
  | cons a l => rfl
theorem Wz {s : List UInt8} {k : Nat} (h : k ≤ (Zl 10 s).length) : (Wi s k).length = k := by
  unfold Wi
  rw [List.length_map, List.length_take]; omega
theorem Zd2 {s : List UInt8} {k : Nat} {p : List UInt8} (h : (Zl 10 s)[k]? = some p) : Wi s (k + 1) = Wi s k ++ [(Ye p).1] := by
  unfold Wi
  rw [List.take_add_one, h]; simp
theorem Zl3 {s : List UInt8} {k : Nat} {p : List UInt8} (h : (Zl 10 s)[k]? = some p) (ho : Zgc s k) (hp : (Ye p).2.2 = 0) : Zgc s (k + 1) := fun j q hj hq => by
  by_cases e : j = k
  · subst e; rw [h] at hq; cases hq; exact hp
  · exact ho j q (by omega) hq
def Z6x (s : List UInt8) (v : AV) (H : AHeap) : Prop :=
  (Zbo s ∧ v = .tup [.nils, .int .i64 (.ofNat 0), .int .i64 (.ofNat 0), .int .i64 (.ofNat 6)]) ∨
  (¬ Zbo s ∧ ∃ k p, (Zl 10 s)[k]? = some p ∧ Zgc s k ∧ (Ye p).2.2 ≠ 0 ∧ v = .tup [.nils, .int .i64 (.ofNat (k + 1)), .int .i64 (.ofNat (Ye p).2.1), .int .i64 (.ofNat (Ye p).2.2)]) ∨
  (¬ Zbo s ∧ Zgc s (Zl 10 s).length ∧ ∃ o ids, LI H o ids (Wi s (Zl 10 s).length) ∧ v = .tup [.sl o 0 (Zl 10 s).length none, .int .i64 (.ofNat 0), .int .i64 (.ofNat 0), .int .i64 (.ofNat 0)])
theorem Zt3 {q : Nat} (h : q < 1048576) : Nat.blt (Nat.mul q 1) q = false ∧ Nat.beq q (Nat.mul q 1) = true ∧ Zz (Nat.succ q) 24 = true := by
  refine ⟨Yg (by rw [show Nat.mul q 1 = q from Nat.mul_one _]; omega), Zat (Nat.mul_one _).symm, ?_⟩
  unfold Zz
  rw [Bool.or_eq_true, Nat.ble_eq]; left; omega
theorem Qk {K : List Nat} {fn : AFunc} {args : List AV} (h : ∀ v ∈ args, Plain v) : FrIn K (Z8 fn args) (Z8 fn args) := FrIn.same rfl fun i v hv => by
  rcases Tr.get_putAll _ hv with ⟨q, _, h2⟩ | ⟨_, h2⟩
  · exact h v (List.mem_of_getElem? h2)
  · simp [Tr.get_nil] at h2
theorem Zf0 : FrK 8 [] [] (Zs 8 []) := ⟨Nat.le_refl _, fun i hi => by simp at hi, List.nodup_nil⟩
def Zvc {α : Type} (args : List AV) (H : AHeap) (k : AV → AHeap → Option α) : Option α := match args with
  | [.str s] => bc (Zh1 s) (k (.tup [.nils, .int .i64 (.ofNat (Zs1 s)), .int .i64 (.ofNat (Zg1 s))]) H) none
  | _ => none
theorem Zjj {α : Type} {args : List AV} {H : AHeap} {k : AV → AHeap → Option α} {r : α} (h : Zvc args H k = some r) : ∃ v H', Zk4 args H = some (v, H') ∧ k v H' = some r := by
  unfold Zvc at h
  split at h
  case h_2 => cases h
  rename_i s
  obtain ⟨h1, h⟩ := Zr h
  refine ⟨_, _, ?_, h⟩
  unfold Zh1 at h1
  simp only [Bool.and_eq_true] at h1
  unfold Zk4
  simp only [h1.1, cond_true, Option.some.injEq]
  exact Ycd H h1.2
def Zuq {α : Type} (args : List AV) (H : AHeap) (k : AV → AHeap → Option α) : Option α := match args with
  | [.str s] => bc (Zhs s) (k (.tup [.nils, .int .i64 (.ofNat 0), .int .i64 (.ofNat 0)]) H) none
  | _ => none
theorem Zki {α : Type} {args : List AV} {H : AHeap} {k : AV → AHeap → Option α} {r : α} (h : Zuq args H k = some r) : ∃ v H', Zk4 args H = some (v, H') ∧ k v H' = some r := by
  unfold Zuq at h
  split at h
  case h_2 => cases h
  rename_i s
  obtain ⟨h1, h⟩ := Zr h
  refine ⟨_, _, ?_, h⟩
  unfold Zhs at h1
  simp only [Bool.and_eq_true] at h1
  unfold Zk4
  simp only [h1.1, cond_true, Option.some.injEq]
  exact Yb8 H h1.2
def Zt0 {α : Type} (args : List AV) (H : AHeap) (k : AV → AHeap → Option α) : Option α := match args with
  | [.str s] => bc (Zht s) (k (.tup [.sl H.next 0 (Zdh s) none, .int .i64 (.ofNat 0), .int .i64 (.ofNat 0)]) (H.new (.cells (Nat.mul (Zdh s) 4) (Znu s) 31 (some 4) 0 false false))) none
  | _ => none
theorem Zjc {α : Type} {args : List AV} {H : AHeap} {k : AV → AHeap → Option α} {r : α} (h : Zt0 args H k = some r) : ∃ v H', Zk4 args H = some (v, H') ∧ k v H' = some r := by
  unfold Zt0 at h
  split at h
  case h_2 => cases h
  rename_i s
  obtain ⟨h1, h⟩ := Zr h
  refine ⟨_, _, ?_, h⟩
  unfold Zht at h1
  simp only [Bool.and_eq_true] at h1
  unfold Zk4
  simp only [h1.1, cond_true, Option.some.injEq]
  exact Ydp H h1.2
end
end Go.Proofs.YtdpkmhnpbbapcaaDoor
