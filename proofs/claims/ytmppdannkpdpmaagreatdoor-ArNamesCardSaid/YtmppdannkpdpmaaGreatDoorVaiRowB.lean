/- Rows of bytes of any length: what lies in them, what is put into them; a call that answers such a row. -/
import Derived.Test.YtmppdannkpdpmaaGreatDoorVaiNew
section
namespace Go.Vai
noncomputable section
abbrev bT (L : List UInt8) : Tr AV := Tr.nil.putAll 0 (L.map Ze)
def Xt (T : Tr AV) (L : List UInt8) : Prop := ∀ i b, L[i]? = some b → T.get i = some (Ze b)
def Z4e (L : List UInt8) : Nat → List UInt8 → List UInt8
  | _, [] => L
  | a, b :: bs => Z4e (L.set a b) (a + 1) bs
theorem W1 {L : List UInt8} (h : L.length < 2 ^ 47) : Xt (bT L) L := fun i b hi => by
  have hl : i < L.length := (List.getElem?_eq_some_iff.1 hi).1
  rw [J7 _ _ _ _ (by rw [List.length_map]; omega), if_pos (by rw [List.length_map]; omega), Nat.sub_zero, List.getElem?_map, hi]; rfl
theorem Xt.all {T : Tr AV} {L : List UInt8} (h : Xt T L) : ∀ (n o : Nat), o + n ≤ L.length → T.getAll o n = some (((L.drop o).take n).map Ze)
  | 0, o, _ => by simp [Tr.getAll_zero]
  | n + 1, o, hn => by
    have e := h o (L[o]'(by omega)) (List.getElem?_eq_getElem (by omega))
    rw [Tr.getAll_succ, e]
    simp only []
    rw [Xt.all h n (o + 1) (by omega)]
    simp only [Option.some.injEq]
    rw [List.drop_eq_getElem_cons (by omega : o < L.length), List.take_succ_cons, List.map_cons]
theorem Xt.has {T : Tr AV} {L : List UInt8} (h : Xt T L) {n o : Nat} (hn : o + n ≤ L.length) : Yj T o n = true := by
  unfold Yj; rw [h.all n o hn]; rfl
theorem Xt.cells {T : Tr AV} {L : List UInt8} (h : Xt T L) {n o : Nat} (hn : o + n ≤ L.length) : Zc T o n = ((L.drop o).take n).map Ze := by
  unfold Zc; rw [h.all n o hn]; rfl
theorem byte_back (b : UInt8) : UInt8.ofNat (Int.ofNat b.toNat).toNat = b := by simp
theorem Zch : ∀ l : List UInt8, Wo (l.map Ze) = some l
  | [] => rfl
  | b :: l => by
    show (match Wo (l.map Ze) with | some m => some (UInt8.ofNat (Int.ofNat b.toNat).toNat :: m) | none => none) = _
    rw [Zch l]
    simp only [byte_back]
theorem Zsv (l : List UInt8) : Xk (l.map Ze) = true := by unfold Xk; rw [Zch]; rfl
theorem Zbk (l : List UInt8) : Zd (l.map Ze) = l := by unfold Zd; rw [Zch]; rfl
theorem W9 : ∀ l : List UInt8, J9 (l.map Ze) = true
  | [] => rfl
  | _ :: l => by
    show (true && J9 (l.map Ze)) = true
    rw [W9 l]; rfl
theorem Xt.put1 {T : Tr AV} {L : List UInt8} (h : Xt T L) {a : Nat} (b : UInt8) (ha : a < L.length) (hL : L.length < 2 ^ 47) : Xt (T.set a (Ze b)) (L.set a b) := fun i x hi => by
  rw [Zkr _ _ _ (by omega)]
  by_cases e : i = a
  · subst e
    rw [List.getElem?_set_self ha] at hi
    cases hi
    rw [if_pos rfl]
  · rw [if_neg e]
    rw [List.getElem?_set_ne (by omega)] at hi
    exact h i x hi
theorem Xt.put : ∀ {bs L : List UInt8} {T : Tr AV} (_ : Xt T L) {a : Nat}, a + bs.length ≤ L.length → L.length < 2 ^ 47 → Xt (T.putAll a (bs.map Ze)) (Z4e L a bs)
  | [], _, _, h, _, _, _ => h
  | b :: bs, L, T, h, a, ha, hL => by
    simp only [List.length_cons] at ha
    exact Xt.put (bs := bs) (T := T.set a (Ze b)) (h.put1 b (by omega) hL) (by rw [List.length_set]; omega) (by rw [List.length_set]; exact hL)
theorem Zr8 (b : UInt8) : isI .u8 (some (Ze b)) = true := rfl
theorem Zti (b : UInt8) : asI (some (Ze b)) = Int.ofNat b.toNat := rfl
section
variable {P : Program} {gl : List (Nat × List AV)} {E : Env}
end
end
end Go.Vai
end
