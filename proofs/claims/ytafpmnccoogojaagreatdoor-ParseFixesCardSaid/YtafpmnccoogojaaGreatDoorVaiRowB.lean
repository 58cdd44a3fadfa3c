/- Rows of bytes of any length: what lies in them, what is put into them; a call that answers such a row. -/
import Derived.Test.YtafpmnccoogojaaGreatDoorVaiNew
section
namespace Go.Vai
noncomputable section
abbrev bT (L : List UInt8) : Tr AV := Tr.nil.putAll 0 (L.map byteAV)
def RowB (T : Tr AV) (L : List UInt8) : Prop := ∀ i b, L[i]? = some b → T.get i = some (byteAV b)
def sets (L : List UInt8) : Nat → List UInt8 → List UInt8
  | _, [] => L
  | a, b :: bs => sets (L.set a b) (a + 1) bs
theorem rowB_bT {L : List UInt8} (h : L.length < 2 ^ 47) : RowB (bT L) L := fun i b hi => by
  have hl : i < L.length := (List.getElem?_eq_some_iff.1 hi).1
  rw [get_putAllB _ _ _ _ (by rw [List.length_map]; omega), if_pos (by rw [List.length_map]; omega), Nat.sub_zero, List.getElem?_map, hi]; rfl
theorem RowB.all {T : Tr AV} {L : List UInt8} (h : RowB T L) : ∀ (n o : Nat), o + n ≤ L.length → T.getAll o n = some (((L.drop o).take n).map byteAV)
  | 0, o, _ => by simp [Tr.getAll_zero]
  | n + 1, o, hn => by
    have e := h o (L[o]'(by omega)) (List.getElem?_eq_getElem (by omega))
    rw [Tr.getAll_succ, e]
    simp only []
    rw [RowB.all h n (o + 1) (by omega)]
    simp only [Option.some.injEq]
    rw [List.drop_eq_getElem_cons (by omega : o < L.length), List.take_succ_cons, List.map_cons]
theorem RowB.has {T : Tr AV} {L : List UInt8} (h : RowB T L) {n o : Nat} (hn : o + n ≤ L.length) : hasA T o n = true := by
  unfold hasA; rw [h.all n o hn]; rfl
theorem RowB.cells {T : Tr AV} {L : List UInt8} (h : RowB T L) {n o : Nat} (hn : o + n ≤ L.length) : getA T o n = ((L.drop o).take n).map byteAV := by
  unfold getA; rw [h.all n o hn]; rfl
theorem byte_back (b : UInt8) : UInt8.ofNat (Int.ofNat b.toNat).toNat = b := by simp
theorem bytesA_map : ∀ l : List UInt8, bytesA (l.map byteAV) = some l
  | [] => rfl
  | b :: l => by
    show (match bytesA (l.map byteAV) with | some m => some (UInt8.ofNat (Int.ofNat b.toNat).toNat :: m) | none => none) = _
    rw [bytesA_map l]
    simp only [byte_back]
theorem hasY_map (l : List UInt8) : hasY (l.map byteAV) = true := by unfold hasY; rw [bytesA_map]; rfl
theorem getY_map (l : List UInt8) : getY (l.map byteAV) = l := by unfold getY; rw [bytesA_map]; rfl
theorem RowB.put1 {T : Tr AV} {L : List UInt8} (h : RowB T L) {a : Nat} (b : UInt8) (ha : a < L.length) (hL : L.length < 2 ^ 47) : RowB (T.set a (byteAV b)) (L.set a b) := fun i x hi => by
  rw [get_setB _ _ _ (by omega)]
  by_cases e : i = a
  · subst e
    rw [List.getElem?_set_self ha] at hi
    cases hi
    rw [if_pos rfl]
  · rw [if_neg e]
    rw [List.getElem?_set_ne (by omega)] at hi
    exact h i x hi
theorem RowB.put : ∀ {bs L : List UInt8} {T : Tr AV} (_ : RowB T L) {a : Nat}, a + bs.length ≤ L.length → L.length < 2 ^ 47 → RowB (T.putAll a (bs.map byteAV)) (sets L a bs)
  | [], _, _, h, _, _, _ => h
  | b :: bs, L, T, h, a, ha, hL => by
    simp only [List.length_cons] at ha
    exact RowB.put (bs := bs) (T := T.set a (byteAV b)) (h.put1 b (by omega) hL) (by rw [List.length_set]; omega) (by rw [List.length_set]; exact hL)
theorem byte_isI (b : UInt8) : isI .u8 (some (byteAV b)) = true := rfl
theorem byte_asI (b : UInt8) : asI (some (byteAV b)) = Int.ofNat b.toNat := rfl
section
variable {P : Program} {gl : List (Nat × List AV)} {E : Env}
end
end
end Go.Vai
end
