/- Rows of bytes of any length: what lies in them, what is put into them; a call that answers such a row. -/
import Derived.Test.YtdpkmhnpbbapcaaDoorVaiNew
section
namespace Go.Vai
noncomputable section
abbrev bT (L : List UInt8) : Tr AV := Tr.nil.putAll 0 (L.map Yp)
def Zdk (T : Tr AV) (L : List UInt8) : Prop := ∀ i b, L[i]? = some b → T.get i = some (Yp b)
def Yg7 (L : List UInt8) : Nat → List UInt8 → List UInt8
  | _, [] => L
  | a, b :: bs => Yg7 (L.set a b) (a + 1) bs
theorem Znv {L : List UInt8} (h : L.length < 2 ^ 47) : Zdk (bT L) L := fun i b hi => by
  have hl : i < L.length := (List.getElem?_eq_some_iff.1 hi).1
  rw [Ws _ _ _ _ (by rw [List.length_map]; omega), if_pos (by rw [List.length_map]; omega), Nat.sub_zero, List.getElem?_map, hi]; rfl
theorem Zdk.all {T : Tr AV} {L : List UInt8} (h : Zdk T L) : ∀ (n o : Nat), o + n ≤ L.length → T.getAll o n = some (((L.drop o).take n).map Yp)
  | 0, o, _ => by simp [Tr.getAll_zero]
  | n + 1, o, hn => by
    have e := h o (L[o]'(by omega)) (List.getElem?_eq_getElem (by omega))
    rw [Tr.getAll_succ, e]
    simp only []
    rw [Zdk.all h n (o + 1) (by omega)]
    simp only [Option.some.injEq]
    rw [List.drop_eq_getElem_cons (by omega : o < L.length), List.take_succ_cons, List.map_cons]
theorem Zdk.has {T : Tr AV} {L : List UInt8} (h : Zdk T L) {n o : Nat} (hn : o + n ≤ L.length) : Vl T o n = true := by
  unfold Vl; rw [h.all n o hn]; rfl
theorem Zdk.cells {T : Tr AV} {L : List UInt8} (h : Zdk T L) {n o : Nat} (hn : o + n ≤ L.length) : Wo T o n = ((L.drop o).take n).map Yp := by
  unfold Wo; rw [h.all n o hn]; rfl
theorem byte_back (b : UInt8) : UInt8.ofNat (Int.ofNat b.toNat).toNat = b := by simp
theorem Ze8 : ∀ l : List UInt8, Qn (l.map Yp) = some l
  | [] => rfl
  | b :: l => by
    show (match Qn (l.map Yp) with | some m => some (UInt8.ofNat (Int.ofNat b.toNat).toNat :: m) | none => none) = _
    rw [Ze8 l]
    simp only [byte_back]
theorem Z4l (l : List UInt8) : Zoh (l.map Yp) = true := by unfold Zoh; rw [Ze8]; rfl
theorem Z3o (l : List UInt8) : Zn0 (l.map Yp) = l := by unfold Zn0; rw [Ze8]; rfl
theorem Zdk.put1 {T : Tr AV} {L : List UInt8} (h : Zdk T L) {a : Nat} (b : UInt8) (ha : a < L.length) (hL : L.length < 2 ^ 47) : Zdk (T.set a (Yp b)) (L.set a b) := fun i x hi => by
  rw [Zq2 _ _ _ (by omega)]
  by_cases e : i = a
  · subst e
    rw [List.getElem?_set_self ha] at hi
    cases hi
    rw [if_pos rfl]
  · rw [if_neg e]
    rw [List.getElem?_set_ne (by omega)] at hi
    exact h i x hi
theorem Zdk.put : ∀ {bs L : List UInt8} {T : Tr AV} (_ : Zdk T L) {a : Nat}, a + bs.length ≤ L.length → L.length < 2 ^ 47 → Zdk (T.putAll a (bs.map Yp)) (Yg7 L a bs)
  | [], _, _, h, _, _, _ => h
  | b :: bs, L, T, h, a, ha, hL => by
    simp only [List.length_cons] at ha
    exact Zdk.put (bs := bs) (T := T.set a (Yp b)) (h.put1 b (by omega) hL) (by rw [List.length_set]; omega) (by rw [List.length_set]; exact hL)
theorem Kw (b : UInt8) : isI .u8 (some (Yp b)) = true := rfl
theorem K4 (b : UInt8) : Ka (some (Yp b)) = Int.ofNat b.toNat := rfl
section
variable {P : Program} {gl : List (Nat × List AV)} {E : Env}
end
end
end Go.Vai
end
