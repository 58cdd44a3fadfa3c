/- An argument that is a slice of plain data: what its row holds, as an object that may be read. -/
import Derived.Test.YtopjbfgikglncaaGreatDoorVaiOpen
import Derived.Test.YtopjbfgikglncaaGreatDoorVaiSum
namespace Go.Vai
open Go.RowKit
section
variable {H : Type} {enc : TypeId × Value → H} {P : Program} {w : World} {base : Nat} {spare : Nat → Bool} {held : Bool}

/-- Rows of equal shape, one behind the other. -/
def ShapesN (ks : List CK) (n : Nat) (vs : List AV) : Prop := vs.length = n * ks.length ∧ ∀ i, i < n → Shapes ks ((vs.drop (i * ks.length)).take ks.length)

theorem chunks {ks : List CK} {q : Nat} (hq : ks.length = q) (cur : List Value) (off : Nat) : ∀ (n : Nat), (∀ i, i < n → ∃ as, Shapes ks as ∧ VRels [] as ((cur.drop (off + i * q)).take q) ∧ as.length = q) → off + n * q ≤ cur.length →
    ∃ vs, ShapesN ks n vs ∧ VRels [] vs ((cur.drop off).take (n * q))
  | 0, _, _ => ⟨[], ⟨by simp, fun i h => by omega⟩, by simp [VRels]⟩
  | n + 1, h, hl => by
    have e1 : (n + 1) * q = n * q + q := Nat.succ_mul n q
    obtain ⟨vs, h1, h2⟩ := chunks hq cur off n (fun i hi => h i (by omega)) (by omega)
    obtain ⟨as, a1, a2, a3⟩ := h n (by omega)
    refine ⟨vs ++ as, ⟨by rw [List.length_append, h1.1, a3, hq, e1], fun i hi => ?_⟩, ?_⟩
    · by_cases e : i < n
      · have : i * q + q ≤ n * q := by rw [← Nat.succ_mul]; exact Nat.mul_le_mul_right q e
        rw [hq, List.drop_append_of_le_length (by rw [h1.1, hq]; omega), List.take_append_of_le_length (by rw [List.length_drop, h1.1, hq]; omega)]
        have := h1.2 i e
        rwa [hq] at this
      · obtain rfl : i = n := by omega
        rw [hq, List.drop_left' (by rw [h1.1, hq])]
        rw [List.take_of_length_le (by omega)]
        exact a1
    · rw [e1, List.take_add, List.drop_drop]
      exact h2.append a2

theorem addr0 (b o j : Nat) : (Addr.mk b o none).add j = ⟨b, o + j, none⟩ := by
  unfold Addr.add
  split
  · rename_i e; subst e; rfl
  · rfl
/-- nil; without elements; or a row that can be read. -/
theorem open_row {t e : TypeId} {ks : List CK} {v : Value} {d : DataW H} {ps : List MemPlace} {dd : Nat} (hu : P.underlying t = some (.slice e)) (hk : flatT P dd e = some ks) (hc : P.cellsOf e = ks.length) (hpos : 0 < ks.length) (hv : Value.okWide P w .any 0 t v) (hd : DataW.Trod enc P w base spare held t v d ps) :
    v = .slice none 0 0 ∨ (∃ a cap, v = .slice (some a) 0 cap) ∨ ∃ (b off len cap : Nat) (vs : List AV), v = .slice (some ⟨b, off, none⟩) len cap ∧ 0 < len ∧ len ≤ cap ∧ cap ≤ maxLen ∧ ShapesN ks len vs ∧
      ∃ cur e' lo hi, w.heap[b]? = some (.cells cur e' (lo, hi)) ∧ off + len * ks.length ≤ cur.size ∧ VRels [] vs ((cur.toList.drop off).take (len * ks.length)) := by
  obtain ⟨n, hn⟩ := hd
  rcases DataW.trod_slice hu hn with ⟨h1, _⟩ | ⟨a, len, cap, elems, rest, m, _, h1, _, _, h2, h3, h4, h5, _⟩
  · left
    cases v <;> simp_all [Value.cells]
    simp [Value.okWide, hu, Cell.okWide, Cell.ok] at hv
  · right
    have hv' : v = .slice (some a) len cap := by
      cases v <;> simp_all [Value.cells]
      simp [Value.okWide, hu, Cell.okWide, Cell.ok] at hv
    subst hv'
    have hspot : a.spot = none := by
      simp only [Value.okWide, hu, Cell.okWide, Cell.ok] at hv
      exact hv.2.2.2.1
    obtain ⟨b, off, sp⟩ := a
    simp only at hspot; subst hspot
    by_cases hl : len = 0
    · subst hl; exact .inl ⟨_, _, rfl⟩
    right
    have addr : ∀ k, (Addr.mk b off none).add k = ⟨b, off + k, none⟩ := fun k => by
      unfold Addr.add
      split
      · rename_i e; subst e; rfl
      · rfl
    have cell : ∀ i, i < len → ∃ x cs, w.cells? base ⟨b, off + i * P.cellsOf e, none⟩ (P.cellsOf e) = some cs ∧ DataW.trod enc P w base spare held m e cs = some x := fun i hi => by
      have := h5 i hi
      rw [addr, List.getElem?_eq_getElem (by omega), Option.bind_eq_some_iff] at this
      obtain ⟨cs, c1, c2⟩ := this
      exact ⟨_, cs, c1, c2⟩
    obtain ⟨x0, cs0, c0, _⟩ := cell 0 (by omega)
    obtain ⟨_, hl0, hc0⟩ := World.cells?_some c0
    have hcell0 := hc0 0 (by rw [hc]; exact hpos)
    have hheap : ∃ cur e' lh, w.heap[b]? = some (.cells cur e' lh) := by
      rw [addr0 b (off + 0 * P.cellsOf e) 0] at hcell0
      unfold World.cell? at hcell0
      simp only at hcell0
      split at hcell0
      · rename_i cur e' lh hh; exact ⟨cur, e', lh, hh⟩
      · rw [List.getElem?_eq_getElem (by rw [hl0, hc]; exact hpos)] at hcell0; cases hcell0
    obtain ⟨cur, e', ⟨lo, hi⟩, hh⟩ := hheap
    have at_ : ∀ i, i < len → ∀ j, j < ks.length → ∃ cv, cur[off + i * ks.length + j]? = some cv := fun i hi j hj => by
      obtain ⟨x, cs, c1, _⟩ := cell i hi
      obtain ⟨_, hl1, hc1⟩ := World.cells?_some c1
      have := hc1 j (by rw [hc]; exact hj)
      rw [addr0] at this
      unfold World.cell? at this
      simp only [hh] at this
      rw [hc, List.getElem?_eq_getElem (by rw [hl1, hc]; exact hj)] at this
      exact ⟨_, by simpa using this⟩
    have size : off + len * ks.length ≤ cur.size := by
      obtain ⟨cv, h⟩ := at_ (len - 1) (by omega) (ks.length - 1) (by omega)
      have h1 := (Array.getElem?_eq_some_iff.1 h).1
      have h2 : len * ks.length = (len - 1) * ks.length + ks.length := by rw [← Nat.succ_mul]; congr 1; omega
      omega
    have chunk : ∀ i, i < len → ∃ as, Shapes ks as ∧ VRels [] as ((cur.toList.drop (off + i * ks.length)).take ks.length) ∧ as.length = ks.length := fun i hi => by
      obtain ⟨x, cs, c1, c2⟩ := cell i hi
      obtain ⟨as, s1, s2, s3⟩ := flatT_open dd m e ks cs x hk c2
      obtain ⟨_, hl1, hc1⟩ := World.cells?_some c1
      have he : cs = (cur.toList.drop (off + i * ks.length)).take ks.length := by
        refine List.ext_getElem? fun j => ?_
        by_cases hj : j < ks.length
        · have h3 := hc1 j (by rw [hc]; exact hj)
          rw [addr0] at h3
          unfold World.cell? at h3
          simp only [hh] at h3
          rw [List.getElem?_take, if_pos hj, List.getElem?_drop, ← h3, hc]
          simp
        · rw [List.getElem?_eq_none (by omega), List.getElem?_eq_none (by rw [List.length_take]; omega)]
      rw [he] at s2
      exact ⟨as, s1, s2, by rw [s2.length, ← he, s3]⟩
    obtain ⟨vs, v1, v2⟩ := chunks rfl cur.toList off len chunk (by simpa using size)
    exact ⟨b, off, len, cap, vs, rfl, by omega, h2, h3, v1, cur, e', lo, hi, hh, size, v2⟩
end
end Go.Vai
