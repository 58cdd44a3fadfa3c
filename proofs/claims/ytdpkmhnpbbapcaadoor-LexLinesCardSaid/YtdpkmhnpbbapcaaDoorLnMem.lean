/- Rows of rows of words in a great memory. -/
import Derived.Test.YtdpkmhnpbbapcaaDoorRfCut
import Derived.Test.YtdpkmhnpbbapcaaDoorVaiFrame2
import Derived.Test.YtdpkmhnpbbapcaaDoorVaiLawB
import Derived.KernelRfl
namespace Go.Proofs.YtdpkmhnpbbapcaaDoor
open Go Go.Vai
noncomputable section
set_option maxRecDepth 100000
abbrev WL := List (Wd × Nat)
def cellV (x : Option Nat) (ws : WL) : AV := match x with
  | none => .nils
  | some i => .sl i 0 ws.length none
theorem wNo (ws : WL) : noT (WT ws) := Ze7 Zuz fun v hv => by
  unfold J5 at hv
  obtain ⟨p, _, hp⟩ := List.mem_flatMap.1 hv
  simp only [wdC, List.mem_cons, List.not_mem_nil, or_false] at hp
  rcases hp with rfl | rfl | rfl | rfl <;> rfl
structure LI (H : AHeap) (o : Nat) (ids : List (Option Nat)) (ls : List WL) : Prop where
  len : ids.length = ls.length
  row : ∀ (j : Nat) ws, ls[j]? = some ws → (ws = [] ∧ ids[j]? = some none) ∨ (ws ≠ [] ∧ ∃ i, ids[j]? = some (some i) ∧ H.get i = some (J6 ws))
  out : ∃ T, H.get o = some (.cells ls.length T 28 (some 1) 0 false false) ∧ ∀ (j : Nat) x ws, ids[j]? = some x → ls[j]? = some ws → T.get j = some (cellV x ws)
  nodup : (o :: ids.filterMap id).Nodup
  lt : ∀ i ∈ o :: ids.filterMap id, 8 ≤ i ∧ i < H.next
theorem Zcf {ids : List (Option Nat)} {j i : Nat} (h : ids[j]? = some (some i)) : i ∈ ids.filterMap id := List.mem_filterMap.2 ⟨some i, List.mem_of_getElem? h, rfl⟩
def exC (θ : Nat → Tag) : Nat → List (Option Nat) → List AV
  | _, [] => []
  | j, none :: r => .nils :: exC θ (j + 1) r
  | j, some _ :: r => .ext j (θ j).1 (θ j).2.1 (θ j).2.2.1 (θ j).2.2.2.1 (θ j).2.2.2.2 :: exC θ (j + 1) r
theorem Zna (θ : Nat → Tag) : ∀ (ids : List (Option Nat)) (j : Nat), (exC θ j ids).length = ids.length
  | [], _ => rfl
  | none :: r, j => by simp only [exC, List.length_cons, Zna θ r]
  | some _ :: r, j => by simp only [exC, List.length_cons, Zna θ r]
theorem Zga (θ : Nat → Tag) : ∀ (ids : List (Option Nat)) (j k : Nat), (exC θ j ids)[k]? = ids[k]?.map fun x => match x with
    | none => AV.nils
    | some _ => .ext (j + k) (θ (j + k)).1 (θ (j + k)).2.1 (θ (j + k)).2.2.1 (θ (j + k)).2.2.2.1 (θ (j + k)).2.2.2.2
  | [], _, _ => by simp [exC]
  | none :: r, j, 0 => rfl
  | some _ :: r, j, 0 => rfl
  | none :: r, j, k + 1 => by
    simp only [exC, List.getElem?_cons_succ, Zga θ r]
    rw [show j + 1 + k = j + (k + 1) by omega]
  | some _ :: r, j, k + 1 => by
    simp only [exC, List.getElem?_cons_succ, Zga θ r]
    rw [show j + 1 + k = j + (k + 1) by omega]
def Zdc (ids : List (Option Nat)) (θ : Nat → Tag) : Tr AV := Tr.nil.putAll 0 (exC θ 0 ids)
def liD (ids : List (Option Nat)) (j : Nat) : Prop := ∃ i, ids[j]? = some (some i)
def liT (ids : List (Option Nat)) (ls : List WL) (j : Nat) : AV := cellV ((ids[j]?).getD none) ((ls[j]?).getD [])
theorem Zn6 {ids : List (Option Nat)} {ls : List WL} {j : Nat} {x : Option Nat} {ws : WL} (h1 : ids[j]? = some x) (h2 : ls[j]? = some ws) : liT ids ls j = cellV x ws := by
  unfold liT
  rw [h1, h2]; rfl
section
variable {H : AHeap} {o : Nat} {ids : List (Option Nat)} {ls : List WL} (h : LI H o ids ls)
include h
theorem LI.some_at {j : Nat} {x : Option Nat} (h1 : ids[j]? = some x) : ∃ ws, ls[j]? = some ws := by
  have hj := (List.getElem?_eq_some_iff.1 h1).1
  rw [h.len] at hj
  exact ⟨ls[j], List.getElem?_eq_getElem hj⟩
theorem LI.plOk (j : Nat) (hj : liD ids j) : Zyo H (fun j => (o, j)) (liT ids ls) j := by
  obtain ⟨i, hi⟩ := hj
  obtain ⟨ws, hw⟩ := h.some_at hi
  obtain ⟨T, h1, h2⟩ := h.out
  refine ⟨_, T, _, _, _, _, _, h1, ?_, ?_⟩
  · rw [Zn6 hi hw]; exact h2 j _ _ hi hw
  · rw [Zn6 hi hw]; rfl
theorem LI.robj {K : List Nat} (θ : Nat → Tag) : ∃ u, H.get o = some u ∧ Jc K (liD ids) (fun j => (o, j)) (liT ids ls) θ o u (.cells ls.length (Zdc ids θ) 28 (some 1) 0 false false) := by
  obtain ⟨T, h1, h2⟩ := h.out
  refine ⟨_, h1, .inr (.inl ⟨_, _, _, _, _, _, _, _, rfl, rfl, fun i y hy => ?_⟩)⟩
  rcases Tr.get_putAll _ hy with ⟨q, rfl, hq⟩ | ⟨_, hu⟩
  · rw [Zga] at hq
    cases hx : ids[q]? with
    | none => rw [hx] at hq; cases hq
    | some x =>
      rw [hx] at hq
      obtain ⟨ws, hw⟩ := h.some_at hx
      have ht := h2 q _ _ hx hw
      rw [Nat.zero_add]
      cases x with
      | none =>
        cases hq
        exact ⟨_, ht, .inl rfl⟩
      | some i =>
        simp only [Option.map_some, Option.some.injEq, Nat.zero_add] at hq
        subst hq
        exact ⟨_, ht, .inr ⟨q, rfl, ⟨i, hx⟩, rfl, (Zn6 hx hw).symm⟩⟩
  · simp [Tr.get_nil] at hu
end
theorem Zpj (ids : List (Option Nat)) (θ : Nat → Tag) : exT (liD ids) θ (Zdc ids θ) := K1 Zn2 fun v hv => by
  obtain ⟨q, hq⟩ := List.getElem?_of_mem hv
  rw [Zga] at hq
  cases hx : ids[q]? with
  | none => rw [hx] at hq; cases hq
  | some x =>
    rw [hx] at hq
    cases x with
    | none => cases hq; trivial
    | some i =>
      simp only [Option.map_some, Option.some.injEq, Nat.zero_add] at hq
      subst hq
      exact ⟨⟨i, hx⟩, rfl⟩
theorem LI.mono {H Hb : AHeap} {o : Nat} {ids : List (Option Nat)} {ls : List WL} (h : LI H o ids ls) (hk : ∀ id u, H.get id = some u → Hb.get id = some u) (hn : H.next ≤ Hb.next) : LI Hb o ids ls := by
  refine ⟨h.len, fun j ws hj => ?_, ?_, h.nodup, fun i hi => ⟨(h.lt i hi).1, Nat.lt_of_lt_of_le (h.lt i hi).2 hn⟩⟩
  · rcases h.row j ws hj with h1 | ⟨h1, i, h2, h3⟩
    · exact .inl h1
    · exact .inr ⟨h1, i, h2, hk _ _ h3⟩
  · obtain ⟨T, h1, h2⟩ := h.out
    exact ⟨T, hk _ _ h1, h2⟩
theorem LI.snoc {H Hb : AHeap} {o : Nat} {ids : List (Option Nat)} {ls : List WL} (h : LI H o ids ls) (hl : ls.length < 1099511627776) {θ : Nat → Tag} {β : Nat → Nat} {o' : Nat} {x : Option Nat} {ws : WL} {c : AV}
    (hn : H.next ≤ Hb.next) (ho1 : H.next ≤ o') (ho2 : o' < Hb.next) (hc : V2 β (liT ids ls) c = cellV x ws) (hout : Hb.get o' = some (lfO β (liT ids ls) (.cells (ls.length + 1) (Tr.putAll (Zdc ids θ) ls.length [c]) 28 (some 1) 0 false false)))
    (hx : (ws = [] ∧ x = none) ∨ (ws ≠ [] ∧ ∃ i, x = some i ∧ Hb.get i = some (J6 ws) ∧ H.next ≤ i ∧ i < Hb.next ∧ i ≠ o')) (hold : ∀ i u, i ∈ ids.filterMap id → H.get i = some u → Hb.get i = some u) : LI Hb o' (ids ++ [x]) (ls ++ [ws]) := by
  have hlen := h.len
  have old : ∀ i ∈ ids.filterMap id, 8 ≤ i ∧ i < H.next := fun i hi => h.lt i (List.mem_cons_of_mem _ hi)
  have h8 : 8 ≤ H.next := by
    have := h.lt o List.mem_cons_self
    omega
  refine ⟨by simp [hlen], fun j ws2 hj => ?_, ⟨lfT β (liT ids ls) (Tr.putAll (Zdc ids θ) ls.length [c]), by rw [hout, List.length_append]; rfl, fun j x2 ws2 h1 h2 => ?_⟩, ?_, fun i hi => ?_⟩
  · by_cases hlt : j < ls.length
    · rw [List.getElem?_append_left hlt] at hj
      rw [List.getElem?_append_left (by omega)]
      rcases h.row j ws2 hj with h1 | ⟨h1, i, h2, h3⟩
      · exact .inl h1
      · exact .inr ⟨h1, i, h2, hold i _ (Zcf h2) h3⟩
    · have hj2 : j = ls.length := by
        have := (List.getElem?_eq_some_iff.1 hj).1
        simp at this
        omega
      subst hj2
      rw [List.getElem?_append_right (Nat.le_refl _), Nat.sub_self] at hj
      simp only [List.getElem?_cons_zero, Option.some.injEq] at hj
      subst hj
      rw [List.getElem?_append_right (by omega), hlen, Nat.sub_self]
      rcases hx with ⟨h1, rfl⟩ | ⟨h1, i, rfl, h3, _⟩
      · exact .inl ⟨h1, rfl⟩
      · exact .inr ⟨h1, i, rfl, h3⟩
  · rw [Zjt, Ws _ _ _ _ (by simp; omega)]
    have hel : (exC θ 0 ids).length = ls.length := by rw [Zna, hlen]
    by_cases hlt : j < ls.length
    · rw [if_neg (by simp; omega), Zfi]
      rw [List.getElem?_append_left (by omega)] at h1
      rw [List.getElem?_append_left hlt] at h2
      unfold Zdc
      rw [Ws _ _ _ _ (by omega), if_pos (by omega), Nat.sub_zero, Zga, h1]
      cases x2 with
      | none => rfl
      | some i =>
        simp only [Option.map_some, Nat.zero_add]
        show some (liT ids ls j) = _
        rw [Zn6 h1 h2]
    · have hj2 : j = ls.length := by
        have := (List.getElem?_eq_some_iff.1 h2).1
        simp at this
        omega
      subst hj2
      rw [if_pos (by simp)]
      rw [List.getElem?_append_right (by omega), hlen, Nat.sub_self] at h1
      rw [List.getElem?_append_right (Nat.le_refl _), Nat.sub_self] at h2
      simp only [List.getElem?_cons_zero, Option.some.injEq] at h1 h2
      subst h1; subst h2
      simp [hc]
  · rw [List.filterMap_append]
    have nd : (ids.filterMap id).Nodup := (List.nodup_cons.1 h.nodup).2
    rw [List.nodup_cons, List.nodup_append]
    have hm : ∀ i ∈ [x].filterMap id, x = some i := fun i hi => by
      obtain ⟨y, hy, h2⟩ := List.mem_filterMap.1 hi
      rw [List.mem_singleton] at hy
      subst hy
      exact h2
    refine ⟨fun hi => ?_, nd, ?_, fun a ha b hb e => ?_⟩
    · rcases List.mem_append.1 hi with hi | hi
      · have := (old _ hi).2; omega
      · have hxs := hm _ hi
        rcases hx with ⟨_, rfl⟩ | ⟨_, i, rfl, _, _, _, hne⟩
        · cases hxs
        · cases hxs; exact hne rfl
    · cases x with
      | none => exact List.nodup_nil
      | some i => exact List.nodup_cons.2 ⟨List.not_mem_nil, List.nodup_nil⟩
    · subst e
      have h1 := (old _ ha).2
      have hxs := hm _ hb
      rcases hx with ⟨_, rfl⟩ | ⟨_, i, rfl, _, h3, _, _⟩
      · cases hxs
      · cases hxs; omega
  · rw [List.filterMap_append] at hi
    rcases List.mem_cons.1 hi with rfl | hi
    · exact ⟨by omega, ho2⟩
    · rcases List.mem_append.1 hi with hi | hi
      · have := old _ hi
        exact ⟨this.1, by omega⟩
      · obtain ⟨y, hy, h2⟩ := List.mem_filterMap.1 hi
        rw [List.mem_singleton] at hy
        subst hy
        rcases hx with ⟨_, rfl⟩ | ⟨_, i2, rfl, _, h3, h4, _⟩
        · cases h2
        · cases h2; exact ⟨by omega, h4⟩
theorem LI.one {H Hb : AHeap} {τ : Nat → AV} {β : Nat → Nat} {o' : Nat} {x : Option Nat} {ws : WL} {c : AV} (h8 : 8 ≤ H.next)
    (hn : H.next ≤ Hb.next) (ho1 : H.next ≤ o') (ho2 : o' < Hb.next) (hc : V2 β τ c = cellV x ws) (hout : Hb.get o' = some (lfO β τ (.cells 1 (Tr.nil.putAll 0 [c]) 28 (some 1) 0 false false)))
    (hx : (ws = [] ∧ x = none) ∨ (ws ≠ [] ∧ ∃ i, x = some i ∧ Hb.get i = some (J6 ws) ∧ H.next ≤ i ∧ i < Hb.next ∧ i ≠ o')) : LI Hb o' [x] [ws] := by
  refine ⟨rfl, fun j ws2 hj => ?_, ⟨lfT β τ (Tr.nil.putAll 0 [c]), hout, fun j x2 ws2 h1 h2 => ?_⟩, ?_, fun i hi => ?_⟩
  · match j, hj with
    | 0, hj =>
      cases hj
      rcases hx with ⟨h1, rfl⟩ | ⟨h1, i, rfl, h3, _⟩
      · exact .inl ⟨h1, rfl⟩
      · exact .inr ⟨h1, i, rfl, h3⟩
    | j + 1, hj => simp at hj
  · match j, h1, h2 with
    | 0, h1, h2 =>
      cases h1; cases h2
      rw [Zfi]
      show some (V2 β τ c) = _
      rw [hc]
    | j + 1, h1, h2 => simp at h1
  · rcases hx with ⟨_, rfl⟩ | ⟨_, i, rfl, _, _, _, hne⟩
    · exact List.nodup_cons.2 ⟨List.not_mem_nil, List.nodup_nil⟩
    · simp only [List.filterMap_cons, id, List.filterMap_nil, List.nodup_cons, List.mem_singleton, List.not_mem_nil, not_false_eq_true, List.nodup_nil, and_self, and_true]
      exact fun e => hne e.symm
  · rcases hx with ⟨_, rfl⟩ | ⟨_, i2, rfl, _, h3, h4, _⟩
    · obtain rfl := List.mem_singleton.1 hi
      exact ⟨by omega, ho2⟩
    · simp only [List.filterMap_cons, id, List.filterMap_nil, List.mem_cons, List.not_mem_nil, or_false] at hi
      rcases hi with rfl | rfl
      · exact ⟨by omega, ho2⟩
      · exact ⟨by omega, h4⟩
end
end Go.Proofs.YtdpkmhnpbbapcaaDoor
