/- An argument that is a slice of bytes: nil, without elements, or a row of bytes that can be read. -/
import Derived.Test.YtmppdannkpdpmaaGreatDoorVaiH
import Derived.Test.YtmppdannkpdpmaaGreatDoorVaiRowB
section
namespace Go.Vai
open Go.RowKit
theorem Zf3 : ∀ {vs : List AV}, (∀ v ∈ vs, ∃ x : Int, v = .int .u8 x ∧ 0 ≤ x ∧ x < 256) → ∃ L : List UInt8, vs = L.map Ze
  | [], _ => ⟨[], rfl⟩
  | v :: vs, h => by
    obtain ⟨x, rfl, h0, h1⟩ := h v List.mem_cons_self
    obtain ⟨L, rfl⟩ := Zf3 fun u hu => h u (List.mem_cons_of_mem _ hu)
    refine ⟨UInt8.ofNat x.toNat :: L, ?_⟩
    rw [List.map_cons]
    congr 1
    unfold Ze
    congr 1
    rw [UInt8.toNat_ofNat', Nat.mod_eq_of_lt (by omega)]
    exact (Int.toNat_of_nonneg h0).symm
section
variable {H : Type} {enc : TypeId × Value → H} {P : Program} {w : World} {base : Nat} {spare : Nat → Bool} {held : Bool}
theorem bytes_at {len : Nat} {vs : List AV} (h : Zfv [.int .u8] len vs) {i : Nat} (hi : i < len) : ∃ x, vs[i]? = some (.int .u8 x) := by
  have h2 := h.2 i hi
  obtain ⟨b0, r0, f0, g0, _⟩ := h2.cons_inv
  obtain ⟨x, rfl⟩ := CK.int_inv g0
  refine ⟨x, ?_⟩
  have : ((vs.drop (i * 1)).take 1)[0]? = some (.int .u8 x) := by
    rw [show (vs.drop (i * 1)).take 1 = _ from f0]; rfl
  rw [List.getElem?_take, if_pos (by decide), List.getElem?_drop] at this
  simpa using this
theorem Zp5 {t e : TypeId} {v : Value} {d : DataW H} {ps : List MemPlace} {dd : Nat} (hu : P.underlying t = some (.slice e)) (he : P.underlying e = some (.int .u8)) (hk : Zc3 P dd e = some [.int .u8]) (hc : P.cellsOf e = 1)
    (hv : Value.okWide P w .any 0 t v) (hd : DataW.Trod enc P w base spare held t v d ps) : v = .slice none 0 0 ∨ (∃ a cap, v = .slice (some a) 0 cap) ∨
    ∃ (len cap : Nat) (vs : List AV) (m : MEnt), 0 < len ∧ len ≤ cap ∧ vs.length = len ∧ Wj [] m w (.cells len (Tr.nil.putAll 0 vs) 0 none 0 true false) ∧ (∀ M (id : Nat), M[id]? = some m → Zm M (.sl id 0 len (some cap)) v) ∧ (len < 1000000 → ∃ L : List UInt8, vs = L.map Ze) := by
  rcases Zto hu hk hc (by decide) hv hd with rfl | ⟨a, cap, rfl⟩ | ⟨len, cap, vs, m, hl0, ⟨a, rfl⟩, hlc, hs, hrel, hvr⟩
  · exact .inl rfl
  · exact .inr (.inl ⟨a, cap, rfl⟩)
  refine .inr (.inr ⟨len, cap, vs, m, hl0, hlc, by simpa using hs.1, by simpa using hrel, hvr, fun hlen => ?_⟩)
  obtain ⟨m2, c2, hm2, e2, _, _⟩ := hvr [m] 0 rfl
  cases hm2
  simp only [Value.slice.injEq, Option.some.injEq] at e2
  obtain ⟨rfl, _, _⟩ := e2
  obtain ⟨cur, e', lo, hi, hh, _, hsz, _, _, _, hcell⟩ := hrel
  obtain ⟨n, hn⟩ := hd
  rcases DataW.trod_slice hu hn with ⟨h1, _⟩ | ⟨a2, len2, cap2, elems, rest, m3, _, h1, _, _, h2, h3, h4, h5, _⟩
  · simp [Value.cells] at h1
  simp only [Value.cells, List.cons.injEq, Value.slice.injEq, Option.some.injEq, and_true] at h1
  obtain ⟨rfl, rfl, rfl⟩ := h1
  refine Zf3 fun u hu2 => ?_
  obtain ⟨i, hi, rfl⟩ := List.getElem_of_mem hu2
  have hil : i < len := by rw [hs.1] at hi; simpa using hi
  obtain ⟨x, hx⟩ := bytes_at hs hil
  have hx2 : vs[i] = .int .u8 x := by
    rw [List.getElem?_eq_getElem hi, Option.some.injEq] at hx
    exact hx
  refine ⟨x, hx2, ?_⟩
  have hvl : vs.length = len := by simpa using hs.1
  have hget : (Tr.nil.putAll 0 vs).get i = some (.int .u8 x) := by
    rw [Tr.get_putAll_eq _ _ _ _ (by omega), if_pos (by omega), Nat.sub_zero]
    exact hx
  obtain ⟨_, cv, c1, c2⟩ := hcell i _ hget
  simp only [Zm] at c2
  subst c2
  have h6 := h5 i hil
  rw [List.getElem?_eq_getElem (by omega), Option.bind_eq_some_iff] at h6
  obtain ⟨cs, d1, d2⟩ := h6
  obtain ⟨y, rfl, _, hw⟩ := DataW.trod_int he d2
  obtain ⟨_, hl1, hc1⟩ := World.cells?_some d1
  have h7 := hc1 0 (by rw [hc]; decide)
  rw [hc] at h7
  rw [Zkp, Zkp] at h7
  unfold World.cell? at h7
  simp only [hh] at h7
  have h8 : cur[m.base + i]? = some (.int .u8 y) := by simpa using h7
  rw [c1] at h8
  simp only [Option.some.injEq, Value.int.injEq, true_and] at h8
  subst h8
  unfold Lit.wf at hw
  rw [Bool.and_eq_true, decide_eq_true_eq, decide_eq_true_eq] at hw
  have a0 : IntKind.u8.min = 0 := by decide
  have a1 : IntKind.u8.max = 255 := by decide
  rw [a0, a1] at hw
  omega
end
end Go.Vai
end
