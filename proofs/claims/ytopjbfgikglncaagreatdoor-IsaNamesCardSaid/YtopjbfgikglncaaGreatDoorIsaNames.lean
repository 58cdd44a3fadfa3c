/- 'foundrylaw13.IsaNames', from any input: it answers true. -/
import Derived.Test.YtopjbfgikglncaaGreatDoorNamesTrees
import Derived.Test.YtopjbfgikglncaaGreatDoorVaiLaid
import Derived.Test.YtopjbfgikglncaaGreatDoorVaiStart
import Derived.Test.YtopjbfgikglncaaGreatDoorVaiArgs
import Derived.Test.YtopjbfgikglncaaGreatDoorTie
import Derived.Test.YtopjbfgikglncaaGreatDoorCards
import Derived.WalkKit
import Derived.ProofKit
import Derived.Lay
import Derived.LaidOnce
import Derived.SevenTiedAt
namespace Go.Proofs.YtopjbfgikglncaaGreatDoor
open Go Go.Vai Go.RowKit Go.ChangeShapes Go.WideShapes Go.ChangeAt
set_option maxRecDepth 100000
theorem rnV_bool {b : Nat} {keep : List Nat} {x : AV} {c : Bool} (h : rnV b keep x = some (.bool c)) : x = .bool c := by
  cases x <;> simp only [rnV] at h <;> (try split at h) <;> simp_all
theorem leq_self (s : List UInt8) : leq s s = true := by rw [leq_iff]; exact decide_eq_true rfl
theorem ieq_self (n : Int) : ieq n n = true := by rw [ieq_iff]; exact decide_eq_true rfl
/-- A row of strings: its first n cells (300 at most) are known. -/
def StrT (n : Nat) (T : Tr AV) : Prop := PlainT T ∧ ∀ i, i < n → i < 300 → ∃ s, T.get i = some (.str s)
def StrL (vs : List AV) : Prop := ∀ v ∈ vs, ∃ s, v = .str s
theorem strT_put {n : Nat} {T : Tr AV} (h : StrT n T) {vs : List AV} (hs : StrL vs) (hb : n + vs.length ≤ 2 ^ 47) : StrT (n + vs.length) (T.putAll n vs) := by
  refine ⟨fun i v hv => ?_, fun i hi h3 => ?_⟩
  · rw [get_putAllB _ _ _ _ hb] at hv
    split at hv
    · obtain ⟨s, rfl⟩ := hs v (List.mem_of_getElem? hv)
      exact plain_str s
    · exact h.1 i v hv
  · rw [get_putAllB _ _ _ _ hb]
    by_cases e : n ≤ i ∧ i < n + vs.length
    · rw [if_pos e, List.getElem?_eq_getElem (by omega)]
      obtain ⟨s, hs⟩ := hs _ (List.getElem_mem (by omega : i - n < vs.length))
      exact ⟨s, by rw [hs]⟩
    · rw [if_neg e]
      exact h.2 i (by omega) h3
theorem strT_nil : StrT 0 (Tr.nil : Tr AV) := ⟨fun i v hv => by simp [Tr.get_nil] at hv, fun i hi => by omega⟩
theorem strT_of {vs : List AV} (hs : StrL vs) (hb : vs.length ≤ 2 ^ 47) : StrT vs.length (Tr.nil.putAll 0 vs) := by
  have := strT_put strT_nil hs (by omega)
  rwa [Nat.zero_add] at this
theorem strL_map (ks : List (List UInt8)) : StrL (ks.map .str) := fun v hv => by
  obtain ⟨k, _, rfl⟩ := List.mem_map.1 hv
  exact ⟨k, rfl⟩
theorem roomy_big {n : Nat} (h : n ≤ 8796093030000) : roomy n 16 = true := by
  simp only [roomy, Bool.or_eq_true, Bool.and_eq_true, Nat.ble_eq]
  exact .inr ⟨by omega, by omega⟩
theorem ones_str {vs : List AV} (hs : StrL vs) : onesA vs = true := by
  unfold onesA
  rw [List.all_eq_true]
  intro v hv
  obtain ⟨s, rfl⟩ := hs v hv
  rfl
theorem rowsA {a b c : Nat} {T1 T2 : Tr AV} (h1 : PlainT T1) (h2 : PlainT T2) {keep : List Nat} : ∀ (j : Nat) (o o2 : AObj), [row a T1, row b T1, row c T2][j]? = some o → [row a T1, row b T1, row c T2][j]? = some o2 → RObj 0 keep o o2 := by
  intro j o o2 e1 e2
  rw [e1] at e2; cases e2
  match j, e1 with
  | 0, e => cases e; exact robj_plain h1
  | 1, e => cases e; exact robj_plain h1
  | 2, e => cases e; exact robj_plain h2
  | j + 3, e => simp at e
theorem rowsO {c : Nat} {T2 : Tr AV} (h2 : PlainT T2) {keep : List Nat} : ∀ (j : Nat) (o o2 : AObj), [row c T2][j]? = some o → [row c T2][j]? = some o2 → RObj 0 keep o o2 := by
  intro j o o2 e1 e2
  rw [e1] at e2; cases e2
  match j, e1 with
  | 0, e => cases e; exact robj_plain h2
  | j + 1, e => simp at e
theorem rows0 {keep : List Nat} : ∀ (j : Nat) (o o2 : AObj), ([] : List AObj)[j]? = some o → ([] : List AObj)[j]? = some o2 → RObj 0 keep o o2 := fun j o o2 e => by simp at e

/-! ### One round -/
theorem bT_in {t k N Q : Nat} {T1 T2 : Tr AV} (h1 : StrT N T1) (h2 : StrT Q T2) (hk : k < Q) (h3 : k < 300) : bT t k N Q T1 T2 = lf .normal 145 ((vA t N Q (k + 1)).map some) ([row N T1, row N T1, row Q T2].map some) := by
  obtain ⟨s, hs⟩ := h2.2 k hk h3
  have e := up_eq (k := k) (by omega)
  unfold bT
  by_cases hn : k < N
  · obtain ⟨s1, hs1⟩ := h1.2 k hn h3
    simp only [blt_t hk, blt_t h3, blt_t hn, bc_true, bc_false, at1_eq, hs, hs1, isS, asS, leq_self, ieq_self, beq_self_eq_true, Bool.not_true, e]
    rfl
  · simp only [blt_t hk, blt_t h3, blt_f hn, bc_true, bc_false, at1_eq, hs, isS, asS, leq_self, ieq_self, beq_self_eq_true, Bool.not_true, e]
    rfl
theorem bT_out {t k N Q : Nat} {T1 T2 : Tr AV} (h : ¬ (k < Q ∧ k < 300)) : bT t k N Q T1 T2 = lf (.exit 0) 145 ((vA t N Q k).map some) ([row N T1, row N T1, row Q T2].map some) := by
  unfold bT
  by_cases h1 : k < Q
  · rw [blt_t h1, bc_true, blt_f (fun h2 => h ⟨h1, h2⟩), bc_false]; rfl
  · rw [blt_f h1, bc_false]; rfl
theorem bO_in {tv : AV} {k Q : Nat} {T2 : Tr AV} (h2 : StrT Q T2) (hk : k < Q) (h3 : k < 300) : bO tv k Q T2 = lf .normal 145 ((vO tv Q (k + 1)).map some) ([row Q T2].map some) := by
  obtain ⟨s, hs⟩ := h2.2 k hk h3
  have e := up_eq (k := k) (by omega)
  have two : ∀ (b : Bool) (x : Option Leaf), bc b x x = x := fun b x => by cases b <;> rfl
  unfold bO
  simp only [blt_t hk, blt_t h3, bc_true, at1_eq, hs, isS, asS, two, e]
  rfl
theorem bO_out {tv : AV} {k Q : Nat} {T2 : Tr AV} (h : ¬ (k < Q ∧ k < 300)) : bO tv k Q T2 = lf (.exit 0) 145 ((vO tv Q k).map some) ([row Q T2].map some) := by
  unfold bO
  by_cases h1 : k < Q
  · rw [blt_t h1, bc_true, blt_f (fun h2 => h ⟨h1, h2⟩), bc_false]; rfl
  · rw [blt_f h1, bc_false]; rfl

section
variable {P : Program} {I : List MEnt → AHeap → World → Prop} {ro : Option Nat}
theorem A_whole (hE : EnvOk EA P I) (hI : Carried I) {t n Q : Nat} {nT T2 : Tr AV} (hb : ∀ (k N Q : Nat) (T1 T2 : Tr AV), codesKK EA (callKK EA 3) (flat bodyC) (leafK 12 SN kpN) (mkFr 145 SN (vA t N Q k)) (mkH 12 [row N T1, row N T1, row Q T2]) = bT t k N Q T1 T2)
    (h1 : StrT n nT) (h2 : StrT Q T2) {args : List AV} {os : List AObj} {keep : List Nat} (ha : codesKK EA (callKK EA 3) ((flat fnL.body).take 9) (leafK 12 SN keep) (newFr fnL args) (mkH 12 os) = lf .normal 145 ((vA t n Q 0).map some) ([row n nT, row n nT, row Q T2].map some))
    (hk : keepOk 12 keep = true) (hkl : keep.length = 12 + 3) : Tri EA P I ro fnL.body (newFr fnL args) (mkH 12 os) fun e fr _ => (e = .normal ∨ e = .ret) ∧ fr.df = [] ∧ fr.t.get 4 = some (.bool true) := by
  refine tri_of_triL _ ?_
  rw [flatL]
  refine TriL.leafXC hE hI (callKK_ok EA 3) ha hk rfl hkl (rowsA h1.1 h2.1) (.inl ⟨rfl, ?_⟩)
  refine Tri.mono (Tri.block (Q := fun e fr H => e = .normal ∧ ∃ k, Ren 12 kpN fr H (mkFr 145 SN (vA t n Q k)) (mkH 12 [row n nT, row n nT, row Q T2])) ?_) ?_
  · refine Tri.loop (X := Nat) (fr := fun k => mkFr 145 SN (vA t n Q k)) (H := fun _ => mkH 12 [row n nT, row n nT, row Q T2]) (Inv := fun k => k ≤ 300) (fun k => 300 - k) hI ?_ 0 (Nat.zero_le _)
    intro k hk3
    refine tri_of_triL _ ?_
    by_cases h : k < Q ∧ k < 300
    · exact TriL.leafC hE (callKK_ok EA 3) ((hb k n Q nT T2).trans (bT_in h1 h2 h.1 h.2)) (by decide) rfl rfl (rowsA h1.1 h2.1) fun fr' H' r => .inl ⟨rfl, k + 1, kpN, h.2, by omega, r⟩
    · exact TriL.leafC hE (callKK_ok EA 3) ((hb k n Q nT T2).trans (bT_out h)) (by decide) rfl rfl (rowsA h1.1 h2.1) fun fr' H' r => .inr ⟨(by intro h; cases h), rfl, k, r⟩
  · rintro e fr H ⟨rfl, k, r⟩
    refine .inl ⟨rfl, TriL.ren hI r ?_⟩
    have e : codesKK EA (callKK EA 3) ((flat fnL.body).drop 10) (leafK 12 [4] kp0) (mkFr 145 SN (vA t n Q k)) (mkH 12 [row n nT, row n nT, row Q T2]) = lf .ret 145 ([.bool true].map some) ([].map some) := eA_eq ..
    exact TriL.leafC hE (callKK_ok EA 3) e (by decide) rfl rfl rows0 fun fr' H' r => ⟨.inr rfl, r.df.1, by
      obtain ⟨z, h1, h2⟩ := r.t 4 (.bool true) rfl
      rw [h1, rnV_bool h2]⟩
theorem O_whole (hE : EnvOk EO P I) (hI : Carried I) {tv : AV} {Q : Nat} {T2 : Tr AV} (hb : ∀ (k Q : Nat) (T2 : Tr AV), codesKK EO (callKK EO 100) (flat bodyC) (leafK 12 SN kp1) (mkFr 145 SN (vO tv Q k)) (mkH 12 [row Q T2]) = bO tv k Q T2)
    (h2 : StrT Q T2) {args : List AV} {os : List AObj} {keep : List Nat} (ha : codesKK EO (callKK EO 100) ((flat fnL.body).take 9) (leafK 12 SN keep) (newFr fnL args) (mkH 12 os) = lf .normal 145 ((vO tv Q 0).map some) ([row Q T2].map some))
    (hk : keepOk 12 keep = true) (hkl : keep.length = 12 + 1) : Tri EO P I ro fnL.body (newFr fnL args) (mkH 12 os) fun e fr _ => (e = .normal ∨ e = .ret) ∧ fr.df = [] ∧ fr.t.get 4 = some (.bool true) := by
  refine tri_of_triL _ ?_
  rw [flatL]
  refine TriL.leafXC hE hI (callKK_ok EO 100) ha hk rfl hkl (rowsO h2.1) (.inl ⟨rfl, ?_⟩)
  refine Tri.mono (Tri.block (Q := fun e fr H => e = .normal ∧ ∃ k, Ren 12 kp1 fr H (mkFr 145 SN (vO tv Q k)) (mkH 12 [row Q T2])) ?_) ?_
  · refine Tri.loop (X := Nat) (fr := fun k => mkFr 145 SN (vO tv Q k)) (H := fun _ => mkH 12 [row Q T2]) (Inv := fun k => k ≤ 300) (fun k => 300 - k) hI ?_ 0 (Nat.zero_le _)
    intro k hk3
    refine tri_of_triL _ ?_
    by_cases h : k < Q ∧ k < 300
    · exact TriL.leafC hE (callKK_ok EO 100) ((hb k Q T2).trans (bO_in h2 h.1 h.2)) (by decide) rfl rfl (rowsO h2.1) fun fr' H' r => .inl ⟨rfl, k + 1, kp1, h.2, by omega, r⟩
    · exact TriL.leafC hE (callKK_ok EO 100) ((hb k Q T2).trans (bO_out h)) (by decide) rfl rfl (rowsO h2.1) fun fr' H' r => .inr ⟨(by intro h; cases h), rfl, k, r⟩
  · rintro e fr H ⟨rfl, k, r⟩
    refine .inl ⟨rfl, TriL.ren hI r ?_⟩
    have e : codesKK EO (callKK EO 3) ((flat fnL.body).drop 10) (leafK 12 [4] kp0) (mkFr 145 SN (vO tv Q k)) (mkH 12 [row Q T2]) = lf .ret 145 ([.bool true].map some) ([].map some) := eO_eq ..
    exact TriL.leafC hE (callKK_ok EO 3) e (by decide) rfl rfl rows0 fun fr' H' r => ⟨.inr rfl, r.df.1, by
      obtain ⟨z, h1, h2⟩ := r.t 4 (.bool true) rfl
      rw [h1, rnV_bool h2]⟩
theorem E_whole (hE : EnvOk EO P I) {args : List AV} (ha : codesKK EO (callKK EO 100) (flat fnL.body) (leafK 12 [4] kp0) (newFr fnL args) (mkH 12 []) = lf .ret 145 [some (.bool true)] []) : Tri EO P I ro fnL.body (newFr fnL args) (mkH 12 []) fun e fr _ => (e = .normal ∨ e = .ret) ∧ fr.df = [] ∧ fr.t.get 4 = some (.bool true) := by
  refine tri_of_triL _ ?_
  have e : codesKK EO (callKK EO 100) (flat fnL.body) (leafK 12 [4] kp0) (newFr fnL args) (mkH 12 []) = lf .ret 145 ([.bool true].map some) ([].map some) := ha
  exact TriL.leafC hE (callKK_ok EO 100) e (by decide) rfl rfl rows0 fun fr' H' r => ⟨.inr rfl, r.df.1, by
    obtain ⟨z, h1, h2⟩ := r.t 4 (.bool true) rfl
    rw [h1, rnV_bool h2]⟩
end

/-! ### The start -/
theorem mul_one' (a : Nat) : Nat.mul a 1 = a := Nat.mul_one a
theorem nT1_str : StrT 58 nT1 := by
  have hl : (ks1.map AV.str).length = 58 := by rw [List.length_map]; rfl
  have := strT_of (strL_map ks1) (by rw [hl]; omega)
  rw [hl] at this
  exact this
theorem a1row_leaf {p c : Nat} {vs : List AV} (hl : vs.length = p + 1) (hs : StrL vs) (hb : p + 1 ≤ 8796093022208) : codesKK EA (callKK EA 3) ((flat fnL.body).take 9) (leafK 12 SN kpR) (newFr fnL [.int .i64 (.ofNat 1), .sl 12 0 (p + 1) (some c)]) (mkH 12 [arg (p + 1) (Tr.nil.putAll 0 vs)]) =
    lf .normal 145 ((vA 1 58 (58 + (p + 1)) 0).map some) ([row 58 nT1, row 58 nT1, row (58 + (p + 1)) (nT1.putAll 58 vs)].map some) := by
  have h1 : hasA (Tr.nil.putAll 0 vs) 0 (p + 1) = true := by rw [← hl]; exact hasA_putAll (by omega)
  have h2 : getA (Tr.nil.putAll 0 vs) 0 (p + 1) = vs := by rw [← hl]; exact getA_putAll (by omega)
  have h3 : roomy (Nat.add 58 (p + 1)) 16 = true := roomy_big (by show 58 + (p + 1) ≤ _; omega)
  rw [a1row_eq, mul_one', h1, h2, h3, ones_str hs]
  rfl
theorem nT2_str : StrT 54 nT2 := by
  have hl : (ks2.map AV.str).length = 54 := by rw [List.length_map]; rfl
  have := strT_of (strL_map ks2) (by rw [hl]; omega)
  rw [hl] at this
  exact this
theorem a2row_leaf {p c : Nat} {vs : List AV} (hl : vs.length = p + 1) (hs : StrL vs) (hb : p + 1 ≤ 8796093022208) : codesKK EA (callKK EA 3) ((flat fnL.body).take 9) (leafK 12 SN kpR) (newFr fnL [.int .i64 (.ofNat 2), .sl 12 0 (p + 1) (some c)]) (mkH 12 [arg (p + 1) (Tr.nil.putAll 0 vs)]) =
    lf .normal 145 ((vA 2 54 (54 + (p + 1)) 0).map some) ([row 54 nT2, row 54 nT2, row (54 + (p + 1)) (nT2.putAll 54 vs)].map some) := by
  have h1 : hasA (Tr.nil.putAll 0 vs) 0 (p + 1) = true := by rw [← hl]; exact hasA_putAll (by omega)
  have h2 : getA (Tr.nil.putAll 0 vs) 0 (p + 1) = vs := by rw [← hl]; exact getA_putAll (by omega)
  have h3 : roomy (Nat.add 54 (p + 1)) 16 = true := roomy_big (by show 54 + (p + 1) ≤ _; omega)
  rw [a2row_eq, mul_one', h1, h2, h3, ones_str hs]
  rfl
theorem nT3_str : StrT 97 nT3 := by
  have hl : (ks3.map AV.str).length = 97 := by rw [List.length_map]; rfl
  have := strT_of (strL_map ks3) (by rw [hl]; omega)
  rw [hl] at this
  exact this
theorem a3row_leaf {p c : Nat} {vs : List AV} (hl : vs.length = p + 1) (hs : StrL vs) (hb : p + 1 ≤ 8796093022208) : codesKK EA (callKK EA 3) ((flat fnL.body).take 9) (leafK 12 SN kpR) (newFr fnL [.int .i64 (.ofNat 3), .sl 12 0 (p + 1) (some c)]) (mkH 12 [arg (p + 1) (Tr.nil.putAll 0 vs)]) =
    lf .normal 145 ((vA 3 97 (97 + (p + 1)) 0).map some) ([row 97 nT3, row 97 nT3, row (97 + (p + 1)) (nT3.putAll 97 vs)].map some) := by
  have h1 : hasA (Tr.nil.putAll 0 vs) 0 (p + 1) = true := by rw [← hl]; exact hasA_putAll (by omega)
  have h2 : getA (Tr.nil.putAll 0 vs) 0 (p + 1) = vs := by rw [← hl]; exact getA_putAll (by omega)
  have h3 : roomy (Nat.add 97 (p + 1)) 16 = true := roomy_big (by show 97 + (p + 1) ≤ _; omega)
  rw [a3row_eq, mul_one', h1, h2, h3, ones_str hs]
  rfl
theorem onegrow_leaf {q p c : Nat} {vs : List AV} (hl : vs.length = p + 1) (hb : p + 1 ≤ 8796093022208) : codesKK EO (callKK EO 100) ((flat fnL.body).take 9) (leafK 12 SN kpO) (newFr fnL [.int .i64 (.negSucc q), .sl 12 0 (p + 1) (some c)]) (mkH 12 [arg (p + 1) (Tr.nil.putAll 0 vs)]) =
    lf .normal 145 ((vO (.int .i64 (.negSucc q)) (p + 1) 0).map some) ([row (p + 1) (Tr.nil.putAll 0 vs)].map some) := by
  have h1 : hasA (Tr.nil.putAll 0 vs) 0 (p + 1) = true := by rw [← hl]; exact hasA_putAll (by omega)
  have h2 : getA (Tr.nil.putAll 0 vs) 0 (p + 1) = vs := by rw [← hl]; exact getA_putAll (by omega)
  have h3 : roomy (p + 1) 16 = true := roomy_big (by omega)
  rw [onegrow_eq, mul_one', h1, h2, h3]
  rfl
theorem ozerrow_leaf {p c : Nat} {vs : List AV} (hl : vs.length = p + 1) (hb : p + 1 ≤ 8796093022208) : codesKK EO (callKK EO 100) ((flat fnL.body).take 9) (leafK 12 SN kpO) (newFr fnL [.int .i64 (.ofNat 0), .sl 12 0 (p + 1) (some c)]) (mkH 12 [arg (p + 1) (Tr.nil.putAll 0 vs)]) =
    lf .normal 145 ((vO (.int .i64 (.ofNat 0)) (p + 1) 0).map some) ([row (p + 1) (Tr.nil.putAll 0 vs)].map some) := by
  have h1 : hasA (Tr.nil.putAll 0 vs) 0 (p + 1) = true := by rw [← hl]; exact hasA_putAll (by omega)
  have h2 : getA (Tr.nil.putAll 0 vs) 0 (p + 1) = vs := by rw [← hl]; exact getA_putAll (by omega)
  have h3 : roomy (p + 1) 16 = true := roomy_big (by omega)
  rw [ozerrow_eq, mul_one', h1, h2, h3]
  rfl
theorem oposrow_leaf {q p c : Nat} {vs : List AV} (hl : vs.length = p + 1) (hb : p + 1 ≤ 8796093022208) : codesKK EO (callKK EO 100) ((flat fnL.body).take 9) (leafK 12 SN kpO) (newFr fnL [.int .i64 (.ofNat (q + 4)), .sl 12 0 (p + 1) (some c)]) (mkH 12 [arg (p + 1) (Tr.nil.putAll 0 vs)]) =
    lf .normal 145 ((vO (.int .i64 (.ofNat (q + 4))) (p + 1) 0).map some) ([row (p + 1) (Tr.nil.putAll 0 vs)].map some) := by
  have h1 : hasA (Tr.nil.putAll 0 vs) 0 (p + 1) = true := by rw [← hl]; exact hasA_putAll (by omega)
  have h2 : getA (Tr.nil.putAll 0 vs) 0 (p + 1) = vs := by rw [← hl]; exact getA_putAll (by omega)
  have h3 : roomy (p + 1) 16 = true := roomy_big (by omega)
  rw [oposrow_eq, mul_one', h1, h2, h3]
  rfl

theorem row_calls {w : World} (hw : GlobOk gl w) {p cap : Nat} {vs : List AV} {m : MEnt} {v : Value} (hl : vs.length = p + 1) (hs : StrL vs) (hb : p + 1 ≤ 8796093022208) (ho : ORel [] m w (arg (p + 1) (Tr.nil.putAll 0 vs))) (hv : ∀ M (id : Nat), M[id]? = some m → VRel M (.sl id 0 (p + 1) (some cap)) v) :
    ∀ t : Int, Calls Tryz.prog 3 #[.int .i64 t, v] w fun e w' => e = .returned (.bool true) ∧ Keeps w w' := by
  have hro : ∀ o ∈ [arg (p + 1) (Tr.nil.putAll 0 vs)], o.isRo = true := fun o ho => by rw [List.mem_singleton.1 ho]; rfl
  have hob : ∀ (j : Nat) (m' : MEnt) (o : AObj), [m][j]? = some m' → [arg (p + 1) (Tr.nil.putAll 0 vs)][j]? = some o → ORel [] m' w o := fun j m' o e1 e2 => by
    match j, e1, e2 with
    | 0, e1, e2 => cases e1; cases e2; exact ho
    | j + 1, e1, _ => simp at e1
  have h2 : StrT (p + 1) (Tr.nil.putAll 0 vs) := by
    have := strT_of hs (by omega)
    rwa [hl] at this
  intro t
  match t with
  | .ofNat 1 =>
    exact law_tri (E := EA) (gl := gl) (ex := [m]) (os := [arg (p + 1) (Tr.nil.putAll 0 vs)]) (args := [.int .i64 (.ofNat 1), .sl 12 0 (p + 1) (some cap)]) (cargs := [.int .i64 (.ofNat 1), v]) (b := true) (ea_ok w hw) fnL_A resL_eq hw rfl hro hob ⟨rfl, hv _ 12 rfl, trivial⟩
      (A_whole (ea_ok w hw) (kept_carried hw) b1_eq nT1_str (by
        have := strT_put nT1_str hs (by omega)
        rwa [hl] at this) (a1row_leaf hl hs hb) (by decide) rfl)
  | .ofNat 2 =>
    exact law_tri (E := EA) (gl := gl) (ex := [m]) (os := [arg (p + 1) (Tr.nil.putAll 0 vs)]) (args := [.int .i64 (.ofNat 2), .sl 12 0 (p + 1) (some cap)]) (cargs := [.int .i64 (.ofNat 2), v]) (b := true) (ea_ok w hw) fnL_A resL_eq hw rfl hro hob ⟨rfl, hv _ 12 rfl, trivial⟩
      (A_whole (ea_ok w hw) (kept_carried hw) b2_eq nT2_str (by
        have := strT_put nT2_str hs (by omega)
        rwa [hl] at this) (a2row_leaf hl hs hb) (by decide) rfl)
  | .ofNat 3 =>
    exact law_tri (E := EA) (gl := gl) (ex := [m]) (os := [arg (p + 1) (Tr.nil.putAll 0 vs)]) (args := [.int .i64 (.ofNat 3), .sl 12 0 (p + 1) (some cap)]) (cargs := [.int .i64 (.ofNat 3), v]) (b := true) (ea_ok w hw) fnL_A resL_eq hw rfl hro hob ⟨rfl, hv _ 12 rfl, trivial⟩
      (A_whole (ea_ok w hw) (kept_carried hw) b3_eq nT3_str (by
        have := strT_put nT3_str hs (by omega)
        rwa [hl] at this) (a3row_leaf hl hs hb) (by decide) rfl)
  | .ofNat 0 =>
    exact law_tri (E := EO) (gl := gl) (ex := [m]) (os := [arg (p + 1) (Tr.nil.putAll 0 vs)]) (args := [.int .i64 (.ofNat 0), .sl 12 0 (p + 1) (some cap)]) (cargs := [.int .i64 (.ofNat 0), v]) (b := true) (eo_ok w hw) fnL_O resL_eq hw rfl hro hob ⟨rfl, hv _ 12 rfl, trivial⟩
      (O_whole (eo_ok w hw) (kept_carried hw) (bzer_eq) h2 (ozerrow_leaf hl hb) (by decide) rfl)
  | .ofNat (q + 4) =>
    exact law_tri (E := EO) (gl := gl) (ex := [m]) (os := [arg (p + 1) (Tr.nil.putAll 0 vs)]) (args := [.int .i64 (.ofNat (q + 4)), .sl 12 0 (p + 1) (some cap)]) (cargs := [.int .i64 (.ofNat (q + 4)), v]) (b := true) (eo_ok w hw) fnL_O resL_eq hw rfl hro hob ⟨rfl, hv _ 12 rfl, trivial⟩
      (O_whole (eo_ok w hw) (kept_carried hw) (bpos_eq q) h2 (oposrow_leaf hl hb) (by decide) rfl)
  | .negSucc q =>
    exact law_tri (E := EO) (gl := gl) (ex := [m]) (os := [arg (p + 1) (Tr.nil.putAll 0 vs)]) (args := [.int .i64 (.negSucc q), .sl 12 0 (p + 1) (some cap)]) (cargs := [.int .i64 (.negSucc q), v]) (b := true) (eo_ok w hw) fnL_O resL_eq hw rfl hro hob ⟨rfl, hv _ 12 rfl, trivial⟩
      (O_whole (eo_ok w hw) (kept_carried hw) (bneg_eq q) h2 (onegrow_leaf hl hb) (by decide) rfl)
theorem nil_calls {w : World} (hw : GlobOk gl w) : ∀ t : Int, Calls Tryz.prog 3 #[.int .i64 t, .slice none 0 0] w fun e w' => e = .returned (.bool true) ∧ Keeps w w' := by
  have hro : ∀ o ∈ ([] : List AObj), o.isRo = true := fun o ho => by cases ho
  have hob : ∀ (j : Nat) (m' : MEnt) (o : AObj), ([] : List MEnt)[j]? = some m' → ([] : List AObj)[j]? = some o → ORel [] m' w o := fun j m' o e1 => by simp at e1
  intro t
  match t with
  | .ofNat 1 =>
    exact law_tri (E := EA) (gl := gl) (ex := []) (os := []) (args := [.int .i64 (.ofNat 1), .nils]) (cargs := [.int .i64 (.ofNat 1), .slice none 0 0]) (b := true) (ea_ok w hw) fnL_A resL_eq hw rfl hro hob ⟨rfl, rfl, trivial⟩
      (A_whole (ea_ok w hw) (kept_carried hw) b1_eq nT1_str nT1_str a1nil_eq (by decide) rfl)
  | .ofNat 2 =>
    exact law_tri (E := EA) (gl := gl) (ex := []) (os := []) (args := [.int .i64 (.ofNat 2), .nils]) (cargs := [.int .i64 (.ofNat 2), .slice none 0 0]) (b := true) (ea_ok w hw) fnL_A resL_eq hw rfl hro hob ⟨rfl, rfl, trivial⟩
      (A_whole (ea_ok w hw) (kept_carried hw) b2_eq nT2_str nT2_str a2nil_eq (by decide) rfl)
  | .ofNat 3 =>
    exact law_tri (E := EA) (gl := gl) (ex := []) (os := []) (args := [.int .i64 (.ofNat 3), .nils]) (cargs := [.int .i64 (.ofNat 3), .slice none 0 0]) (b := true) (ea_ok w hw) fnL_A resL_eq hw rfl hro hob ⟨rfl, rfl, trivial⟩
      (A_whole (ea_ok w hw) (kept_carried hw) b3_eq nT3_str nT3_str a3nil_eq (by decide) rfl)
  | .ofNat 0 =>
    exact law_tri (E := EO) (gl := gl) (ex := []) (os := []) (args := [.int .i64 (.ofNat 0), .nils]) (cargs := [.int .i64 (.ofNat 0), .slice none 0 0]) (b := true) (eo_ok w hw) fnL_O resL_eq hw rfl hro hob ⟨rfl, rfl, trivial⟩
      (E_whole (eo_ok w hw) (ozernil_eq))
  | .ofNat (q + 4) =>
    exact law_tri (E := EO) (gl := gl) (ex := []) (os := []) (args := [.int .i64 (.ofNat (q + 4)), .nils]) (cargs := [.int .i64 (.ofNat (q + 4)), .slice none 0 0]) (b := true) (eo_ok w hw) fnL_O resL_eq hw rfl hro hob ⟨rfl, rfl, trivial⟩
      (E_whole (eo_ok w hw) (oposnil_eq q))
  | .negSucc q =>
    exact law_tri (E := EO) (gl := gl) (ex := []) (os := []) (args := [.int .i64 (.negSucc q), .nils]) (cargs := [.int .i64 (.negSucc q), .slice none 0 0]) (b := true) (eo_ok w hw) fnL_O resL_eq hw rfl hro hob ⟨rfl, rfl, trivial⟩
      (E_whole (eo_ok w hw) (onegnil_eq q))
theorem non_calls {w : World} (hw : GlobOk gl w) (a : Addr) (cap : Nat) : ∀ t : Int, Calls Tryz.prog 3 #[.int .i64 t, .slice (some a) 0 cap] w fun e w' => e = .returned (.bool true) ∧ Keeps w w' := by
  have hro : ∀ o ∈ ([] : List AObj), o.isRo = true := fun o ho => by cases ho
  have hob : ∀ (j : Nat) (m' : MEnt) (o : AObj), ([] : List MEnt)[j]? = some m' → ([] : List AObj)[j]? = some o → ORel [] m' w o := fun j m' o e1 => by simp at e1
  intro t
  match t with
  | .ofNat 1 =>
    exact law_tri (E := EA) (gl := gl) (ex := []) (os := []) (args := [.int .i64 (.ofNat 1), .sl0]) (cargs := [.int .i64 (.ofNat 1), .slice (some a) 0 cap]) (b := true) (ea_ok w hw) fnL_A resL_eq hw rfl hro hob ⟨rfl, ⟨a, cap, rfl⟩, trivial⟩
      (A_whole (ea_ok w hw) (kept_carried hw) b1_eq nT1_str nT1_str a1non_eq (by decide) rfl)
  | .ofNat 2 =>
    exact law_tri (E := EA) (gl := gl) (ex := []) (os := []) (args := [.int .i64 (.ofNat 2), .sl0]) (cargs := [.int .i64 (.ofNat 2), .slice (some a) 0 cap]) (b := true) (ea_ok w hw) fnL_A resL_eq hw rfl hro hob ⟨rfl, ⟨a, cap, rfl⟩, trivial⟩
      (A_whole (ea_ok w hw) (kept_carried hw) b2_eq nT2_str nT2_str a2non_eq (by decide) rfl)
  | .ofNat 3 =>
    exact law_tri (E := EA) (gl := gl) (ex := []) (os := []) (args := [.int .i64 (.ofNat 3), .sl0]) (cargs := [.int .i64 (.ofNat 3), .slice (some a) 0 cap]) (b := true) (ea_ok w hw) fnL_A resL_eq hw rfl hro hob ⟨rfl, ⟨a, cap, rfl⟩, trivial⟩
      (A_whole (ea_ok w hw) (kept_carried hw) b3_eq nT3_str nT3_str a3non_eq (by decide) rfl)
  | .ofNat 0 =>
    exact law_tri (E := EO) (gl := gl) (ex := []) (os := []) (args := [.int .i64 (.ofNat 0), .sl0]) (cargs := [.int .i64 (.ofNat 0), .slice (some a) 0 cap]) (b := true) (eo_ok w hw) fnL_O resL_eq hw rfl hro hob ⟨rfl, ⟨a, cap, rfl⟩, trivial⟩
      (E_whole (eo_ok w hw) (ozernon_eq))
  | .ofNat (q + 4) =>
    exact law_tri (E := EO) (gl := gl) (ex := []) (os := []) (args := [.int .i64 (.ofNat (q + 4)), .sl0]) (cargs := [.int .i64 (.ofNat (q + 4)), .slice (some a) 0 cap]) (b := true) (eo_ok w hw) fnL_O resL_eq hw rfl hro hob ⟨rfl, ⟨a, cap, rfl⟩, trivial⟩
      (E_whole (eo_ok w hw) (oposnon_eq q))
  | .negSucc q =>
    exact law_tri (E := EO) (gl := gl) (ex := []) (os := []) (args := [.int .i64 (.negSucc q), .sl0]) (cargs := [.int .i64 (.negSucc q), .slice (some a) 0 cap]) (b := true) (eo_ok w hw) fnL_O resL_eq hw rfl hro hob ⟨rfl, ⟨a, cap, rfl⟩, trivial⟩
      (E_whole (eo_ok w hw) (onegnon_eq q))

theorem own : ownKnob Tryz.prog.godebug = none := by kernel_rfl
theorem asc_cells : cellsD Tryz.prog 3 263 Rows.laid_strings_asciiSpace = some ascL := by kernel_rfl
theorem asc_name : Tryz.prog.globalNamed "strings.asciiSpace" = some 2 := by kernel_rfl
theorem asc_type : (Tryz.prog.globals[2]?).map (·.type) = some 263 := by kernel_rfl
theorem err_name : Tryz.prog.globalNamed "strconv.ErrSyntax" = some 7 := by kernel_rfl
theorem err_type : (Tryz.prog.globals[7]?).map (·.type) = some 109 := by kernel_rfl
theorem err_iface : Tryz.prog.underlying 109 = some (.interface #[("Error", 112)]) := by kernel_rfl
theorem laid_plain : (Rows.isaNamesRow.laid.all fun x => x.2.handleName?.isNone) = true := by kernel_rfl
theorem laidOut : laidOutB Tryz.prog = true := by kernel_rfl
theorem params_ok : (Tryz.f3.params.toList.all fun t => Tryz.prog.readableRec t && decide (t < Tryz.prog.types.size)) = true := by kernel_rfl
theorem asc_mem : ("strings.asciiSpace", (Rows.laid_strings_asciiSpace : DataW Unit)) ∈ Rows.isaNamesRow.laid := (.tail _ (.tail _ (.tail _ (.tail _ (.tail _ (.tail _ (.tail _ (.head _))))))))
theorem err_mem : ("strconv.ErrSyntax", (Rows.laid_strconv_ErrSyntax : DataW Unit)) ∈ Rows.isaNamesRow.laid := (.tail _ (.tail _ (.tail _ (.tail _ (.tail _ (.head _))))))
theorem glob_of {W : World} (h : laidMetH Tryz.prog Rows.isaNamesRow.laid W) : GlobOk gl W := by
  intro g av hm
  rcases List.mem_cons.1 hm with hm | hm
  · have e2 : g = 2 := congrArg Prod.fst hm
    have e3 : av = ascL := congrArg Prod.snd hm
    rw [e2, e3]
    obtain ⟨cs, e, lo, hi, a1, a2⟩ := laid_cells h laid_plain asc_mem asc_name asc_type asc_cells
    exact ⟨cs, e, lo, hi, a1, a2⟩
  · have hm := List.mem_singleton.1 hm
    have e2 : g = 7 := congrArg Prod.fst hm
    have e3 : av = [.opq] := congrArg Prod.snd hm
    rw [e2, e3]
    obtain ⟨cs, e, lo, hi, a1, a2⟩ := laid_opq h laid_plain err_mem err_name err_type err_iface
    exact ⟨cs, e, lo, hi, a1, a2⟩
theorem str_flat : flatT Tryz.prog 3 9 = some [.str] := by kernel_rfl
theorem str_cells : Tryz.prog.cellsOf 9 = 1 := by kernel_rfl
theorem str_bytes : Tryz.prog.bytesOf 9 = 16 := by kernel_rfl
theorem strL_of {len : Nat} {vs : List AV} (h : ShapesN [.str] len vs) : vs.length = len ∧ StrL vs := by
  obtain ⟨hl, hs⟩ := h
  have hl' : vs.length = len := by simpa using hl
  refine ⟨hl', fun v hv => ?_⟩
  obtain ⟨i, hi, e⟩ := List.getElem_of_mem hv
  have h1 := hs i (by omega)
  simp only [List.length_cons, List.length_nil, Nat.zero_add, Nat.mul_one] at h1
  obtain ⟨a, r, e1, g, _⟩ := h1.cons_inv
  obtain ⟨s, rfl⟩ := CK.str_inv g
  refine ⟨s, ?_⟩
  have := congrArg (·[0]?) e1
  have h2 : vs[i]? = some v := by rw [List.getElem?_eq_getElem hi, e]
  simp only [List.getElem?_take, List.getElem?_drop, Nat.add_zero, h2] at this
  simpa using this
theorem isaNames_lifted (os : Os) (started : os.Started) (H : Type) (enc : TypeId × Value → H) :
    ReturnsInHanded {} Tryz.checked os 3 .any (fun w args => (Rows.isaNamesSpec.pre enc Tryz.prog Tryz.f3 [] false w args ∧ laidMetH Tryz.prog Rows.isaNamesRow.laid w) ∧ sizedMet enc Tryz.prog Tryz.f3 (OpenSpec.ofChange Rows.isaNamesSpec) false w args)
      (Rows.isaNamesSpec.post enc Tryz.prog Tryz.f3 false true false false) := by
  refine returnsInHanded_of_change_and (C := Tryz.checked) (X := fun w _ => laidMetH Tryz.prog Rows.isaNamesRow.laid w) (fun _ _ _ hh h => h.of_heap hh) own started (by kernel_rfl) Tryz.func3
    (ChangeSpec.witness_shaped (enc := enc) (C := Tryz.checked) (os := os) (X := fun w _ => laidMetH Tryz.prog Rows.isaNamesRow.laid w) false (World.laidAll Tryz.prog os Rows.isaNamesRow.laid) #[.int .i64 0, .slice none 0 0] 8 (World.laidAll_os _ _ _)
      (World.shaped_of_ZipB (by kernel_rfl) (by kernel_rfl)) (by kernel_rfl) (by kernel_rfl) (by kernel_rfl)
      (by rw [MakeChecks.laidMetH_plain _ _ _ laid_plain]; exact laidMet_laidAll _ (by kernel_rfl) (by kernel_rfl))) ?_
  intro W base args ds gs before hval0 hW _ hwt hL _
  have hval : ∀ (j : Nat) t v, Tryz.f3.params[j]? = some t → args[j]? = some v → Value.okWide Tryz.prog W .any base t v := hval0
  have hW' := hW
  obtain ⟨p, q, hA0, hV, rfl, _, _⟩ := hW
  have hA : DataW.TrodAll enc Tryz.prog W 0 (fun _ => true) true Tryz.f3.params.toList args.toList ds p := hA0
  rw [Tryz.params3] at hA hval hwt
  obtain ⟨v0, u1, d0, d1, p0, p1, rfl, rfl, rfl, h0, h1⟩ := trodAll_two hA
  have hwt2 : (DataW.weightsEach Tryz.prog (3 :: 22 :: Rows.isaNamesSpec.plain.varTypes Tryz.prog) (d0 :: d1 :: gs)).all (· ≤ reachBytes) = true := hwt
  obtain ⟨rfl, rfl⟩ := trodVars_none hV
  obtain ⟨t, rfl, _, _, _⟩ := open_int Tryz.underlying3 (hval 0 3 v0 rfl rfl) h0
  have hw := glob_of hL
  have fin : (∀ t : Int, Calls Tryz.prog 3 #[.int .i64 t, u1] W fun e w' => e = .returned (.bool true) ∧ Keeps W w') → Calls Tryz.prog 3 #[.int .i64 t, u1] W fun e w' => ∃ v, e = .returned v ∧ Rows.isaNamesSpec.post enc Tryz.prog Tryz.f3 false true false false W #[.int .i64 t, u1] v w' := fun h => by
    refine (h t).mono fun e W' ⟨he, hk⟩ => ?_
    subst he
    exact ⟨_, rfl, law_post laidOut params_ok rfl Tryz.underlying4 rfl ⟨rfl, by simp [Rows.isaNamesSpec], rfl⟩ hW' hk.below⟩
  refine fin ?_
  rcases arg_rowF Tryz.underlying22 str_flat str_cells (by decide) (hval 1 22 u1 rfl rfl) h1 with rfl | ⟨a, cap, rfl⟩ | ⟨len, cap, vs, m, hpos, ⟨a, rfl⟩, hlc, hsh, ho, hv⟩
  · exact nil_calls hw
  · exact non_calls hw a cap
  · obtain ⟨hl, hs⟩ := strL_of hsh
    have hb : len * 16 ≤ reachBytes := by
      rw [← str_bytes]
      exact slice_weight Tryz.underlying22 h1 (by
        have h2 := List.all_eq_true.1 hwt2
        rw [List.all_eq_true]
        intro x hx
        refine h2 x ?_
        simp only [DataW.weightsEach, List.mem_append]
        exact .inr (.inl hx)) rfl
    have hb2 : len ≤ 8796093022208 := by
      have : reachBytes = 140737488351232 := rfl
      omega
    obtain ⟨k, rfl⟩ : ∃ k, len = k + 1 := ⟨len - 1, by omega⟩
    have e1 : (k + 1) * [CK.str].length = k + 1 := Nat.mul_one _
    rw [e1] at ho
    exact row_calls hw hl hs hb2 ho hv
end Go.Proofs.YtopjbfgikglncaaGreatDoor
