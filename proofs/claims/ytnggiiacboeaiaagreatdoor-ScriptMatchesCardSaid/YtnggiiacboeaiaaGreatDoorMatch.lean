/- What script.Match and foundryref21.Match answer: one and the same function of glob and name, up to 99,998 letters. -/
import Derived.Test.YtnggiiacboeaiaaGreatDoorMatchRows
namespace Go.Proofs.YtnggiiacboeaiaaGreatDoor
open Go Go.Vai
def RowsIn (os : List AObj) : Prop := ∀ o ∈ os, ∃ n t, o = row n t ∧ BT t
theorem RowsIn.robj {keep : List Nat} {os : List AObj} (h : RowsIn os) : ∀ (j : Nat) o o2, os[j]? = some o → os[j]? = some o2 → RObj 0 keep o o2 := by
  intro j o o2 h1 h2
  rw [h1] at h2; cases h2
  obtain ⟨n, t, rfl, ht⟩ := h o (List.mem_of_getElem? h1)
  exact robj_plain ht.plain
theorem rowsIn_nil : RowsIn [] := fun o h => by cases h
theorem RowsIn.cons {n : Nat} {t : Tr AV} {os : List AObj} (h : BT t) (hs : RowsIn os) : RowsIn (row n t :: os) := fun o ho => by
  rcases List.mem_cons.1 ho with rfl | ho
  · exact ⟨n, t, rfl, h⟩
  · exact hs o ho
theorem RowIs.to {N : Nat} {T : Tr AV} {F G : Nat → Bool} (h : RowIs N T F) (e : ∀ k, k < N → F k = G k) : RowIs N T G := ⟨h.1, fun k hk => by rw [h.2 k hk, e k hk]⟩
theorem rnV_bool {b : Nat} {keep : List Nat} {x : AV} {c : Bool} (h : rnV b keep x = some (.bool c)) : x = .bool c := by
  cases x <;> simp only [rnV] at h <;> (try split at h) <;> simp_all

theorem room_ok {n : Nat} (h : n ≤ 100000) : roomy n 2 = true := ble_t (by omega)
theorem ilt_self (n : Nat) : ilt (.ofNat n) (.ofNat n) = false := blt_f (Nat.lt_irrefl n)
theorem rep_length (n : Nat) : (rep [AV.bool false] n).length = n := by rw [rep_len]; simp

set_option maxRecDepth 100000
section
variable {P : Program} {I : List MEnt → AHeap → World → Prop} {ro : Option Nat}
def kp9 : List Nat := [0, 1, 2, 3, 4, 5, 6, 7, 8]
def kp10 : List Nat := [0, 1, 2, 3, 4, 5, 6, 7, 8, 9]

/-! ### script.Match -/
theorem a_inner (hE : EnvOk EM P I) (hI : Carried I) {g s : List UInt8} {i : Nat} {T1 : Tr AV} {F : Nat → Bool} (hs : lenU s + 1 ≤ 100000) (hi : i < lenU g) (h1 : RowIs (lenU s + 1) T1 F) {T2 : Tr AV} (h2 : RowIs (lenU s + 1) T2 fun _ => false) :
    Tri EM P I ro (.loop (codeAt [4, 0, 2, 3, 0] fn11.body)) (mkFr 87 SI (vI g s (lenU s + 1) i 0)) (mkH 8 [row (lenU s + 1) T1, row (lenU s + 1) T2]) fun e fr H =>
      e = .exit 2 ∧ ∃ T2, RowIs (lenU s + 1) T2 (stepB (byteAt g i) s F) ∧ Ren 8 kp10 fr H (mkFr 87 SI (vI g s (lenU s + 1) i (lenU s + 1))) (mkH 8 [row (lenU s + 1) T1, row (lenU s + 1) T2]) := by
  refine Tri.loop (X := Nat × Tr AV) (fr := fun x => mkFr 87 SI (vI g s (lenU s + 1) i x.1)) (H := fun x => mkH 8 [row (lenU s + 1) T1, row (lenU s + 1) x.2]) (Inv := fun x => x.1 ≤ lenU s + 1 ∧ RowIs (lenU s + 1) x.2 (midB (byteAt g i) s F x.1)) (fun x => lenU s + 1 - x.1) hI ?_ (0, T2) ⟨Nat.zero_le _, by rw [midB_zero]; exact h2⟩
  rintro ⟨k, T⟩ ⟨hk, hT⟩
  by_cases hlt : k < lenU s + 1
  · obtain ⟨T', e, hT'⟩ := a3_step rfl hs hlt hi h1 hT
    exact Tri.leafE hE e (by decide) rfl rfl (RowsIn.robj (.cons h1.1 (.cons hT'.1 rowsIn_nil))) fun fr' H' r => .inl ⟨rfl, (k + 1, T'), kp10, ⟨hlt, hT'⟩, by simp only; omega, r⟩
  · obtain rfl : k = lenU s + 1 := by omega
    exact Tri.leafE hE a3_out (by decide) rfl rfl (RowsIn.robj (.cons h1.1 (.cons hT.1 rowsIn_nil))) fun fr' H' r => .inr ⟨(by intro h; cases h), rfl, T, RowIs.to hT fun j hj => midB_lt hj, r⟩

theorem a_round (hE : EnvOk EM P I) (hI : Carried I) {g s : List UInt8} {i : Nat} {T1 : Tr AV} {F : Nat → Bool} (hs : lenU s + 1 ≤ 100000) (hi : i < lenU g) (h1 : RowIs (lenU s + 1) T1 F) :
    Tri EM P I ro (codeAt [4, 0, 2] fn11.body) (mkFr 87 SO (vO g s (lenU s + 1) i)) (mkH 8 [row (lenU s + 1) T1]) fun e fr H =>
      e = .normal ∧ ∃ T, RowIs (lenU s + 1) T (stepB (byteAt g i) s F) ∧ Ren 8 [0, 1, 2, 3, 4, 5, 6, 7, 9] fr H (mkFr 87 SO (vO g s (lenU s + 1) i)) (mkH 8 [row (lenU s + 1) T]) := by
  refine tri_of_triL _ ?_
  rw [flat_c]
  have e : a2 g s (lenU s + 1) i T1 = lf .normal 87 ((vI g s (lenU s + 1) i 0).map some) ([row (lenU s + 1) T1, row (lenU s + 1) (Tr.nil.putAll 0 (rep [.bool false] (lenU s + 1)))].map some) := by
    rw [a2_eq]
    simp only [up_eq (k := lenU s) (by omega), ilt_zero, ilt_self, toNat_nat, room_ok hs, rep_length, bc_false, bc_true]
    rfl
  have h0 := rowIs_rep (N := lenU s + 1) (by omega)
  refine TriL.leafX hE hI e (by decide) rfl rfl (RowsIn.robj (.cons h1.1 (.cons h0.1 rowsIn_nil))) (.inl ⟨rfl, ?_⟩)
  refine Tri.mono (Tri.block (Q := fun e fr H => e = .normal ∧ ∃ T2, RowIs (lenU s + 1) T2 (stepB (byteAt g i) s F) ∧ Ren 8 kp10 fr H (mkFr 87 SI (vI g s (lenU s + 1) i (lenU s + 1))) (mkH 8 [row (lenU s + 1) T1, row (lenU s + 1) T2])) ((a_inner hE hI hs hi h1 h0).mono ?_)) ?_
  · rintro e fr H ⟨rfl, h⟩
    exact ⟨rfl, h⟩
  · rintro e fr H ⟨rfl, T2, hT, r⟩
    refine .inl ⟨rfl, TriL.ren hI r ?_⟩
    have e : a4 g s (lenU s + 1) i (lenU s + 1) T1 T2 = lf .normal 87 ((vO g s (lenU s + 1) i).map some) ([row (lenU s + 1) T2].map some) := a4_eq ..
    exact TriL.leafE hE e (by decide) rfl rfl (RowsIn.robj (.cons hT.1 rowsIn_nil)) fun fr' H' r => ⟨rfl, T2, hT, r⟩

theorem a_outer (hE : EnvOk EM P I) (hI : Carried I) {g s : List UInt8} (hs : lenU s + 1 ≤ 100000) (hg : lenU g ≤ 100000) {T1 : Tr AV} (h1 : RowIs (lenU s + 1) T1 (rowsB g s 0)) :
    Tri EM P I ro (.loop (codeAt [4, 0] fn11.body)) (mkFr 87 SO (vO g s (lenU s + 1) 0)) (mkH 8 [row (lenU s + 1) T1]) fun e fr H =>
      e = .exit 0 ∧ ∃ T, RowIs (lenU s + 1) T (rowsB g s (lenU g)) ∧ Ren 8 kp9 fr H (mkFr 87 SO (vO g s (lenU s + 1) (lenU g))) (mkH 8 [row (lenU s + 1) T]) := by
  refine Tri.loop (X := Nat × Tr AV) (fr := fun x => mkFr 87 SO (vO g s (lenU s + 1) x.1)) (H := fun x => mkH 8 [row (lenU s + 1) x.2]) (Inv := fun x => x.1 ≤ lenU g ∧ RowIs (lenU s + 1) x.2 (rowsB g s x.1)) (fun x => lenU g - x.1) hI ?_ (0, T1) ⟨Nat.zero_le _, h1⟩
  rintro ⟨i, T⟩ ⟨hi, hT⟩
  refine tri_of_triL _ ?_
  rw [flat_b]
  by_cases hlt : i < lenU g
  · have e : a1 g s (lenU s + 1) i T = lf .normal 87 ((vO g s (lenU s + 1) i).map some) ([row (lenU s + 1) T].map some) := by
      rw [a1_eq, blt_t hlt, bc_true]; rfl
    refine TriL.leafX hE hI e (by decide) rfl rfl (RowsIn.robj (.cons hT.1 rowsIn_nil)) (.inl ⟨rfl, ?_⟩)
    refine Tri.mono (Tri.block (Q := fun e fr H => e = .normal ∧ ∃ T, RowIs (lenU s + 1) T (rowsB g s (i + 1)) ∧ Ren 8 [0, 1, 2, 3, 4, 5, 6, 7, 9] fr H (mkFr 87 SO (vO g s (lenU s + 1) i)) (mkH 8 [row (lenU s + 1) T])) ((a_round hE hI hs hlt hT).mono ?_)) ?_
    · rintro e fr H ⟨rfl, h⟩
      exact ⟨rfl, h⟩
    · rintro e fr H ⟨rfl, T2, hT2, r⟩
      refine .inl ⟨rfl, TriL.ren hI r ?_⟩
      have e : a5 g s (lenU s + 1) i T2 = lf .normal 87 ((vO g s (lenU s + 1) (i + 1)).map some) ([row (lenU s + 1) T2].map some) := by
        rw [a5_eq, up_eq (by omega)]; rfl
      exact TriL.leafE hE e (by decide) rfl rfl (RowsIn.robj (.cons hT2.1 rowsIn_nil)) fun fr' H' r => .inl ⟨rfl, (i + 1, T2), kp9, ⟨hlt, hT2⟩, by simp only; omega, r⟩
  · obtain rfl : i = lenU g := by simp only at hi; omega
    have e : a1 g s (lenU s + 1) (lenU g) T = lf (.exit 0) 87 ((vO g s (lenU s + 1) (lenU g)).map some) ([row (lenU s + 1) T].map some) := by
      rw [a1_eq, blt_f (Nat.lt_irrefl _), bc_false]; rfl
    exact TriL.leafX hE hI e (by decide) rfl rfl (RowsIn.robj (.cons hT.1 rowsIn_nil)) (.inr ⟨(by intro h; cases h), fun fr' H' r => .inr ⟨(by intro h; cases h), rfl, T, hT, r⟩⟩)

theorem a_whole (hE : EnvOk EM P I) (hI : Carried I) {g s : List UInt8} (hs : lenU s + 1 ≤ 100000) (hg : lenU g ≤ 100000) :
    Tri EM P I ro fn11.body (newFr fn11 [.str g, .str s]) (mkH 8 []) fun e fr _ => e = .ret ∧ fr.df = [] ∧ fr.t.get 4 = some (.bool (matchB g s)) := by
  refine tri_of_triL _ ?_
  rw [flat_a]
  have h00 := rowIs_rep (N := lenU s + 1) (by omega)
  have h0 : RowIs (lenU s + 1) ((Tr.nil.putAll 0 (rep [.bool false] (lenU s + 1))).putAll 0 [.bool true]) (rowsB g s 0) :=
    h00.put (by omega) (by omega) rfl fun j _ hj => by show false = Nat.beq j 0; rw [beq_f hj]
  have e : a0 g s = lf .normal 87 ((vO g s (lenU s + 1) 0).map some) ([row (lenU s + 1) ((Tr.nil.putAll 0 (rep [.bool false] (lenU s + 1))).putAll 0 [.bool true])].map some) := by
    rw [a0_eq]
    simp only [up_eq (k := lenU s) (by omega), ilt_zero, ilt_self, toNat_nat, room_ok hs, rep_length, blt_t (Nat.succ_pos (lenU s)), ble_t (show 1 ≤ lenU s + 1 by omega), bc_false, bc_true]
    rfl
  refine TriL.leafX hE hI e (by decide) rfl rfl (RowsIn.robj (.cons h0.1 rowsIn_nil)) (.inl ⟨rfl, ?_⟩)
  refine Tri.mono (Tri.block (Q := fun e fr H => e = .normal ∧ ∃ T, RowIs (lenU s + 1) T (rowsB g s (lenU g)) ∧ Ren 8 kp9 fr H (mkFr 87 SO (vO g s (lenU s + 1) (lenU g))) (mkH 8 [row (lenU s + 1) T])) ((a_outer hE hI hs hg h0).mono ?_)) ?_
  · rintro e fr H ⟨rfl, h⟩
    exact ⟨rfl, h⟩
  · rintro e fr H ⟨rfl, T, hT, r⟩
    refine .inl ⟨rfl, TriL.ren hI r ?_⟩
    have e : a6 g s (lenU s + 1) (lenU g) T = lf .ret 87 ([.bool (matchB g s)].map some) ([].map some) := by
      rw [a6_eq, blt_t (Nat.lt_succ_self _), bc_true, at1_eq, hT.2 _ (Nat.lt_succ_self _)]; rfl
    exact TriL.leafE hE e (by decide) rfl rfl (RowsIn.robj rowsIn_nil) fun fr' H' r => ⟨rfl, r.df.1, by
      obtain ⟨x, h1, h2⟩ := r.t 4 (.bool (matchB g s)) rfl
      rw [h1, rnV_bool h2]⟩
/-! ### foundryref21.Match -/
theorem c_inner (hE : EnvOk EM P I) (hI : Carried I) {g s : List UInt8} {i : Nat} {T1 : Tr AV} {F : Nat → Bool} (hs : lenU s + 1 ≤ 100000) (hi : i < lenU g) (h1 : RowIs (lenU s + 1) T1 F) {T2 : Tr AV} (h2 : RowIs (lenU s + 1) T2 fun _ => false) :
    Tri EM P I ro (.loop (codeAt [4, 0, 2, 2, 0] fn12.body)) (mkFr 87 SJ (vJ g s (lenU s + 1) i 0)) (mkH 8 [row (lenU s + 1) T1, row (lenU s + 1) T2]) fun e fr H =>
      e = .exit 2 ∧ ∃ T2, RowIs (lenU s + 1) T2 (stepB (byteAt g i) s F) ∧ Ren 8 kp10 fr H (mkFr 87 SJ (vJ g s (lenU s + 1) i (lenU s + 1))) (mkH 8 [row (lenU s + 1) T1, row (lenU s + 1) T2]) := by
  refine Tri.loop (X := Nat × Tr AV) (fr := fun x => mkFr 87 SJ (vJ g s (lenU s + 1) i x.1)) (H := fun x => mkH 8 [row (lenU s + 1) T1, row (lenU s + 1) x.2]) (Inv := fun x => x.1 ≤ lenU s + 1 ∧ RowIs (lenU s + 1) x.2 (midB (byteAt g i) s F x.1)) (fun x => lenU s + 1 - x.1) hI ?_ (0, T2) ⟨Nat.zero_le _, by rw [midB_zero]; exact h2⟩
  rintro ⟨k, T⟩ ⟨hk, hT⟩
  by_cases hlt : k < lenU s + 1
  · obtain ⟨T', e, hT'⟩ := c3_step rfl hs hlt hi h1 hT
    exact Tri.leafE hE e (by decide) rfl rfl (RowsIn.robj (.cons h1.1 (.cons hT'.1 rowsIn_nil))) fun fr' H' r => .inl ⟨rfl, (k + 1, T'), kp10, ⟨hlt, hT'⟩, by simp only; omega, r⟩
  · obtain rfl : k = lenU s + 1 := by omega
    exact Tri.leafE hE (c3_out rfl) (by decide) rfl rfl (RowsIn.robj (.cons h1.1 (.cons hT.1 rowsIn_nil))) fun fr' H' r => .inr ⟨(by intro h; cases h), rfl, T, RowIs.to hT fun j hj => midB_lt hj, r⟩

theorem c_round (hE : EnvOk EM P I) (hI : Carried I) {g s : List UInt8} {i : Nat} {T1 : Tr AV} {F : Nat → Bool} (hs : lenU s + 1 ≤ 100000) (hi : i < lenU g) (h1 : RowIs (lenU s + 1) T1 F) :
    Tri EM P I ro (codeAt [4, 0, 2] fn12.body) (mkFr 87 SP (vP g s (lenU s + 1) i)) (mkH 8 [row (lenU s + 1) T1]) fun e fr H =>
      e = .normal ∧ ∃ T, RowIs (lenU s + 1) T (stepB (byteAt g i) s F) ∧ Ren 8 [0, 1, 2, 3, 4, 5, 6, 7, 9] fr H (mkFr 87 SP (vP g s (lenU s + 1) i)) (mkH 8 [row (lenU s + 1) T]) := by
  refine tri_of_triL _ ?_
  rw [flat_f]
  have e : c2 g s (lenU s + 1) i T1 = lf .normal 87 ((vJ g s (lenU s + 1) i 0).map some) ([row (lenU s + 1) T1, row (lenU s + 1) (Tr.nil.putAll 0 (rep [.bool false] (lenU s + 1)))].map some) := by
    rw [c2_eq]
    simp only [up_eq (k := lenU s) (by omega), ilt_zero, ilt_self, toNat_nat, room_ok hs, rep_length, bc_false, bc_true]
    rfl
  have h0 := rowIs_rep (N := lenU s + 1) (by omega)
  refine TriL.leafX hE hI e (by decide) rfl rfl (RowsIn.robj (.cons h1.1 (.cons h0.1 rowsIn_nil))) (.inl ⟨rfl, ?_⟩)
  refine Tri.mono (Tri.block (Q := fun e fr H => e = .normal ∧ ∃ T2, RowIs (lenU s + 1) T2 (stepB (byteAt g i) s F) ∧ Ren 8 kp10 fr H (mkFr 87 SJ (vJ g s (lenU s + 1) i (lenU s + 1))) (mkH 8 [row (lenU s + 1) T1, row (lenU s + 1) T2])) ((c_inner hE hI hs hi h1 h0).mono ?_)) ?_
  · rintro e fr H ⟨rfl, h⟩
    exact ⟨rfl, h⟩
  · rintro e fr H ⟨rfl, T2, hT, r⟩
    refine .inl ⟨rfl, TriL.ren hI r ?_⟩
    have e : c4 g s (lenU s + 1) i (lenU s + 1) T1 T2 = lf .normal 87 ((vP g s (lenU s + 1) i).map some) ([row (lenU s + 1) T2].map some) := c4_eq ..
    exact TriL.leafE hE e (by decide) rfl rfl (RowsIn.robj (.cons hT.1 rowsIn_nil)) fun fr' H' r => ⟨rfl, T2, hT, r⟩

theorem c_outer (hE : EnvOk EM P I) (hI : Carried I) {g s : List UInt8} (hs : lenU s + 1 ≤ 100000) (hg : lenU g ≤ 100000) {T1 : Tr AV} (h1 : RowIs (lenU s + 1) T1 (rowsB g s 0)) :
    Tri EM P I ro (.loop (codeAt [4, 0] fn12.body)) (mkFr 87 SP (vP g s (lenU s + 1) 0)) (mkH 8 [row (lenU s + 1) T1]) fun e fr H =>
      e = .exit 0 ∧ ∃ T, RowIs (lenU s + 1) T (rowsB g s (lenU g)) ∧ Ren 8 kp9 fr H (mkFr 87 SP (vP g s (lenU s + 1) (lenU g))) (mkH 8 [row (lenU s + 1) T]) := by
  refine Tri.loop (X := Nat × Tr AV) (fr := fun x => mkFr 87 SP (vP g s (lenU s + 1) x.1)) (H := fun x => mkH 8 [row (lenU s + 1) x.2]) (Inv := fun x => x.1 ≤ lenU g ∧ RowIs (lenU s + 1) x.2 (rowsB g s x.1)) (fun x => lenU g - x.1) hI ?_ (0, T1) ⟨Nat.zero_le _, h1⟩
  rintro ⟨i, T⟩ ⟨hi, hT⟩
  refine tri_of_triL _ ?_
  rw [flat_e]
  by_cases hlt : i < lenU g
  · have e : c1 g s (lenU s + 1) i T = lf .normal 87 ((vP g s (lenU s + 1) i).map some) ([row (lenU s + 1) T].map some) := by
      rw [c1_eq, blt_t hlt, bc_true]; rfl
    refine TriL.leafX hE hI e (by decide) rfl rfl (RowsIn.robj (.cons hT.1 rowsIn_nil)) (.inl ⟨rfl, ?_⟩)
    refine Tri.mono (Tri.block (Q := fun e fr H => e = .normal ∧ ∃ T, RowIs (lenU s + 1) T (rowsB g s (i + 1)) ∧ Ren 8 [0, 1, 2, 3, 4, 5, 6, 7, 9] fr H (mkFr 87 SP (vP g s (lenU s + 1) i)) (mkH 8 [row (lenU s + 1) T])) ((c_round hE hI hs hlt hT).mono ?_)) ?_
    · rintro e fr H ⟨rfl, h⟩
      exact ⟨rfl, h⟩
    · rintro e fr H ⟨rfl, T2, hT2, r⟩
      refine .inl ⟨rfl, TriL.ren hI r ?_⟩
      have e : c5 g s (lenU s + 1) i T2 = lf .normal 87 ((vP g s (lenU s + 1) (i + 1)).map some) ([row (lenU s + 1) T2].map some) := by
        rw [c5_eq, up_eq (by omega)]; rfl
      exact TriL.leafE hE e (by decide) rfl rfl (RowsIn.robj (.cons hT2.1 rowsIn_nil)) fun fr' H' r => .inl ⟨rfl, (i + 1, T2), kp9, ⟨hlt, hT2⟩, by simp only; omega, r⟩
  · obtain rfl : i = lenU g := by simp only at hi; omega
    have e : c1 g s (lenU s + 1) (lenU g) T = lf (.exit 0) 87 ((vP g s (lenU s + 1) (lenU g)).map some) ([row (lenU s + 1) T].map some) := by
      rw [c1_eq, blt_f (Nat.lt_irrefl _), bc_false]; rfl
    exact TriL.leafX hE hI e (by decide) rfl rfl (RowsIn.robj (.cons hT.1 rowsIn_nil)) (.inr ⟨(by intro h; cases h), fun fr' H' r => .inr ⟨(by intro h; cases h), rfl, T, hT, r⟩⟩)

theorem c_whole (hE : EnvOk EM P I) (hI : Carried I) {g s : List UInt8} (hs : lenU s + 1 ≤ 100000) (hg : lenU g ≤ 100000) :
    Tri EM P I ro fn12.body (newFr fn12 [.str g, .str s]) (mkH 8 []) fun e fr _ => e = .ret ∧ fr.df = [] ∧ fr.t.get 4 = some (.bool (matchB g s)) := by
  refine tri_of_triL _ ?_
  rw [flat_d]
  have h00 := rowIs_rep (N := lenU s + 1) (by omega)
  have h0 : RowIs (lenU s + 1) ((Tr.nil.putAll 0 (rep [.bool false] (lenU s + 1))).putAll 0 [.bool true]) (rowsB g s 0) :=
    h00.put (by omega) (by omega) rfl fun j _ hj => by show false = Nat.beq j 0; rw [beq_f hj]
  have e : c0 g s = lf .normal 87 ((vP g s (lenU s + 1) 0).map some) ([row (lenU s + 1) ((Tr.nil.putAll 0 (rep [.bool false] (lenU s + 1))).putAll 0 [.bool true])].map some) := by
    rw [c0_eq]
    simp only [up_eq (k := lenU s) (by omega), ilt_zero, ilt_self, toNat_nat, room_ok hs, rep_length, blt_t (Nat.succ_pos (lenU s)), ble_t (show 1 ≤ lenU s + 1 by omega), bc_false, bc_true]
    rfl
  refine TriL.leafX hE hI e (by decide) rfl rfl (RowsIn.robj (.cons h0.1 rowsIn_nil)) (.inl ⟨rfl, ?_⟩)
  refine Tri.mono (Tri.block (Q := fun e fr H => e = .normal ∧ ∃ T, RowIs (lenU s + 1) T (rowsB g s (lenU g)) ∧ Ren 8 kp9 fr H (mkFr 87 SP (vP g s (lenU s + 1) (lenU g))) (mkH 8 [row (lenU s + 1) T])) ((c_outer hE hI hs hg h0).mono ?_)) ?_
  · rintro e fr H ⟨rfl, h⟩
    exact ⟨rfl, h⟩
  · rintro e fr H ⟨rfl, T, hT, r⟩
    refine .inl ⟨rfl, TriL.ren hI r ?_⟩
    have e : c6 g s (lenU s + 1) (lenU g) T = lf .ret 87 ([.bool (matchB g s)].map some) ([].map some) := by
      rw [c6_eq, blt_t (Nat.lt_succ_self _), bc_true, at1_eq, hT.2 _ (Nat.lt_succ_self _)]; rfl
    exact TriL.leafE hE e (by decide) rfl rfl (RowsIn.robj rowsIn_nil) fun fr' H' r => ⟨rfl, r.df.1, by
      obtain ⟨x, h1, h2⟩ := r.t 4 (.bool (matchB g s)) rfl
      rw [h1, rnV_bool h2]⟩
end

/-! ### As summaries -/
theorem names_ok : namesOk [] Tryz.prog.funcs.toList 0 = true := by kernel_rfl
theorem mixed_ok : Tryz.prog.follows .mixedOrders = true := by kernel_rfl
theorem em_ok (w : World) (hw : GlobOk [] w) : EnvOk EM Tryz.prog (Kept [] w) := envOk_of names_ok rfl rets_nil mixed_ok (fun _ _ _ h => h.1) (kept_carried hw).ext
theorem res11 : fn11.results = [.tmp 4] := by kernel_rfl
theorem res12 : fn12.results = [.tmp 4] := by kernel_rfl
theorem glob_nil (w : World) : GlobOk [] w := fun _ _ h => by cases h
theorem match_args {g s : List UInt8} {M M' : List MEnt} {cargs : List Value} (h : VRels M [.str g, .str s] cargs) : VRels M' [.str g, .str s] cargs := by
  match cargs, h with
  | [a, b], ⟨h1, h2, _⟩ => exact ⟨h1, h2, trivial⟩
theorem match_calls {f : Nat} {fn : AFunc} (hf : EM.fn f = some fn) (hr : fn.results = [.tmp 4]) {g s : List UInt8}
    (ht : ∀ w, GlobOk [] w → Tri EM Tryz.prog (Kept [] w) none fn.body (newFr fn [.str g, .str s]) (mkH 8 []) fun e fr _ => e = .ret ∧ fr.df = [] ∧ fr.t.get 4 = some (.bool (matchB g s)))
    {M : List MEnt} {H : AHeap} {w : World} (h : HRel M H w) {cargs : List Value} (ha : VRels M [.str g, .str s] cargs) : CallsA Tryz.prog f cargs M H w (.ret (.bool (matchB g s)) H) := by
  have b : BodyTo Tryz.prog [] f cargs fun v _ => v = .bool (matchB g s) := by
    refine body_to em_ok rfl hf (match_args ha) fun w hw => Tri.mono (ht w hw) ?_
    rintro e fr H ⟨rfl, h1, h2⟩
    exact ⟨.inr rfl, h1, [.bool (matchB g s)], by rw [hr]; simp [resA, h2], rfl⟩
  refine BodyTo.calls (os := []) b (glob_nil w) h ?_
  rintro v H' rfl
  exact ⟨[], List.nodup_nil, rfl, rfl, fun j x hx => by simp at hx⟩
theorem match11 {g s : List UInt8} (hs : lenU s < 100000) (hg : lenU g ≤ 100000) {M : List MEnt} {H : AHeap} {w : World} (h : HRel M H w) {cargs : List Value} (ha : VRels M [.str g, .str s] cargs) : CallsA Tryz.prog 11 cargs M H w (.ret (.bool (matchB g s)) H) :=
  match_calls fn11_eq res11 (fun w hw => a_whole (em_ok w hw) (kept_carried hw) hs hg) h ha
theorem match12 {g s : List UInt8} (hs : lenU s < 100000) (hg : lenU g ≤ 100000) {M : List MEnt} {H : AHeap} {w : World} (h : HRel M H w) {cargs : List Value} (ha : VRels M [.str g, .str s] cargs) : CallsA Tryz.prog 12 cargs M H w (.ret (.bool (matchB g s)) H) :=
  match_calls fn12_eq res12 (fun w hw => c_whole (em_ok w hw) (kept_carried hw) hs hg) h ha
end Go.Proofs.YtnggiiacboeaiaaGreatDoor
