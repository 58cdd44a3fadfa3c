/- foundryref13.Digits, of a number below 2^32. -/
import Derived.Test.YtafpmnccoogojaaGreatDoorPfToks
import Derived.Test.YtafpmnccoogojaaGreatDoorVaiH
import Derived.KernelRfl
namespace Go.Proofs.YtafpmnccoogojaaGreatDoor
open Go Go.Vai
noncomputable section
set_option maxRecDepth 100000
def fn9 : AFunc := (E1.fn 9).getD default
theorem fn9_eq : E1.fn 9 = some fn9 := by kernel_rfl
theorem fn9_flat : flat fn9.body = (flat fn9.body).take 2 ++ .block 0 (.loop (codeAt [2, 0] fn9.body)) :: (flat fn9.body).drop 3 := by kernel_rfl
theorem fn9_res : fn9.results = [2].map .tmp := by kernel_rfl
theorem dgA_eq (n : Nat) : codesKK E1 (callKK E1 3) ((flat fn9.body).take 2) (leafK 12 [0, 3] [0, 1, 2, 3, 4, 5, 6, 7, 8, 9, 10, 11]) (newFr fn9 [.int .u64 (.ofNat n)]) (mkH 12 []) = lf .normal 23 ([.int .u64 (.ofNat n), .str []].map some) ([].map some) := by kernel_rfl
theorem dgR_eq (m : Nat) (a : List UInt8) : codesKK E1 (callKK E1 3) (flat (codeAt [2, 0] fn9.body)) (leafK 12 [0, 3] [0, 1, 2, 3, 4, 5, 6, 7, 8, 9, 10, 11]) (mkFr 23 [0, 3] [.int .u64 (.ofNat m), .str a]) (mkH 12 []) = bc (!(Nat.blt m 10)) (bc (hasY [.int .u8 (wrapR .u8 (wrapR .u64 (Int.add (.ofNat 48) (Int.tmod (.ofNat m) (.ofNat 10)))))]) (bc (Nat.ble (Nat.add (lenU (getY [.int .u8 (wrapR .u8 (wrapR .u64 (Int.add (.ofNat 48) (Int.tmod (.ofNat m) (.ofNat 10)))))])) (lenU a)) 1099511627776) (lf .normal 23 ([.int .u64 (wrapR .u64 (Int.tdiv (.ofNat m) (.ofNat 10))), .str ((getY [.int .u8 (wrapR .u8 (wrapR .u64 (Int.add (.ofNat 48) (Int.tmod (.ofNat m) (.ofNat 10)))))]) ++ a)].map some) ([].map some)) (none)) (none)) (lf (.exit 0) 23 ([.int .u64 (.ofNat m), .str a].map some) ([].map some)) := by kernel_rfl
theorem dgZ_eq (m : Nat) (a : List UInt8) : codesKK E1 (callKK E1 3) ((flat fn9.body).drop 3) (leafK 12 [2] [0, 1, 2, 3, 4, 5, 6, 7, 8, 9, 10, 11]) (mkFr 23 [0, 3] [.int .u64 (.ofNat m), .str a]) (mkH 12 []) = bc (hasY [.int .u8 (wrapR .u8 (wrapR .u64 (.ofNat (Nat.add 48 m))))]) (bc (Nat.ble (Nat.add (lenU (getY [.int .u8 (wrapR .u8 (wrapR .u64 (.ofNat (Nat.add 48 m))))])) (lenU a)) 1099511627776) (lf .ret 23 ([.str ((getY [.int .u8 (wrapR .u8 (wrapR .u64 (.ofNat (Nat.add 48 m))))]) ++ a)].map some) ([].map some)) (none)) (none) := by kernel_rfl
theorem digAV {d : Nat} (h : d < 10) : AV.int .u8 (.ofNat (48 + d)) = byteAV (UInt8.ofNat (48 + d)) := by
  unfold byteAV
  rw [(dig_at h).2.2]
def dgV (m : Nat) (a : List UInt8) : List AV := [.int .u64 (.ofNat m), .str a]
theorem dg_byte {d : Nat} (h : d < 10) : AV.int .u8 (wrapR .u8 (wrapR .u64 (.ofNat (48 + d)))) = byteAV (UInt8.ofNat (48 + d)) := by
  rw [wrap_u64 (by omega), wrap_u8 (by omega), digAV h]
theorem getY1 (c : UInt8) : getY [byteAV c] = [c] := getY_map [c]
theorem hasY1 (c : UInt8) : hasY [byteAV c] = true := hasY_map [c]
theorem dg_round {m : Nat} {a : List UInt8} (h : 10 ≤ m) (hm : m < 4294967296) (ha : a.length < 100) : codesKK E1 (callKK E1 3) (flat (codeAt [2, 0] fn9.body)) (leafK 12 [0, 3] [0, 1, 2, 3, 4, 5, 6, 7, 8, 9, 10, 11]) (mkFr 23 [0, 3] (dgV m a)) (mkH 12 []) = lf .normal 23 ((dgV (m / 10) (UInt8.ofNat (48 + m % 10) :: a)).map some) ([].map some) := by
  have hd : m % 10 < 10 := Nat.mod_lt _ (by decide)
  have e1 : AV.int .u8 (wrapR .u8 (wrapR .u64 (Int.add (.ofNat 48) (Int.tmod (.ofNat m) (.ofNat 10))))) = byteAV (UInt8.ofNat (48 + m % 10)) := dg_byte hd
  have e2 : wrapR .u64 (Int.tdiv (.ofNat m) (.ofNat 10)) = .ofNat (m / 10) := wrap_u64 (n := m / 10) (by omega)
  refine (dgR_eq m a).trans ?_
  rw [blt_f (show ¬ m < 10 by omega), e1, e2, hasY1, getY1, show Nat.ble (Nat.add (lenU [UInt8.ofNat (48 + m % 10)]) (lenU a)) 1099511627776 = true from ble_t (show 1 + a.length ≤ _ by omega)]
  rfl
theorem dg_fin {m : Nat} {a : List UInt8} (h : m < 10) (ha : a.length < 100) : codesKK E1 (callKK E1 3) ((flat fn9.body).drop 3) (leafK 12 [2] [0, 1, 2, 3, 4, 5, 6, 7, 8, 9, 10, 11]) (mkFr 23 [0, 3] (dgV m a)) (mkH 12 []) = lf .ret 23 ([.str (UInt8.ofNat (48 + m) :: a)].map some) ([].map some) := by
  have e1 : AV.int .u8 (wrapR .u8 (wrapR .u64 (.ofNat (Nat.add 48 m)))) = byteAV (UInt8.ofNat (48 + m)) := dg_byte h
  refine (dgZ_eq m a).trans ?_
  rw [e1, hasY1, getY1, show Nat.ble (Nat.add (lenU [UInt8.ofNat (48 + m)]) (lenU a)) 1099511627776 = true from ble_t (show 1 + a.length ≤ _ by omega)]
  rfl
section
variable {P : Program} {I : List MEnt → AHeap → World → Prop} {ro : Option Nat}
theorem dg_tri (hE : EnvOk E1 P I) (hI : Carried I) {n : Nat} (hn : n < 4294967296) : Tri E1 P I ro fn9.body (newFr fn9 [.int .u64 (.ofNat n)]) (mkH 12 []) fun e fr H => (e = .normal ∨ e = .ret) ∧ fr.df = [] ∧ ∃ l, resA E1 fr.t H fn9.results = some l ∧ weak2 (resV l) = .str (dgs n) := by
  refine tri_of_triL _ ?_
  rw [fn9_flat]
  refine TriL.leafX hE hI (vs := dgV n []) (dgA_eq n) (by decide) rfl rfl rows0 (.inl ⟨rfl, ?_⟩)
  refine Tri.mono (Tri.block (Q := fun e fr H => e = .normal ∧ ∃ m a keep, m < 10 ∧ a.length < 100 ∧ UInt8.ofNat (48 + m) :: a = dgs n ∧ Ren 12 keep fr H (mkFr 23 [0, 3] (dgV m a)) (mkH 12 [])) ((Tri.loop (X := Nat × List UInt8) (fr := fun x => mkFr 23 [0, 3] (dgV x.1 x.2)) (H := fun _ => mkH 12 []) (Inv := fun x => x.1 < 4294967296 ∧ ∃ f, x.1 < 10 ^ (f + 1) ∧ x.2.length + f ≤ 19 ∧ dgF f x.1 ++ x.2 = dgs n) (fun x => x.1) (Q := fun e fr H => e = .exit 0 ∧ ∃ m a keep, m < 10 ∧ a.length < 100 ∧ UInt8.ofNat (48 + m) :: a = dgs n ∧ Ren 12 keep fr H (mkFr 23 [0, 3] (dgV m a)) (mkH 12 [])) hI ?_ (n, []) ⟨hn, 19, by simp only; omega, Nat.le_refl _, List.append_nil _⟩).mono ?_)) ?_
  · rintro ⟨m, a⟩ ⟨hm, f, h1, h2, h3⟩
    simp only at hm h1 h2 h3
    refine tri_of_triL _ ?_
    by_cases h : m < 10
    · refine TriL.leafE hE (vs := dgV m a) ((dgR_eq m a).trans (by rw [blt_t h]; rfl)) (by decide) rfl rfl rows0 fun fr' H' r => .inr ⟨(by intro h; cases h), rfl, m, a, _, h, by omega, ?_, r⟩
      cases f with
      | zero => rw [← h3]; show _ = [UInt8.ofNat (48 + m % 10)] ++ a; rw [Nat.mod_eq_of_lt h]; rfl
      | succ f =>
        rw [← h3]
        unfold dgF
        rw [blt_t h]; rfl
    · cases f with
      | zero => omega
      | succ f =>
        refine TriL.leafE hE (dg_round (a := a) (by omega) hm (by omega)) (by decide) rfl rfl rows0 fun fr' H' r => .inl ⟨rfl, (m / 10, UInt8.ofNat (48 + m % 10) :: a), _, ⟨by simp only; omega, f, by simp only; rw [Nat.pow_succ] at h1; omega, by simp only [List.length_cons]; omega, ?_⟩, by simp only; omega, r⟩
        rw [← h3]
        simp only
        have e : dgF (f + 1) m = dgF f (m / 10) ++ [UInt8.ofNat (48 + m % 10)] := by
          show (bif Nat.blt m 10 then _ else _) = _
          rw [blt_f h]; rfl
        rw [e]
        simp
  · rintro e fr H ⟨rfl, h⟩
    exact ⟨rfl, h⟩
  · rintro e fr H ⟨rfl, m, a, keep, h1, h2, h3, r⟩
    refine .inl ⟨rfl, TriL.ren hI r (TriL.leafE hE (dg_fin h1 h2) (by decide) rfl rfl rows0 fun fr' H' r => ⟨.inr rfl, r.df.1, _, by rw [fn9_res]; exact ren_res r (l := [.str (UInt8.ofNat (48 + m) :: a)]) rfl rfl, by rw [← h3]; rfl⟩)⟩
end
def plainFv : Nat → List AV → Option AV := fun g args => match args with
  | [.int .u64 (.ofNat n)] => bif Nat.beq g 9 && Nat.blt n 4294967296 then some (.str (dgs n)) else none
  | _ => none
theorem plainF_ok : SmOk Tryz.prog gl (plainSm plainFv) := tri_plain fun g args v h => by
  unfold plainFv at h
  split at h
  case h_2 => cases h
  rename_i n
  rw [Bool.cond_eq_ite] at h
  split at h
  case isFalse => cases h
  rename_i hb
  simp only [Bool.and_eq_true, Nat.beq_eq, Nat.blt_eq] at hb
  obtain ⟨rfl, hn⟩ := hb
  simp only [Option.some.injEq] at h
  subst h
  exact ⟨E1, fn9, e1_ok, gl_ok, fn9_eq, plain_list rfl, plain_free rfl, fun w hw => dg_tri (e1_ok w hw) (kept_carried hw) hn⟩
end
end Go.Proofs.YtafpmnccoogojaaGreatDoor
