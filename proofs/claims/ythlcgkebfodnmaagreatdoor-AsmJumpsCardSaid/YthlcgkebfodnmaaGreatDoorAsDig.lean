/- foundrylaw20.digits, of a number below 2^32. -/
import Derived.Test.YthlcgkebfodnmaaGreatDoorAsLines
import Derived.Test.YthlcgkebfodnmaaGreatDoorVaiI
namespace Go.Proofs.YthlcgkebfodnmaaGreatDoor
open Go Go.Vai
noncomputable section
set_option maxRecDepth 100000
def fn7 : AFunc := (E1.fn 7).getD default
theorem fn7_eq : E1.fn 7 = some fn7 := by kernel_rfl
theorem fn7_flat : flat fn7.body = (flat fn7.body).take 2 ++ .block 0 (.loop (codeAt [2, 0] fn7.body)) :: (flat fn7.body).drop 3 := by kernel_rfl
theorem fn7_res : fn7.results = [2].map .tmp := by kernel_rfl
theorem dgA_eq (n : Nat) : codesKK E1 (callKK E1 3) ((flat fn7.body).take 2) (leafK 12 [0, 3] [0, 1, 2, 3, 4, 5, 6, 7, 8, 9, 10, 11]) (newFr fn7 [.int .i64 (.ofNat n)]) (mkH 12 []) = lf .normal 23 ([.int .i64 (.ofNat n), .str []].map some) ([].map some) := by kernel_rfl
theorem dgR_eq (m : Nat) (a : List UInt8) : codesKK E1 (callKK E1 3) (flat (codeAt [2, 0] fn7.body)) (leafK 12 [0, 3] [0, 1, 2, 3, 4, 5, 6, 7, 8, 9, 10, 11]) (mkFr 23 [0, 3] [.int .i64 (.ofNat m), .str a]) (mkH 12 []) = bc (!(Nat.blt m 10)) (bc (hasY [.int .u8 (wrapR .u8 (wrapR .i64 (Int.add (.ofNat 48) (Int.tmod (.ofNat m) (.ofNat 10)))))]) (bc (Nat.ble (Nat.add (lenU (getY [.int .u8 (wrapR .u8 (wrapR .i64 (Int.add (.ofNat 48) (Int.tmod (.ofNat m) (.ofNat 10)))))])) (lenU a)) 1099511627776) (lf .normal 23 ([.int .i64 (wrapR .i64 (Int.tdiv (.ofNat m) (.ofNat 10))), .str ((getY [.int .u8 (wrapR .u8 (wrapR .i64 (Int.add (.ofNat 48) (Int.tmod (.ofNat m) (.ofNat 10)))))]) ++ a)].map some) ([].map some)) (none)) (none)) (lf (.exit 0) 23 ([.int .i64 (.ofNat m), .str a].map some) ([].map some)) := by kernel_rfl
theorem dgZ_eq (m : Nat) (a : List UInt8) : codesKK E1 (callKK E1 3) ((flat fn7.body).drop 3) (leafK 12 [2] [0, 1, 2, 3, 4, 5, 6, 7, 8, 9, 10, 11]) (mkFr 23 [0, 3] [.int .i64 (.ofNat m), .str a]) (mkH 12 []) = bc (hasY [.int .u8 (wrapR .u8 (wrapR .i64 (.ofNat (Nat.add 48 m))))]) (bc (Nat.ble (Nat.add (lenU (getY [.int .u8 (wrapR .u8 (wrapR .i64 (.ofNat (Nat.add 48 m))))])) (lenU a)) 1099511627776) (lf .ret 23 ([.str ((getY [.int .u8 (wrapR .u8 (wrapR .i64 (.ofNat (Nat.add 48 m))))]) ++ a)].map some) ([].map some)) (none)) (none) := by kernel_rfl
theorem digAV {d : Nat} (h : d < 10) : AV.int .u8 (.ofNat (48 + d)) = byteAV (UInt8.ofNat (48 + d)) := by
  unfold byteAV
  rw [(dig_at h).2.2]
def dgV (m : Nat) (a : List UInt8) : List AV := [.int .i64 (.ofNat m), .str a]
theorem dg_byte {d : Nat} (h : d < 10) : AV.int .u8 (wrapR .u8 (wrapR .i64 (.ofNat (48 + d)))) = byteAV (UInt8.ofNat (48 + d)) := by
  rw [wrap_i64 (by omega), wrap_u8 (by omega), digAV h]
theorem getY1 (c : UInt8) : getY [byteAV c] = [c] := getY_map [c]
theorem hasY1 (c : UInt8) : hasY [byteAV c] = true := hasY_map [c]
theorem dg_round {m : Nat} {a : List UInt8} (h : 10 ≤ m) (hm : m < 4294967296) (ha : a.length < 100) : codesKK E1 (callKK E1 3) (flat (codeAt [2, 0] fn7.body)) (leafK 12 [0, 3] [0, 1, 2, 3, 4, 5, 6, 7, 8, 9, 10, 11]) (mkFr 23 [0, 3] (dgV m a)) (mkH 12 []) = lf .normal 23 ((dgV (m / 10) (UInt8.ofNat (48 + m % 10) :: a)).map some) ([].map some) := by
  have hd : m % 10 < 10 := Nat.mod_lt _ (by decide)
  have e1 : AV.int .u8 (wrapR .u8 (wrapR .i64 (Int.add (.ofNat 48) (Int.tmod (.ofNat m) (.ofNat 10))))) = byteAV (UInt8.ofNat (48 + m % 10)) := dg_byte hd
  have e2 : wrapR .i64 (Int.tdiv (.ofNat m) (.ofNat 10)) = .ofNat (m / 10) := wrap_i64 (n := m / 10) (by omega)
  refine (dgR_eq m a).trans ?_
  rw [blt_f (show ¬ m < 10 by omega), e1, e2, hasY1, getY1, show Nat.ble (Nat.add (lenU [UInt8.ofNat (48 + m % 10)]) (lenU a)) 1099511627776 = true from ble_t (show 1 + a.length ≤ _ by omega)]
  rfl
theorem dg_fin {m : Nat} {a : List UInt8} (h : m < 10) (ha : a.length < 100) : codesKK E1 (callKK E1 3) ((flat fn7.body).drop 3) (leafK 12 [2] [0, 1, 2, 3, 4, 5, 6, 7, 8, 9, 10, 11]) (mkFr 23 [0, 3] (dgV m a)) (mkH 12 []) = lf .ret 23 ([.str (UInt8.ofNat (48 + m) :: a)].map some) ([].map some) := by
  have e1 : AV.int .u8 (wrapR .u8 (wrapR .i64 (.ofNat (Nat.add 48 m)))) = byteAV (UInt8.ofNat (48 + m)) := dg_byte h
  refine (dgZ_eq m a).trans ?_
  rw [e1, hasY1, getY1, show Nat.ble (Nat.add (lenU [UInt8.ofNat (48 + m)]) (lenU a)) 1099511627776 = true from ble_t (show 1 + a.length ≤ _ by omega)]
  rfl
section
variable {P : Program} {I : List MEnt → AHeap → World → Prop} {ro : Option Nat}
theorem dg_tri (hE : EnvOk E1 P I) (hI : Carried I) {n : Nat} (hn : n < 4294967296) : Tri E1 P I ro fn7.body (newFr fn7 [.int .i64 (.ofNat n)]) (mkH 12 []) fun e fr H => (e = .normal ∨ e = .ret) ∧ fr.df = [] ∧ ∃ l, resA E1 fr.t H fn7.results = some l ∧ weak2 (resV l) = .str (dgs n) := by
  refine tri_of_triL _ ?_
  rw [fn7_flat]
  refine TriL.leafX hE hI (vs := dgV n []) (dgA_eq n) (by decide) rfl rfl rows0 (.inl ⟨rfl, ?_⟩)
  refine Tri.mono (Tri.block (Q := fun e fr H => e = .normal ∧ ∃ m a keep, m < 10 ∧ a.length < 100 ∧ UInt8.ofNat (48 + m) :: a = dgs n ∧ Ren 12 keep fr H (mkFr 23 [0, 3] (dgV m a)) (mkH 12 [])) ((Tri.loop (X := Nat × List UInt8) (fr := fun x => mkFr 23 [0, 3] (dgV x.1 x.2)) (H := fun _ => mkH 12 []) (Inv := fun x => x.1 < 4294967296 ∧ ∃ f, x.1 < 10 ^ (f + 1) ∧ x.2.length + f ≤ 19 ∧ dgF f x.1 ++ x.2 = dgs n) (fun x => x.1) (Q := fun e fr H => e = .exit 0 ∧ ∃ m a keep, m < 10 ∧ a.length < 100 ∧ UInt8.ofNat (48 + m) :: a = dgs n ∧ Ren 12 keep fr H (mkFr 23 [0, 3] (dgV m a)) (mkH 12 [])) hI ?_ (n, []) ⟨hn, 19, by simp only; omega, Nat.le_refl _, List.append_nil _⟩).mono ?_)) ?_
  · rintro ⟨m, a⟩ ⟨hm, f, h1, h2, h3⟩
    simp only at hm h1 h2 h3
    refine tri_of_triL _ ?_
    by_cases h : m < 10
    · refine TriL.leafE hE (vs := dgV m a) ((dgR_eq m a).trans (by rw [blt_t h]; rfl)) (by decide) rfl rfl rows0 fun fr' H' r => .inr ⟨(by intro h; cases h), rfl, m, a, _, h, by omega, ?_, r⟩
      cases f with
      | zero => rw [← h3]; show _ = [UInt8.ofNat (48 + m % 10)] ++ a; rw [Nat.mod_eq_of_lt h]; rfl
      | succ f =>
        rw [← h3]
        unfold dgF
        rw [blt_t h]; rfl
    · cases f with
      | zero => omega
      | succ f =>
        refine TriL.leafE hE (dg_round (a := a) (by omega) hm (by omega)) (by decide) rfl rfl rows0 fun fr' H' r => .inl ⟨rfl, (m / 10, UInt8.ofNat (48 + m % 10) :: a), _, ⟨by simp only; omega, f, by simp only; rw [Nat.pow_succ] at h1; omega, by simp only [List.length_cons]; omega, ?_⟩, by simp only; omega, r⟩
        rw [← h3]
        simp only
        have e : dgF (f + 1) m = dgF f (m / 10) ++ [UInt8.ofNat (48 + m % 10)] := by
          show (bif Nat.blt m 10 then _ else _) = _
          rw [blt_f h]; rfl
        rw [e]
        simp
  · rintro e fr H ⟨rfl, h⟩
    exact ⟨rfl, h⟩
  · rintro e fr H ⟨rfl, m, a, keep, h1, h2, h3, r⟩
    refine .inl ⟨rfl, TriL.ren hI r (TriL.leafE hE (dg_fin h1 h2) (by decide) rfl rfl rows0 fun fr' H' r => ⟨.inr rfl, r.df.1, _, by rw [fn7_res]; exact ren_res r (l := [.str (UInt8.ofNat (48 + m) :: a)]) rfl rfl, by rw [← h3]; rfl⟩)⟩
end
def plainFv : Nat → List AV → Option AV := fun g args => match args with
  | [.int .i64 (.ofNat n)] => bif Nat.beq g 7 && Nat.blt n 4294967296 then some (.str (dgs n)) else none
  | _ => none
theorem plainF_ok : SmOk Tryz.prog gl (plainSm plainFv) := tri_plain fun g args v h => by
  unfold plainFv at h
  split at h
  case h_2 => cases h
  rename_i n
  rw [Bool.cond_eq_ite] at h
  split at h
  case isFalse => cases h
  rename_i hb
  simp only [Bool.and_eq_true, Nat.beq_eq, Nat.blt_eq] at hb
  obtain ⟨rfl, hn⟩ := hb
  simp only [Option.some.injEq] at h
  subst h
  exact ⟨E1, fn7, e1_ok, gl_ok, fn7_eq, plain_list rfl, plain_free rfl, fun w hw => dg_tri (e1_ok w hw) (kept_carried hw) hn⟩
end
end Go.Proofs.YthlcgkebfodnmaaGreatDoor
namespace Go.Proofs.YthlcgkebfodnmaaGreatDoor
open Go Go.Vai
noncomputable section
set_option maxRecDepth 100000
def regOpsT : Code → Array Oper
  | .region _ ops _ => ops
  | _ => #[]
def fnT : AFunc := (E1.fn 88).getD default
theorem fnT_eq : E1.fn 88 = some fnT := by kernel_rfl
def ihT : Task → Option TRes := run E1 10
def opsT1 : Array Oper := regOpsT ((flat fnT.body).getD 1 .skip)
def opsT2 : Array Oper := regOpsT ((flat fnT.body).getD 2 .skip)
def restT : List Code := (flat fnT.body).drop 3
def codT0 : Code := (flat fnT.body).getD 0 .skip
theorem flatDT : flat fnT.body = codT0 :: .region 1 opsT1 true :: .region 2 opsT2 false :: restT := by kernel_rfl
def ST : List Nat := [0, 1, 6]
def vT (t s : Int) : List AV := [.int .i64 t, .int .i64 s, .mapv 12]
def keyT (t s : Int) : AV := .agg [.int .i64 t, .int .i64 s]
theorem stepT0 (t s : Int) : codesKK E1 (callKK E1 3) [codT0] (leafK 12 [0, 1] [0, 1, 2, 3, 4, 5, 6, 7, 8, 9, 10, 11]) (newFr fnT [.int .i64 t, .int .i64 s]) (mkH 12 []) = lf .normal 27 ([.int .i64 t, .int .i64 s].map some) ([].map some) := by kernel_rfl
theorem litT : mlOk E1 opsT1 263 262 9 27 = true := by kernel_rfl
def wmT : Tr Nat := (wmap opsT1.toList 0 .nil).getD .nil
theorem wmT_eq : wmap opsT1.toList 0 .nil = some wmT := by kernel_rfl
def pairsT : List (Int × Int × Int) := [(.ofNat 1, .ofNat 4, .ofNat 10), (.ofNat 1, .ofNat 8, .ofNat 1), (.ofNat 2, .ofNat 4, .ofNat 258), (.ofNat 2, .ofNat 8, .ofNat 257), (.ofNat 3, .ofNat 4, .ofNat 1), (.ofNat 3, .ofNat 8, .ofNat 2)]
def insT (j : Nat) : Option (AV × AV) := insK E1 opsT1 263 9 wmT j
def entT (x : Int × Int × Int) : AV × AV := (keyT x.1 x.2.1, .int .i64 x.2.2)
theorem insT_at : (List.range 15).map insT = [none, none, some (entT (pairsT.getD 0 (0, 0, 0))), none, some (entT (pairsT.getD 1 (0, 0, 0))), none, some (entT (pairsT.getD 2 (0, 0, 0))), none, some (entT (pairsT.getD 3 (0, 0, 0))), none, some (entT (pairsT.getD 4 (0, 0, 0))), none, some (entT (pairsT.getD 5 (0, 0, 0))), none, none] := by kernel_rfl
theorem sizeT : opsT1.size = 15 := by kernel_rfl
theorem insT_lt {j : Nat} (h : (insT j).isSome = true) : j < 15 := by
  unfold insT insK at h
  split at h
  case h_2 => cases h
  rename_i o ho
  rw [← sizeT]
  exact (Array.getElem?_eq_some_iff.1 ho).1
theorem insT_get {j : Nat} (h : j < 15) : insT j = ((List.range 15).map insT)[j]'(by simpa using h) := by simp
theorem insT_pair {j : Nat} (h : (insT j).isSome = true) : ∃ x ∈ pairsT, insT j = some (entT x) := by
  have hj := insT_lt h
  rw [insT_get hj] at h ⊢
  simp only [insT_at] at h ⊢
  match j, hj with
  | 0, _ => cases h
  | 1, _ => cases h
  | 2, _ => exact ⟨_, by decide, rfl⟩
  | 3, _ => cases h
  | 4, _ => exact ⟨_, by decide, rfl⟩
  | 5, _ => cases h
  | 6, _ => exact ⟨_, by decide, rfl⟩
  | 7, _ => cases h
  | 8, _ => exact ⟨_, by decide, rfl⟩
  | 9, _ => cases h
  | 10, _ => exact ⟨_, by decide, rfl⟩
  | 11, _ => cases h
  | 12, _ => exact ⟨_, by decide, rfl⟩
  | 13, _ => cases h
  | 14, _ => cases h
theorem insT_all : ∀ x ∈ pairsT, ∃ j, insT j = some (entT x) := by
  intro x hx
  have g : ∀ j, (h : j < 15) → insT j = ((List.range 15).map insT)[j]'(by simpa using h) := fun j h => insT_get h
  simp only [pairsT, List.mem_cons, List.not_mem_nil, or_false] at hx
  rcases hx with rfl | rfl | rfl | rfl | rfl | rfl
  · exact ⟨2, by rw [g 2 (by decide)]; simp only [insT_at]; rfl⟩
  · exact ⟨4, by rw [g 4 (by decide)]; simp only [insT_at]; rfl⟩
  · exact ⟨6, by rw [g 6 (by decide)]; simp only [insT_at]; rfl⟩
  · exact ⟨8, by rw [g 8 (by decide)]; simp only [insT_at]; rfl⟩
  · exact ⟨10, by rw [g 10 (by decide)]; simp only [insT_at]; rfl⟩
  · exact ⟨12, by rw [g 12 (by decide)]; simp only [insT_at]; rfl⟩
def foundT (t s : Int) : Option (Int × Int × Int) := pairsT.find? fun x => ieq t x.1 && ieq s x.2.1
def dataB (t s : Int) : Bool := (foundT t s).isSome
def dataV (t s : Int) : Int := match foundT t s with
  | some x => x.2.2
  | none => .ofNat 0
theorem eqK_T (t s a b : Int) : eqK E1 262 (keyT t s) (keyT a b) = some (ieq t a && ieq s b) := by
  have h : eqK E1 262 (keyT t s) (keyT a b) = (match some (ieq t a) with | some true => (match some (ieq s b) with | some true => some true | some false => some false | none => none) | some false => some false | none => none) := by kernel_rfl
  rw [h]
  cases ieq t a <;> cases ieq s b <;> rfl
def lookR : Option (Option (Nat × AV)) → Option AV
  | some (some (_, v)) => some (.tup [v, .bool true])
  | some none => some (.tup [.int .i64 (.ofNat 0), .bool false])
  | none => none
theorem look_T (es : List (AV × AV × Nat)) (n : Nat) (t s : Int) : lookupA E1 (mkH 12 [.mp es n false]) 263 (.mapv 12) (keyT t s) true = lookR (keyFind E1 262 (keyT t s) es 0) := by
  have h : lookupA E1 (mkH 12 [.mp es n false]) 263 (.mapv 12) (keyT t s) true = (match keyFind E1 262 (keyT t s) es 0, E1.ty 3 with
          | some (some (_, v)), _ => some (bif true then .tup [v, .bool true] else v)
          | some none, some ei => match zeroV ei with
            | some z => some (bif true then .tup [z, .bool false] else z)
            | none => none
          | _, _ => none) := by kernel_rfl
  rw [h]
  have e3 : E1.ty 3 = some ((E1.ty 3).getD default) := by kernel_rfl
  have z3 : zeroV ((E1.ty 3).getD default) = some (.int .i64 (.ofNat 0)) := by kernel_rfl
  rw [e3]
  cases hk : keyFind E1 262 (keyT t s) es 0 with
  | none => rfl
  | some o =>
    cases o with
    | none => simp only [z3]; rfl
    | some x => rfl
theorem opsA_app {E : Env} {ih : Task → Option TRes} {all : Array Oper} {l2 : List Oper} : ∀ (l1 : List Oper) (fr : AFr) (H : AHeap) (fr1 : AFr) (H1 : AHeap), opsA E ih all l1 fr H = some (.code .normal fr1 H1) → opsA E ih all (l1 ++ l2) fr H = opsA E ih all l2 fr1 H1
  | [], fr, H, fr1, H1, h => by
    simp only [opsA, Option.some.injEq, TRes.code.injEq, true_and] at h
    obtain ⟨rfl, rfl⟩ := h
    rfl
  | o :: l1, fr, H, fr1, H1, h => by
    simp only [opsA, List.cons_append] at h ⊢
    cases hw : wantedA all fr.t o with
    | none => rw [hw] at h; cases h
    | some b =>
      rw [hw] at h
      cases b with
      | false => exact opsA_app l1 _ _ _ _ h
      | true =>
        simp only at h ⊢
        cases hx : execA E H fr.t o with
        | none => rw [hx] at h; cases h
        | some r =>
          rw [hx] at h
          simp only at h ⊢
          cases hc : callsA ih H r with
          | none => rw [hc] at h; cases h
          | some c =>
            rw [hc] at h
            cases c with
            | val v H' => exact opsA_app l1 _ _ _ _ h
            | skip H' => exact opsA_app l1 _ _ _ _ h
            | panic v H' => simp at h
            | call => cases h
            | ycall => cases h
            | defer f args =>
              simp only at h ⊢
              cases hr : fr.rd with
              | true => rw [hr] at h; cases h
              | false =>
                rw [hr] at h
                exact opsA_app l1 _ _ _ _ h
def frOf : Option TRes → AFr
  | some (.code _ fr _) => fr
  | _ => default
def F0 (t s : Int) : AFr := mkFr 27 ST (vT t s)
def F1 (t s : Int) : AFr := frOf (opsA E1 ihT opsT2 (opsT2.toList.take 4) (F0 t s) (mkH 12 [.mp [] 0 false]))
theorem preTd (t s : Int) (es : List (AV × AV × Nat)) (n : Nat) : opsA E1 ihT opsT2 (opsT2.toList.take 4) (F0 t s) (mkH 12 [.mp es n false]) = some (.code .normal (F1 t s) (mkH 12 [.mp es n false])) := by kernel_rfl
def o4 : Option Oper := opsT2[4]?
theorem splitT : ∃ o, o4 = some o ∧ opsT2.toList = opsT2.toList.take 4 ++ o :: opsT2.toList.drop 5 := by
  have h : o4.isSome = true := by kernel_rfl
  obtain ⟨o, ho⟩ := Option.isSome_iff_exists.1 h
  refine ⟨o, ho, ?_⟩
  have h5 : opsT2.toList.drop 4 = o :: opsT2.toList.drop 5 := by
    have e : opsT2.toList[4]? = some o := by rw [← ho]; unfold o4; rw [Array.getElem?_toList]
    obtain ⟨hl, he⟩ := List.getElem?_eq_some_iff.1 e
    rw [List.drop_eq_getElem_cons hl, he]
  rw [← h5, List.take_append_drop]
theorem execT (t s : Int) (es : List (AV × AV × Nat)) (n : Nat) : (o4.map fun o => (wantedA opsT2 (F1 t s).t o, o.dst, execA E1 (mkH 12 [.mp es n false]) (F1 t s).t o)) = some (some true, some 22, vh (mkH 12 [.mp es n false]) (lookupA E1 (mkH 12 [.mp es n false]) 263 (.mapv 12) (keyT t s) true)) := by kernel_rfl
def F2 (t s x : Int) (b : Bool) : AFr := frOf (opsA E1 ihT opsT2 (opsT2.toList.drop 5) ((F1 t s).put (some 22) (.tup [.int .i64 x, .bool b])) (mkH 12 []))
theorem postT (t s x : Int) (b : Bool) (es : List (AV × AV × Nat)) (n : Nat) : opsA E1 ihT opsT2 (opsT2.toList.drop 5) ((F1 t s).put (some 22) (.tup [.int .i64 x, .bool b])) (mkH 12 [.mp es n false]) = some (.code .normal (F2 t s x b) (mkH 12 [.mp es n false])) := by kernel_rfl
def F3 (t s x : Int) (b : Bool) : AFr := frOf (codeL E1 ihT restT (F2 t s x b) (mkH 12 []))
theorem endT3 (t s x : Int) (b : Bool) (es : List (AV × AV × Nat)) (n : Nat) : codeL E1 ihT restT (F2 t s x b) (mkH 12 [.mp es n false]) = some (.code .ret (F3 t s x b) (mkH 12 [.mp es n false])) := by kernel_rfl
theorem dfT3 (t s x : Int) (b : Bool) : (F3 t s x b).df = [] := by kernel_rfl
theorem nT3 (t s x : Int) (b : Bool) : (mkFr 27 [4, 5] [.int .i64 x, .bool b]).n = (F3 t s x b).n := by kernel_rfl
theorem rdT3 (t s x : Int) (b : Bool) : (mkFr 27 [4, 5] [.int .i64 x, .bool b]).rd = (F3 t s x b).rd := by kernel_rfl
theorem g4T3 (t s x : Int) (b : Bool) : (F3 t s x b).t.get 4 = some (.int .i64 x) := by kernel_rfl
theorem g5T3 (t s x : Int) (b : Bool) : (F3 t s x b).t.get 5 = some (.bool b) := by kernel_rfl
theorem resEnd (x : Int) (b : Bool) : resA E1 (mkFr 27 [4, 5] [.int .i64 x, .bool b]).t (mkH 12 []) fnT.results = some [.int .i64 x, .bool b] := by kernel_rfl
theorem regT2 (t s x : Int) (b : Bool) (es : List (AV × AV × Nat)) (n : Nat) (h : lookupA E1 (mkH 12 [.mp es n false]) 263 (.mapv 12) (keyT t s) true = some (.tup [.int .i64 x, .bool b])) : codeA E1 ihT (.region 2 opsT2 false) (F0 t s) (mkH 12 [.mp es n false]) = some (.code .normal (F2 t s x b) (mkH 12 [.mp es n false])) := by
  obtain ⟨o, ho, hs⟩ := splitT
  have hx := execT t s es n
  rw [ho] at hx
  simp only [Option.map_some, Option.some.injEq, Prod.mk.injEq] at hx
  obtain ⟨h1, h2, h3⟩ := hx
  show opsA E1 ihT opsT2 opsT2.toList (F0 t s) (mkH 12 [.mp es n false]) = _
  rw [hs, opsA_app _ _ _ _ _ (preTd t s es n)]
  simp only [opsA, h1, h3, h, vh, callsA, h2]
  exact postT t s x b es n
theorem esT {p : List Nat} (hp : ∀ j, j ∈ p ↔ (insT j).isSome = true) {e : AV × AV × Nat} (he : e ∈ esM E1 opsT1 263 9 wmT p) : ∃ x ∈ pairsT, e.1 = keyT x.1 x.2.1 ∧ e.2.1 = .int .i64 x.2.2 := by
  unfold esM at he
  obtain ⟨y, hy, rfl⟩ := List.mem_map.1 he
  have hm : y.1 ∈ p := (List.mem_zipIdx' hy).2 ▸ List.getElem_mem _
  obtain ⟨x, hx, e⟩ := insT_pair ((hp _).1 hm)
  refine ⟨x, hx, ?_, ?_⟩
  · show (entM E1 opsT1 263 9 wmT y.1).1 = _
    unfold entM
    rw [show insK E1 opsT1 263 9 wmT y.1 = some (entT x) from e]; rfl
  · show (entM E1 opsT1 263 9 wmT y.1).2 = _
    unfold entM
    rw [show insK E1 opsT1 263 9 wmT y.1 = some (entT x) from e]; rfl
theorem esT_mem {p : List Nat} (hp : ∀ j, j ∈ p ↔ (insT j).isSome = true) {x : Int × Int × Int} (hx : x ∈ pairsT) : ∃ e ∈ esM E1 opsT1 263 9 wmT p, e.1 = keyT x.1 x.2.1 ∧ e.2.1 = .int .i64 x.2.2 := by
  obtain ⟨j, hj⟩ := insT_all x hx
  have hm : j ∈ p := (hp j).2 (by rw [hj]; rfl)
  obtain ⟨i, hi, e⟩ := List.getElem_of_mem hm
  refine ⟨((entM E1 opsT1 263 9 wmT j).1, (entM E1 opsT1 263 9 wmT j).2, i), ?_, ?_, ?_⟩
  · unfold esM
    refine List.mem_map.2 ⟨(j, i), ?_, rfl⟩
    rw [List.mem_zipIdx_iff_getElem?, List.getElem?_eq_getElem hi, e]
  · show (entM E1 opsT1 263 9 wmT j).1 = _
    unfold entM
    rw [show insK E1 opsT1 263 9 wmT j = some (entT x) from hj]; rfl
  · show (entM E1 opsT1 263 9 wmT j).2 = _
    unfold entM
    rw [show insK E1 opsT1 263 9 wmT j = some (entT x) from hj]; rfl
theorem pairs_one : ∀ x ∈ pairsT, ∀ y ∈ pairsT, x.1 = y.1 → x.2.1 = y.2.1 → x = y := by decide
theorem lookT {p : List Nat} (hp : ∀ j, j ∈ p ↔ (insT j).isSome = true) (t s : Int) : lookupA E1 (mkH 12 [.mp (esM E1 opsT1 263 9 wmT p) p.length false]) 263 (.mapv 12) (keyT t s) true = some (.tup [.int .i64 (dataV t s), .bool (dataB t s)]) := by
  rw [look_T]
  rcases keyFind_cases (E := E1) (kt := 262) (k := keyT t s) (esM E1 opsT1 263 9 wmT p) 0 (fun e he => by
    obtain ⟨x, _, h1, _⟩ := esT hp he
    rw [h1, eqK_T]; exact ⟨_, rfl⟩) with ⟨e, he, h1, q, h2⟩ | ⟨h1, h2⟩
  · obtain ⟨x, hx, e1, e2⟩ := esT hp he
    rw [h2, e2]
    rw [e1, eqK_T, Option.some.injEq, Bool.and_eq_true, ieq_iff, ieq_iff, decide_eq_true_iff, decide_eq_true_iff] at h1
    obtain ⟨rfl, rfl⟩ := h1
    have hf : foundT x.1 x.2.1 = some x := by
      unfold foundT
      have hs : (pairsT.find? fun y => ieq x.1 y.1 && ieq x.2.1 y.2.1).isSome = true := by
        rw [List.find?_isSome]
        exact ⟨x, hx, by simp [ieq_iff]⟩
      obtain ⟨y, hy⟩ := Option.isSome_iff_exists.1 hs
      rw [hy]
      have hm := List.mem_of_find?_eq_some hy
      have hp2 := List.find?_some hy
      simp only [Bool.and_eq_true, ieq_iff, decide_eq_true_iff] at hp2
      rw [pairs_one x hx y hm hp2.1 hp2.2]
    unfold dataV dataB
    rw [hf]
    rfl
  · rw [h2]
    have hf : foundT t s = none := by
      unfold foundT
      rw [List.find?_eq_none]
      intro x hx
      obtain ⟨e, he, e1, _⟩ := esT_mem hp hx
      have := h1 e he
      rw [e1, eqK_T, Option.some.injEq] at this
      rw [this]; decide
    unfold dataV dataB
    rw [hf]
    rfl
theorem plainEs {p : List Nat} (hp : ∀ j, j ∈ p ↔ (insT j).isSome = true) {keep : List Nat} : ∀ (es : List (AV × AV × Nat)), (∀ e ∈ es, e ∈ esM E1 opsT1 263 9 wmT p) → rnEs 0 keep es = some es
  | [], _ => rfl
  | (k, v, c) :: es, h => by
    obtain ⟨x, _, h1, h2⟩ := esT hp (h _ List.mem_cons_self)
    simp only at h1 h2
    subst h1 h2
    have := plainEs hp (keep := keep) es fun e he => h e (List.mem_cons_of_mem _ he)
    simp only [rnEs, this, keyT, rnV, rnVs]
section
variable {P : Program} {I : List MEnt → AHeap → World → Prop} {ro : Option Nat}
theorem data_tri (hE : EnvOk E1 P I) (hI : Carried I) (t s : Int) : Tri E1 P I ro fnT.body (newFr fnT [.int .i64 t, .int .i64 s]) (mkH 12 []) fun e fr H => (e = .normal ∨ e = .ret) ∧ fr.df = [] ∧ ∃ keep fr' H' l, Ren 12 keep fr H fr' H' ∧ resA E1 fr'.t H' fnT.results = some l ∧ resV l = .tup [.int .i64 (dataV t s), .bool (dataB t s)] := by
  have hs : Sound E1 P I ihT := sound_run hE 10
  refine tri_of_triL _ ?_
  rw [flatDT]
  refine TriL.leafX hE hI (l := [codT0]) (stepT0 t s) (by decide) rfl rfl (fun j o o2 h => by simp at h) (.inl ⟨rfl, ?_⟩)
  refine Tri.mapLit hE hs litT rfl (by decide) 1 fun wm p fr' hwm hm nd hp hn hd hr h1 h2 => .inl ⟨rfl, ?_⟩
  rw [wmT_eq] at hwm
  cases hwm
  have hH : (mkH 12 []).new (.mp (esM E1 opsT1 263 9 wmT p) p.length false) = mkH 12 [.mp (esM E1 opsT1 263 9 wmT p) p.length false] := rfl
  have w0 : wmT.get 0 = none := by kernel_rfl
  have w1 : wmT.get 1 = none := by kernel_rfl
  have g0 : fr'.t.get 0 = some (.int .i64 t) := h2 0 _ w0 (by kernel_rfl)
  have g1 : fr'.t.get 1 = some (.int .i64 s) := h2 1 _ w1 (by kernel_rfl)
  have g6 : fr'.t.get 6 = some (.mapv 12) := by
    have e : (opsT1[14]?.map fun o => (o.dst, valM E1 12 o)) = some (some 6, some (.mapv 12)) := by kernel_rfl
    cases ho : opsT1[14]? with
    | none => rw [ho] at e; cases e
    | some o =>
      rw [ho] at e
      simp only [Option.map_some, Option.some.injEq, Prod.mk.injEq] at e
      exact h1 14 o 6 _ ho e.1 e.2
  rw [show (mkH E1.ng []).new (.mp (esM E1 opsT1 263 9 wmT p) p.length false) = _ from hH]
  have r : Ren 12 (List.range 13) fr' (mkH 12 [.mp (esM E1 opsT1 263 9 wmT p) p.length false]) (F0 t s) (mkH 12 [.mp (esM E1 opsT1 263 9 wmT p) p.length false]) := by
    refine ⟨fun g hg => ?_, fun i hi => ?_, List.nodup_range, rfl, fun k u hk => ?_, hn.symm, hr.symm, ⟨hd, rfl⟩, fun i y hy => ?_⟩
    · rw [List.getElem?_range (by omega)]
    · rw [List.mem_range] at hi; exact hi
    · obtain ⟨j, rfl, hj⟩ := mkH_get hk
      refine ⟨12 + j, u, ?_, hk, ?_⟩
      · have : j < 1 := by
          have := (List.getElem?_eq_some_iff.1 hj).1
          simpa using this
        rw [List.getElem?_range (by omega)]
      · match j, hj with
        | 0, hj =>
          cases hj
          exact ⟨_, rfl, plainEs hp _ fun e he => he⟩
        | j + 1, hj => simp at hj
    · have : (i = 0 ∧ y = .int .i64 t) ∨ (i = 1 ∧ y = .int .i64 s) ∨ (i = 6 ∧ y = .mapv 12) := by
        have hy' : (putL [0, 1, 6] [.int .i64 t, .int .i64 s, .mapv 12]).get i = some y := hy
        obtain ⟨j, hj, hv⟩ := putL_get hy'
        match j, hj, hv with
        | 0, hj, hv => cases hj; cases hv; exact .inl ⟨rfl, rfl⟩
        | 1, hj, hv => cases hj; cases hv; exact .inr (.inl ⟨rfl, rfl⟩)
        | 2, hj, hv => cases hj; cases hv; exact .inr (.inr ⟨rfl, rfl⟩)
        | j + 3, hj, _ => simp at hj
      rcases this with ⟨rfl, rfl⟩ | ⟨rfl, rfl⟩ | ⟨rfl, rfl⟩
      · exact ⟨_, g0, rfl⟩
      · exact ⟨_, g1, rfl⟩
      · exact ⟨_, g6, by kernel_rfl⟩
  refine TriL.ren hI r ?_
  have hc : codeL E1 ihT [.region 2 opsT2 false] (F0 t s) (mkH 12 [.mp (esM E1 opsT1 263 9 wmT p) p.length false]) = some (.code .normal (F2 t s (dataV t s) (dataB t s)) (mkH 12 [.mp (esM E1 opsT1 263 9 wmT p) p.length false])) := by
    simp only [codeL, regT2 t s _ _ _ _ (lookT hp t s)]
  refine TriL.run hE hs (l := [.region 2 opsT2 false]) hc (.inl ⟨rfl, ?_⟩)
  show TriL E1 P I ro restT _ _ _
  rw [← List.append_nil restT]
  refine TriL.run hE hs (m := []) (endT3 t s (dataV t s) (dataB t s) _ _) (.inr ⟨(by intro h; cases h), .inr rfl, dfT3 _ _ _ _, ?_⟩)
  refine ⟨List.range 12, mkFr 27 [4, 5] [.int .i64 (dataV t s), .bool (dataB t s)], mkH 12 [], _, ?_, resEnd _ _, rfl⟩
  refine ⟨fun g hg => ?_, fun i hi => ?_, List.nodup_range, rfl, fun k u hk => ?_, nT3 _ _ _ _, rdT3 _ _ _ _, ⟨dfT3 _ _ _ _, rfl⟩, fun i y hy => ?_⟩
  · rw [List.getElem?_range (by omega)]
  · rw [List.mem_range] at hi
    show i < 13
    omega
  · obtain ⟨j, _, hj⟩ := mkH_get hk
    simp at hj
  · have hy' : (putL [4, 5] [.int .i64 (dataV t s), .bool (dataB t s)]).get i = some y := hy
    obtain ⟨j, hj, hv⟩ := putL_get hy'
    match j, hj, hv with
    | 0, hj, hv => cases hj; cases hv; exact ⟨_, g4T3 _ _ _ _, rfl⟩
    | 1, hj, hv => cases hj; cases hv; exact ⟨_, g5T3 _ _ _ _, rfl⟩
    | j + 2, hj, _ => simp at hj
end
def dataSm : Sm := fun f args H => match args with
  | [.int .i64 t, .int .i64 s] => bif Nat.beq f 88 then some (.tup [.int .i64 (dataV t s), .bool (dataB t s)], H) else none
  | _ => none
theorem data_ok : SmOk Tryz.prog gl dataSm := by
  intro f args H v H' M w cargs hs hw hr ha
  unfold dataSm at hs
  split at hs
  case h_2 => cases hs
  rename_i t s
  cases hc : Nat.beq f 88 with
  | false => rw [hc] at hs; cases hs
  | true =>
    rw [hc] at hs
    rw [Nat.beq_eq] at hc
    subst hc
    simp only [cond_true, Option.some.injEq, Prod.mk.injEq] at hs
    obtain ⟨rfl, rfl⟩ := hs
    match cargs, ha with
    | [c0, c1], ⟨r0, r1, _⟩ =>
      exact view_calls (ex := []) (os := []) (args := [.int .i64 t, .int .i64 s]) e1_ok fnT_eq hw hr rfl (fun o ho => by cases ho) (fun j m o h => by simp at h) ⟨r0, r1, trivial⟩ (fun _ _ => rfl) (data_tri (e1_ok w hw) (kept_carried hw) t s)
end
end Go.Proofs.YthlcgkebfodnmaaGreatDoor
namespace Go.Proofs.YthlcgkebfodnmaaGreatDoor
open Go Go.Vai
noncomputable section
set_option maxRecDepth 100000
def EBs : Env := envOf Tryz.prog 12 [88, 127] (orSm (extSm kinds) (orSm (contSm 127) dataSm))
theorem ebs_ok (w : World) (hw : GlobOk gl w) : EnvOk EBs Tryz.prog (Kept gl w) := envOk_sm (by kernel_rfl) ((smOk_ext ext_ok).or (cont_ok1.or data_ok)) mixed_ok (fun _ _ _ h => h.1) (kept_carried hw).ext
theorem src_fn : (EBs.fn 6).isSome = true := by kernel_rfl
def srcD0 : Done := ⟨6, [.int .i64 (.ofNat 3), .str [97, 58, 32, 98, 101, 113, 32, 97, 48, 44, 32, 97, 49, 44, 32, 97]], [2291, 2083, 2369, 814, 2087], .tup [.agg [.int .i64 (.ofNat 3), .sl 2291 0 1 none, .sl 2083 0 1 none, .sl 2369 0 1 none, .sl 814 0 2 none], .int .i64 (.ofNat 0), .int .i64 (.ofNat 0)],
[  ⟨6, 44, some (6), 0, false, false, [some (.str [46, 116, 101, 120, 116]), some (.str [97, 120]), some (.int .i64 (.ofNat 2)), some (.int .i64 (.ofNat 4)), some (.sl 2087 0 4 none), some (.nils)]⟩,
  ⟨6, 38, some (6), 0, false, false, [some (.str [97]), some (.int .i64 (.ofNat 0)), some (.int .i64 (.ofNat 0)), some (.int .i64 (.ofNat 1)), some (.int .u64 (.ofNat 0)), some (.int .u64 (.ofNat 0))]⟩,
  ⟨4, 48, some (4), 0, false, false, [some (.int .i64 (.ofNat 1)), some (.int .i64 (.ofNat 0)), some (.int .i64 (.ofNat 4)), some (.int .i64 (.ofNat 1))]⟩,
  ⟨28, 93, some (14), 0, false, false, [some (.int .i64 (.ofNat 1)), some (.int .i64 (.ofNat 1)), some (.str [97]), some (.nils), some (.str []), some (.int .i64 (.ofNat 0)), some (.int .i64 (.ofNat 0)), some (.int .i64 (.ofNat 0)), some (.int .i64 (.ofNat 0)), some (.int .i64 (.ofNat 0)), some (.str []), some (.int .i64 (.ofNat 0)), some (.str []), some (.str []), some (.int .i64 (.ofNat 1)), some (.int .i64 (.ofNat 2)), some (.str []), some (.nils), some (.str [98, 101, 113]), some (.int .i64 (.ofNat 0)), some (.int .i64 (.ofNat 10)), some (.int .i64 (.ofNat 11)), some (.int .i64 (.ofNat 0)), some (.int .i64 (.ofNat 0)), some (.str [97]), some (.int .i64 (.ofNat 0)), some (.str []), some (.str [])]⟩,
  ⟨4, 5, some (1), 0, false, false, [some (.int .u8 (.ofNat 99)), some (.int .u8 (.ofNat 0)), some (.int .u8 (.ofNat 181)), some (.int .u8 (.ofNat 0))]⟩]⟩
def srcD1 : Done := ⟨6, [.int .i64 (.ofNat 1), .str [99, 97, 108, 108, 32, 102]], [1994, 1273, 2075, 276, 1277, 1992], .tup [.agg [.int .i64 (.ofNat 1), .sl 1994 0 1 none, .sl 1273 0 1 none, .sl 2075 0 1 none, .sl 276 0 1 none], .int .i64 (.ofNat 0), .int .i64 (.ofNat 0)],
[  ⟨6, 44, some (6), 0, false, false, [some (.str [46, 116, 101, 120, 116]), some (.str [97, 120]), some (.int .i64 (.ofNat 1)), some (.int .i64 (.ofNat 5)), some (.sl 1277 0 5 none), some (.sl 1992 0 1 none)]⟩,
  ⟨6, 38, some (6), 0, false, false, [some (.str [102]), some (.int .i64 (.ofNat 1)), some (.int .i64 (.ofNat 0)), some (.int .i64 (.ofNat 0)), some (.int .u64 (.ofNat 0)), some (.int .u64 (.ofNat 0))]⟩,
  ⟨4, 48, some (4), 0, false, false, [some (.int .i64 (.ofNat 1)), some (.int .i64 (.ofNat 0)), some (.int .i64 (.ofNat 5)), some (.int .i64 (.ofNat 0))]⟩,
  ⟨14, 93, some (14), 0, false, false, [some (.int .i64 (.ofNat 1)), some (.int .i64 (.ofNat 2)), some (.str []), some (.nils), some (.str [99, 97, 108, 108]), some (.int .i64 (.ofNat 0)), some (.int .i64 (.ofNat 0)), some (.int .i64 (.ofNat 0)), some (.int .i64 (.ofNat 0)), some (.int .i64 (.ofNat 0)), some (.str [102]), some (.int .i64 (.ofNat 0)), some (.str []), some (.str [])]⟩,
  ⟨5, 5, some (1), 0, false, false, [some (.int .u8 (.ofNat 232)), some (.int .u8 (.ofNat 0)), some (.int .u8 (.ofNat 0)), some (.int .u8 (.ofNat 0)), some (.int .u8 (.ofNat 0))]⟩,
  ⟨4, 55, some (4), 0, false, false, [some (.int .u64 (.ofNat 1)), some (.int .i64 (.ofNat 4)), some (.int .i64 (.ofNat 1)), some (.int .i64 (.negSucc 3))]⟩]⟩
def srcD2 : Done := ⟨6, [.int .i64 (.ofNat 2), .str [10, 97, 58, 10, 97, 58]], [], .tup [.agg [.int .i64 (.ofNat 0), .nils, .nils, .nils, .nils], .int .i64 (.ofNat 3), .int .i64 (.ofNat 19)],
[]⟩
end
end Go.Proofs.YthlcgkebfodnmaaGreatDoor
