/- The law's head: does a header begin there? -/
import Derived.Test.YtmppdannkpdpmaaGreatDoorArRd
import Derived.Test.YtmppdannkpdpmaaGreatDoorVaiLoop
import Derived.Test.YtmppdannkpdpmaaGreatDoorVaiH
import Derived.KernelRfl
namespace Go.Proofs.YtmppdannkpdpmaaGreatDoor
open Go Go.Vai
noncomputable section
set_option maxRecDepth 100000
def EHm : Env := K4 Tryz.prog 8 [36, 39, 52, 61, 62, 67, 77] (Y4 (Z2 Ziw) Va)
theorem Zu4 (w : World) (hw : Ya gl w) : EnvOk EHm Tryz.prog (Kept gl w) := Zc0 (by kernel_rfl) (Z08.or Za0) Qv (fun _ _ _ h => h.1) (Yg hw).ext
def dgK {α : Type} (args : List AV) (H : AHeap) (k : AV → AHeap → Option α) : Option α := match args with
  | [.int .i64 (.ofNat n)] => bc (Nat.blt n 140) (k (.str (Zk n)) H) none
  | _ => none
def Zuk {α : Type} : Smk α := fun f args H k => bif Nat.beq f 36 then dgK args H k else none
theorem Zxg {α : Type} : Qb (α := α) EHm Zuk := fun f args H k r h => by
  unfold Zuk at h
  cases hf : Nat.beq f 36 with
  | false => rw [hf] at h; cases h
  | true =>
    rw [hf] at h
    rw [Nat.beq_eq] at hf
    subst hf
    simp only [cond_true] at h
    unfold dgK at h
    split at h
    case h_2 => cases h
    rename_i n
    obtain ⟨h1, h2⟩ := Zr h
    have e : Ziw 36 [.int .i64 (.ofNat n)] = some (.str (Zk n)) := by
      unfold Ziw
      simp only [Nat.beq_refl, h1, Bool.and_self, cond_true]
    refine ⟨_, _, Zby (a := Z2 Ziw) ?_, h2⟩
    unfold Z2
    rw [e]
def Zau : AFunc := (EHm.fn 19).getD default
theorem Zw1 : EHm.fn 19 = some Zau := by kernel_rfl
theorem Zqx : flat Zau.body = (flat Zau.body).take 7 ++ .block 0 (.loop (Qm [7, 0] Zau.body)) :: (flat Zau.body).drop 8 := by kernel_rfl
theorem Zuq : Zau.results = [.tmp 8] := by kernel_rfl
theorem Z0o (X nm : List UInt8) (N c a q : Nat) : Yk EHm (Zn EHm Zuk Zu 100) ((flat Zau.body).take 7) (Xf 8 [0, 1, 10] [(9, [0, 1, 2, 3, 4, 5, 6, 7, 8])]) (Xb Zau [.sl 8 0 N (some c), .int .i64 (.ofNat a), .str nm, .int .i64 (.ofNat q)]) (Z6 8 [.cells N (bT X) 0 none 0 true false]) (pO 24 1) = bc (Nat.ble (Nat.succ (Za nm)) 1099511627776) (bc (Nat.blt 15 (Za nm)) (bc (Nat.blt q 140) (bc (Nat.ble (Nat.add 1 (Za (Zk q))) 1099511627776) (bc (Yi (.ofNat N) (Zb .i64 (.ofNat (Nat.add a 60)))) (none) (bc (Yi (Zb .i64 (.ofNat (Nat.add a (Za ([47] ++ (Zk q)))))) (.ofNat 0)) (none) (bc (Nat.ble (Int.toNat (Zb .i64 (.ofNat (Nat.add a (Za ([47] ++ (Zk q))))))) c) (bc (Nat.ble a (Int.toNat (Zb .i64 (.ofNat (Nat.add a (Za ([47] ++ (Zk q)))))))) (bc (Yj (bT X) (cn (Nat.beq c a) 0 (Nat.add 0 (Nat.mul a 1))) (Nat.mul (Nat.sub (Int.toNat (Zb .i64 (.ofNat (Nat.add a (Za ([47] ++ (Zk q))))))) a) 1)) (bc (Xk (Zc (bT X) (cn (Nat.beq c a) 0 (Nat.add 0 (Nat.mul a 1))) (Nat.mul (Nat.sub (Int.toNat (Zb .i64 (.ofNat (Nat.add a (Za ([47] ++ (Zk q))))))) a) 1))) (bc (!(leq (Zd (Zc (bT X) (cn (Nat.beq c a) 0 (Nat.add 0 (Nat.mul a 1))) (Nat.mul (Nat.sub (Int.toNat (Zb .i64 (.ofNat (Nat.add a (Za ([47] ++ (Zk q))))))) a) 1))) ([47] ++ (Zk q)))) (none) (bc (Yi (Zb .i64 (.ofNat (Nat.add a 58))) (.ofNat 0)) (none) (bc (Nat.blt (Int.toNat (Zb .i64 (.ofNat (Nat.add a 58)))) N) (bc (isI .u8 (Tr.get (bT X) (at1 (Int.toNat (Zb .i64 (.ofNat (Nat.add a 58))))))) (bc (!(Vx (asI (Tr.get (bT X) (at1 (Int.toNat (Zb .i64 (.ofNat (Nat.add a 58))))))) (.ofNat 96))) (none) (bc (Yi (Zb .i64 (.ofNat (Nat.add a 59))) (.ofNat 0)) (none) (bc (Nat.blt (Int.toNat (Zb .i64 (.ofNat (Nat.add a 59)))) N) (bc (isI .u8 (Tr.get (bT X) (at1 (Int.toNat (Zb .i64 (.ofNat (Nat.add a 59))))))) (bc (!(Vx (asI (Tr.get (bT X) (at1 (Int.toNat (Zb .i64 (.ofNat (Nat.add a 59))))))) (.ofNat 10))) (none) (lf .normal 65 ([.sl 8 0 N (some c), .int .i64 (.ofNat a), .int .i64 (.ofNat (Za ([47] ++ (Zk q))))].map some) ([.cells N (bT X) 0 none 0 true false].map some))) (none)) (none)))) (none)) (none)))) (none)) (none)) (none)) (none)))) (none)) (none)) (none)) (none) := by kernel_rfl
theorem Z1y (X nm : List UInt8) (N c a q : Nat) : Yk EHm (Zn EHm Zuk Zu 100) ((flat Zau.body).take 7) (Xf 8 [0, 1, 10] [(9, [0, 1, 2, 3, 4, 5, 6, 7, 8])]) (Xb Zau [.sl 8 0 N (some c), .int .i64 (.ofNat a), .str nm, .int .i64 (.ofNat q)]) (Z6 8 [.cells N (bT X) 0 none 0 true false]) (pO 24 0) = bc (Nat.ble (Nat.succ (Za nm)) 1099511627776) (bc (Nat.blt 15 (Za nm)) (none) (bc (Yi (.ofNat N) (Zb .i64 (.ofNat (Nat.add a 60)))) (none) (bc (Yi (Zb .i64 (.ofNat (Nat.add a (Za (nm ++ [47]))))) (.ofNat 0)) (none) (bc (Nat.ble (Int.toNat (Zb .i64 (.ofNat (Nat.add a (Za (nm ++ [47])))))) c) (bc (Nat.ble a (Int.toNat (Zb .i64 (.ofNat (Nat.add a (Za (nm ++ [47]))))))) (bc (Yj (bT X) (cn (Nat.beq c a) 0 (Nat.add 0 (Nat.mul a 1))) (Nat.mul (Nat.sub (Int.toNat (Zb .i64 (.ofNat (Nat.add a (Za (nm ++ [47])))))) a) 1)) (bc (Xk (Zc (bT X) (cn (Nat.beq c a) 0 (Nat.add 0 (Nat.mul a 1))) (Nat.mul (Nat.sub (Int.toNat (Zb .i64 (.ofNat (Nat.add a (Za (nm ++ [47])))))) a) 1))) (bc (!(leq (Zd (Zc (bT X) (cn (Nat.beq c a) 0 (Nat.add 0 (Nat.mul a 1))) (Nat.mul (Nat.sub (Int.toNat (Zb .i64 (.ofNat (Nat.add a (Za (nm ++ [47])))))) a) 1))) (nm ++ [47]))) (none) (bc (Yi (Zb .i64 (.ofNat (Nat.add a 58))) (.ofNat 0)) (none) (bc (Nat.blt (Int.toNat (Zb .i64 (.ofNat (Nat.add a 58)))) N) (bc (isI .u8 (Tr.get (bT X) (at1 (Int.toNat (Zb .i64 (.ofNat (Nat.add a 58))))))) (bc (!(Vx (asI (Tr.get (bT X) (at1 (Int.toNat (Zb .i64 (.ofNat (Nat.add a 58))))))) (.ofNat 96))) (none) (bc (Yi (Zb .i64 (.ofNat (Nat.add a 59))) (.ofNat 0)) (none) (bc (Nat.blt (Int.toNat (Zb .i64 (.ofNat (Nat.add a 59)))) N) (bc (isI .u8 (Tr.get (bT X) (at1 (Int.toNat (Zb .i64 (.ofNat (Nat.add a 59))))))) (bc (!(Vx (asI (Tr.get (bT X) (at1 (Int.toNat (Zb .i64 (.ofNat (Nat.add a 59))))))) (.ofNat 10))) (none) (lf .normal 65 ([.sl 8 0 N (some c), .int .i64 (.ofNat a), .int .i64 (.ofNat (Za (nm ++ [47])))].map some) ([.cells N (bT X) 0 none 0 true false].map some))) (none)) (none)))) (none)) (none)))) (none)) (none)) (none)) (none))))) (none) := by kernel_rfl
theorem Z19 (X : List UInt8) (N c a j : Nat) : Xy EHm (Vo EHm 3) (flat (Qm [7, 0] Zau.body)) (Vb 8 [0, 1, 10] [0, 1, 2, 3, 4, 5, 6, 7, 8]) (Yq 65 [0, 1, 10] [.sl 8 0 N (some c), .int .i64 (.ofNat a), .int .i64 (.ofNat j)]) (Z6 8 [.cells N (bT X) 0 none 0 true false]) = bc (Nat.blt j 16) (bc (Yi (Zb .i64 (.ofNat (Nat.add a j))) (.ofNat 0)) (none) (bc (Nat.blt (Int.toNat (Zb .i64 (.ofNat (Nat.add a j)))) N) (bc (isI .u8 (Tr.get (bT X) (at1 (Int.toNat (Zb .i64 (.ofNat (Nat.add a j))))))) (bc (!(Vx (asI (Tr.get (bT X) (at1 (Int.toNat (Zb .i64 (.ofNat (Nat.add a j))))))) (.ofNat 32))) (lf .ret 65 ([.sl 8 0 N (some c), .int .i64 (.ofNat a), .int .i64 (.ofNat j)].map some) ([.cells N (bT X) 0 none 0 true false].map some)) (lf .normal 65 ([.sl 8 0 N (some c), .int .i64 (.ofNat a), .int .i64 (up j)].map some) ([.cells N (bT X) 0 none 0 true false].map some))) (none)) (none))) (lf (.exit 0) 65 ([.sl 8 0 N (some c), .int .i64 (.ofNat a), .int .i64 (.ofNat j)].map some) ([.cells N (bT X) 0 none 0 true false].map some)) := by kernel_rfl
theorem Z1a (X : List UInt8) (N c a j : Nat) : Xy EHm (Vo EHm 3) ((flat Zau.body).drop 8) (Vb 8 [8] [0, 1, 2, 3, 4, 5, 6, 7, 8]) (Yq 65 [0, 1, 10] [.sl 8 0 N (some c), .int .i64 (.ofNat a), .int .i64 (.ofNat j)]) (Z6 8 [.cells N (bT X) 0 none 0 true false]) = lf .ret 65 ([.bool true].map some) ([.cells N (bT X) 0 none 0 true false].map some) := by kernel_rfl
theorem Zwi {w : List UInt8} {sz : Nat} (h : w.length ≤ 16) : (Zx w sz)[58]? = some 96 ∧ (Zx w sz)[59]? = some 10 := by
  have hn : (Xl (Zk sz) 10).length = 10 := Vm (Jt sz)
  have key : ∀ k, (Zx w sz)[58 + k]? = ([96, 10] : List UInt8)[k]? := fun k => by
    unfold Zx
    rw [List.getElem?_append_right (by rw [Vm h]; omega), Vm h, List.getElem?_append_right (by rw [Zfl]; omega), Zfl, List.getElem?_append_right (by rw [hn]; omega), hn, show 58 + k - 16 - 32 - 10 = k by omega]
  exact ⟨key 0, key 1⟩
theorem Zus {w : List UInt8} {sz j : Nat} (h : w.length ≤ 16) (h1 : w.length ≤ j) (h2 : j < 16) : (Zx w sz)[j]? = some 32 := by
  unfold Zx
  rw [List.getElem?_append_left (by rw [Vm h]; exact h2)]
  unfold Xl
  rw [List.getElem?_append_right h1, List.getElem?_replicate, if_pos (by omega)]
theorem Zow {w : List UInt8} {sz : Nat} (h : w.length ≤ 16) : (Zx w sz).take w.length = w := by
  unfold Zx Xl
  rw [List.append_assoc, List.take_left]
section
variable {X w : List UInt8} {a sz : Nat} (hN : X.length ≤ 50000) (ha : a + 60 ≤ X.length) (hX : (X.drop a).take 60 = Zx w sz)
include hN ha hX
theorem Jz {j : Nat} {b : UInt8} (hj : j < 60) (hb : (Zx w sz)[j]? = some b) : Tr.get (bT X) (at1 (Int.toNat (Zb .i64 (.ofNat (Nat.add a j))))) = some (Ze b) := by
  rw [wrap_i64 (n := Nat.add a j) (show a + j < 9223372036854775808 by omega), Z0, Z0g]
  refine W1 (L := X) (by omega) (a + j) b ?_
  rw [← hX, List.getElem?_take, if_pos hj, List.getElem?_drop] at hb
  exact hb
theorem Zwd (hw : w.length ≤ 16) : Zd (Zc (bT X) a (Za w)) = w := by
  have h1 : Za w = w.length := rfl
  rw [h1, Zfa (by omega) hN]
  have : ((X.drop a).take 60).take w.length = w := by rw [hX, Zow hw]
  rwa [List.take_take, Nat.min_eq_left (by omega)] at this
end
theorem Zdm {keep : List Nat} {X : List UInt8} {N : Nat} : ∀ (j : Nat) (o o2 : AObj), [AObj.cells N (bT X) 0 none 0 true false][j]? = some o → [AObj.cells N (bT X) 0 none 0 true false][j]? = some o2 → Q9 0 keep o o2 :=
  Ztr fun o ho => by
    rw [List.mem_singleton] at ho
    subst ho
    refine ⟨_, _, _, _, _, _, _, rfl, fun i y hy => ?_⟩
    rcases Tr.get_putAll _ hy with ⟨q, _, hq⟩ | ⟨_, hu⟩
    · rw [List.getElem?_map] at hq
      obtain ⟨b, _, rfl⟩ := Option.map_eq_some_iff.1 hq
      exact Ziy _ _
    · simp [Tr.get_nil] at hu
section
variable {P : Program} {I : List MEnt → AHeap → World → Prop} {ro : Option Nat}
theorem Zyd {X nm : List UInt8} {c a q sz : Nat} (hN : X.length ≤ 50000) (hc : X.length ≤ c) (ha : a + 60 ≤ X.length) (hX : (X.drop a).take 60 = Zx (Qd nm q) sz) (hnm : nm.length ≤ 128) (hq : q < 140) :
    ∃ o, Yk EHm (Zn EHm Zuk Zu 100) ((flat Zau.body).take 7) (Xf 8 [0, 1, 10] [(9, [0, 1, 2, 3, 4, 5, 6, 7, 8])]) (Xb Zau [.sl 8 0 X.length (some c), .int .i64 (.ofNat a), .str nm, .int .i64 (.ofNat q)]) (Z6 8 [.cells X.length (bT X) 0 none 0 true false]) o = lf .normal 65 ([.sl 8 0 X.length (some c), .int .i64 (.ofNat a), .int .i64 (.ofNat (Za (Qd nm q)))].map some) ([.cells X.length (bT X) 0 none 0 true false].map some) := by
  have hw : (Qd nm q).length ≤ 16 := Zee
  have t := Zwi (w := Qd nm q) (sz := sz) hw
  have c8 := Jz hN ha hX (j := 58) (by decide) t.1
  have c9 := Jz hN ha hX (j := 59) (by decide) t.2
  have wa := Zwd hN ha hX hw
  have w0 : Zb .i64 (.ofNat (Nat.add a 60)) = .ofNat (Nat.add a 60) := wrap_i64 (show a + 60 < 9223372036854775808 by omega)
  have w8 : Zb .i64 (.ofNat (Nat.add a 58)) = .ofNat (Nat.add a 58) := wrap_i64 (show a + 58 < 9223372036854775808 by omega)
  have w9 : Zb .i64 (.ofNat (Nat.add a 59)) = .ofNat (Nat.add a 59) := wrap_i64 (show a + 59 < 9223372036854775808 by omega)
  have hl : Za (Qd nm q) ≤ 16 := hw
  have c1 : cn (Nat.beq c a) 0 (Nat.add 0 (Nat.mul a 1)) = a := (Zah (show c ≠ a by omega)).trans (show 0 + a * 1 = a by omega)
  have ww : Zb .i64 (.ofNat (Nat.add a (Za (Qd nm q)))) = .ofNat (Nat.add a (Za (Qd nm q))) := wrap_i64 (show a + Za (Qd nm q) < 9223372036854775808 by omega)
  have s1 : Nat.mul (Nat.sub (Nat.add a (Za (Qd nm q))) a) 1 = Za (Qd nm q) := show (a + Za (Qd nm q) - a) * 1 = _ by omega
  have hA : Yj (bT X) a (Za (Qd nm q)) = true := Xm (by omega) hN
  have hY : Xk (Zc (bT X) a (Za (Qd nm q))) = true := Yv (by omega) hN
  rw [w8, Z0] at c8
  rw [w9, Z0] at c9
  cases hb : Nat.blt 15 (Za nm) with
  | true =>
    have hwe : Qd nm q = [47] ++ Zk q := by unfold Qd; rw [hb]; rfl
    rw [hwe] at wa hl ww s1 hA hY ⊢
    refine ⟨_, (Z0o X nm X.length c a q).trans ?_⟩
    refine Zf (W5 hnm (by decide)) (Zf hb (Zf (Z4 hq) (Zf (Xd (Zt q).2 (by decide)) ?_)))
    rw [w0, ww, w8, w9]
    simp only [Z0]
    rw [c1, s1, wa, hA, hY, c8, c9]
    refine Zj (Z7 (show ¬ X.length < a + 60 by omega)) (Zj (Z7 (Nat.not_lt_zero _)) (Zf (Zl (show a + Za _ ≤ c by omega)) (Zf (Zl (Nat.le_add_right _ _)) (Zf rfl (Zf rfl (Zj (Yf (Zo _)) ?_))))))
    refine Zj (Z7 (Nat.not_lt_zero _)) (Zf (Z4 (show a + 58 < X.length by omega)) (Zf rfl (Zj rfl ?_)))
    exact Zj (Z7 (Nat.not_lt_zero _)) (Zf (Z4 (show a + 59 < X.length by omega)) (Zf rfl (Zj rfl rfl)))
  | false =>
    have hwe : Qd nm q = nm ++ [47] := by unfold Qd; rw [hb]; rfl
    rw [hwe] at wa hl ww s1 hA hY ⊢
    refine ⟨_, (Z1y X nm X.length c a q).trans ?_⟩
    refine Zf (W5 hnm (by decide)) (Zj hb ?_)
    rw [w0, ww, w8, w9]
    simp only [Z0]
    rw [c1, s1, wa, hA, hY, c8, c9]
    refine Zj (Z7 (show ¬ X.length < a + 60 by omega)) (Zj (Z7 (Nat.not_lt_zero _)) (Zf (Zl (show a + Za _ ≤ c by omega)) (Zf (Zl (Nat.le_add_right _ _)) (Zf rfl (Zf rfl (Zj (Yf (Zo _)) ?_))))))
    refine Zj (Z7 (Nat.not_lt_zero _)) (Zf (Z4 (show a + 58 < X.length by omega)) (Zf rfl (Zj rfl ?_)))
    exact Zj (Z7 (Nat.not_lt_zero _)) (Zf (Z4 (show a + 59 < X.length by omega)) (Zf rfl (Zj rfl rfl)))
theorem Zzs (hE : EnvOk EHm P I) (hI : Carried I) {X nm : List UInt8} {c a q sz : Nat} (hN : X.length ≤ 50000) (hc : X.length ≤ c) (ha : a + 60 ≤ X.length) (hX : (X.drop a).take 60 = Zx (Qd nm q) sz) (hnm : nm.length ≤ 128) (hq : q < 140) :
    Wv EHm P I ro Zau.body (Xb Zau [.sl 8 0 X.length (some c), .int .i64 (.ofNat a), .str nm, .int .i64 (.ofNat q)]) (Z6 8 [.cells X.length (bT X) 0 none 0 true false]) fun e fr H => (e = .normal ∨ e = .ret) ∧ fr.df = [] ∧ ∃ keep fr' H' l, Ren EHm.ng keep fr H fr' H' ∧ Q6 EHm fr'.t H' Zau.results = some l ∧ Zd0 l = .bool true := by
  have hw : (Qd nm q).length ≤ 16 := Zee
  have hl : Za (Qd nm q) = (Qd nm q).length := rfl
  obtain ⟨o, e0⟩ := Zyd hN hc ha hX hnm hq
  refine Yz _ ?_
  rw [Zqx]
  refine Yc.leafPX hE hI (Xq EHm Zxg Zu 100) e0 (by decide) rfl (fun keep _ => Zdm) (.inl ⟨rfl, ?_⟩)
  refine Wv.mono (Wv.block (Q := fun e fr H => e = .normal ∧ Ren 8 [0, 1, 2, 3, 4, 5, 6, 7, 8] fr H (Yq 65 [0, 1, 10] [.sl 8 0 X.length (some c), .int .i64 (.ofNat a), .int .i64 (.ofNat 16)]) (Z6 8 [.cells X.length (bT X) 0 none 0 true false])) (Wv.loop (X := Nat) (fr := fun j => Yq 65 [0, 1, 10] [.sl 8 0 X.length (some c), .int .i64 (.ofNat a), .int .i64 (.ofNat j)]) (H := fun _ => Z6 8 [.cells X.length (bT X) 0 none 0 true false]) (Inv := fun j => (Qd nm q).length ≤ j ∧ j ≤ 16) (fun j => 16 - j) hI ?_ (Za (Qd nm q)) ⟨Nat.le_refl _, hw⟩)) ?_
  · rintro j ⟨h1, h2⟩
    refine Yz _ ?_
    have e := Z19 X X.length c a j
    by_cases h : j < 16
    · have cj := Jz hN ha hX (j := j) (by omega) (Zus hw h1 h)
      have wj : Zb .i64 (.ofNat (Nat.add a j)) = .ofNat (Nat.add a j) := wrap_i64 (show a + j < 9223372036854775808 by omega)
      rw [Z4 h, cj, Yd, wj, Z0, Z7 (show ¬ Nat.add a j < 0 from Nat.not_lt_zero _), Z4 (show Nat.add a j < X.length from (by omega : a + j < X.length)), Yw, Yd, Zr8, Yd, Zti, Zzh (by omega)] at e
      exact Yc.leafE hE e (by decide) rfl rfl Zdm fun fr' H' r => .inl ⟨rfl, j + 1, _, ⟨by omega, h⟩, by omega, r⟩
    · obtain rfl : j = 16 := by omega
      exact Yc.leafE hE e (by decide) rfl rfl Zdm fun fr' H' r => .inr ⟨(by intro h; cases h), rfl, r⟩
  · rintro e fr H ⟨rfl, r⟩
    refine .inl ⟨rfl, Yc.ren hI r ?_⟩
    refine Yc.leafE hE (Z1a X X.length c a 16) (by decide) rfl rfl Zdm fun fr' H' r => ⟨.inr rfl, r.df.1, _, _, _, [.bool true], r, by rw [Zuq]; rfl, rfl⟩
end
def Z2u (H : AHeap) (id n a : Nat) (nm : List UInt8) (q : Nat) : Prop := ∃ X : List UInt8, ∃ T e g fz ro mk sz, n = X.length ∧ H.get id = some (.cells X.length T e g fz ro mk) ∧ T.getAll 0 X.length = some (X.map Ze) ∧ X.length ≤ 50000 ∧ a + 60 ≤ X.length ∧ (X.drop a).take 60 = Zx (Qd nm q) sz ∧ nm.length ≤ 128 ∧ q < 140
open Classical in
def Zje : Sm := fun g args H => match args with
  | [.sl id 0 n none, .int .i64 (.ofNat a), .str nm, .int .i64 (.ofNat q)] => if g = 19 ∧ Z2u H id n a nm q then some (.bool true, H) else none
  | _ => none
theorem Z2z : Vt Tryz.prog gl Zje := by
  intro g args H v H' M w cargs hs hw hr ha
  unfold Zje at hs
  split at hs
  case h_2 => cases hs
  rename_i id n a nm q
  split at hs
  case isFalse => cases hs
  rename_i hc
  obtain ⟨rfl, X, T, e, gg, fz, ro, mk, sz, rfl, hid, hT, hN, ha60, hX, hnm, hq⟩ := hc
  simp only [Option.some.injEq, Prod.mk.injEq] at hs
  obtain ⟨rfl, rfl⟩ := hs
  match cargs, ha with
  | [c0, c1, c2, c3], ⟨a0, a1, a2, a3, _⟩ =>
    obtain ⟨m, c, hm, rfl, _, hcap⟩ := a0
    have hcn := (hcap rfl).1
    obtain ⟨m', hm', hrel⟩ := hr.obj id _ hid
    rw [hm] at hm'; cases hm'
    have hB := Zoq hT
    have hsub := Zwv hrel (T2 := bT X) (fun i z hz => by
      obtain ⟨q1, k, rfl⟩ := Znp hB i z hz
      exact ⟨q1, Ziy _ _⟩) 0
    have hx : (X2 EHm.ng 0 ++ [m])[EHm.ng]? = some m := by
      rw [List.getElem?_append_right (by rw [Wm]; omega), Wm, Nat.sub_self]; rfl
    refine Zn5 (E := EHm) (fn := Zau) (os := [.cells X.length (bT X) 0 none 0 true false]) (ex := [m]) (args := [.sl 8 0 X.length (some c), .int .i64 (.ofNat a), .str nm, .int .i64 (.ofNat q)]) Zu4 Zw1 hw hr rfl (fun o ho => by rw [List.mem_singleton] at ho; subst ho; rfl) (fun j m2 o2 e1 e2 => ?_) ⟨⟨m, c, hx, rfl, (fun d e => by cases e; rfl), (fun e => by cases e)⟩, a1, a2, a3, trivial⟩ (Zgu _) (Zzs (Zu4 w hw) (Yg hw) hN hcn ha60 hX hnm hq)
    match j, e1, e2 with
    | 0, e1, e2 => cases e1; cases e2; exact hsub
    | j + 1, e1, _ => simp at e1
  | [], ha => exact ha.elim
  | [_], ha => exact ha.2.elim
  | [_, _], ha => exact ha.2.2.elim
  | [_, _, _], ha => exact ha.2.2.2.elim
  | _ :: _ :: _ :: _ :: _ :: _, ha => exact ha.2.2.2.2.elim
end
end Go.Proofs.YtmppdannkpdpmaaGreatDoor
