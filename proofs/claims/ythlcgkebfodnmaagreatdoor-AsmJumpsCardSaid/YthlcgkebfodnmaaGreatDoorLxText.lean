/- lex.text: what a string stands for, and how many bytes it has. -/
import Derived.Test.YthlcgkebfodnmaaGreatDoorAsPlain
namespace Go.Proofs.YthlcgkebfodnmaaGreatDoor
open Go Go.Vai
noncomputable section
set_option maxRecDepth 100000
def escP (c : UInt8) : Bool := cEscB (cI c)
def escC (c : UInt8) : UInt8 := UInt8.ofNat (cEscV (cI c)).toNat
theorem esc_all : ((List.range 256).all fun n => ieq (cEscV (.ofNat n)) (.ofNat (UInt8.ofNat (cEscV (.ofNat n)).toNat).toNat)) = true := by kernel_rfl
theorem escC_av (c : UInt8) : cEscV (.ofNat c.toNat) = .ofNat (escC c).toNat := by
  have h := List.all_eq_true.1 esc_all c.toNat (List.mem_range.2 c.toNat_lt)
  rw [ieq_iff, decide_eq_true_eq] at h
  exact h
def textL : List UInt8 → Option (List UInt8 × Nat)
  | [] => none
  | c :: r => bif Nat.beq c.toNat 34 then some ([], 1) else bif Nat.beq c.toNat 92 then (match r with
    | [] => none
    | d :: q => bif escP d then (textL q).map fun p => (escC d :: p.1, p.2 + 2) else none) else bif Nat.blt c.toNat 32 || Nat.blt 126 c.toNat then none else (textL r).map fun p => (c :: p.1, p.2 + 1)
def preT (L : List UInt8) (m : Nat) (x : Option (List UInt8 × Nat)) : Option (List UInt8 × Nat) := x.map fun p => (L ++ p.1, p.2 + m)
theorem preT_one (L : List UInt8) (m : Nat) (c : UInt8) (x : Option (List UInt8 × Nat)) : preT L m (x.map fun p => (c :: p.1, p.2 + 1)) = preT (L ++ [c]) (m + 1) x := by
  cases x with
  | none => rfl
  | some p => simp [preT, Nat.add_assoc, Nat.add_comm 1 m]
theorem preT_two (L : List UInt8) (m : Nat) (c : UInt8) (x : Option (List UInt8 × Nat)) : preT L m (x.map fun p => (c :: p.1, p.2 + 2)) = preT (L ++ [c]) (m + 2) x := by
  cases x with
  | none => rfl
  | some p => simp [preT, Nat.add_assoc, Nat.add_comm 2 m]
def textR (s : List UInt8) : List UInt8 × Nat × Nat := match textL (s.drop 1) with
  | some p => (p.1, p.2 + 1, 0)
  | none => ([], 0, 12)
abbrev rowG (L : List UInt8) : AObj := .cells L.length (bT L) 5 (some 1) 0 false false
def tV : List UInt8 → AV
  | [] => .nils
  | c :: L => .sl 12 0 (c :: L).length none
def tO : List UInt8 → List AObj
  | [] => []
  | c :: L => [rowG (c :: L)]
theorem tO_robj {keep : List Nat} (L : List UInt8) : ∀ (j : Nat) o o2, (tO L)[j]? = some o → (tO L)[j]? = some o2 → RObj 0 keep o o2 := robj_all fun o ho => by
  cases L with
  | nil => cases ho
  | cons c L =>
    obtain rfl := List.mem_singleton.1 ho
    refine ⟨_, _, _, _, _, _, _, rfl, putAll_plain (fun i v h => by simp [Tr.get_nil] at h) fun v hv => ?_⟩
    obtain ⟨b, _, rfl⟩ := List.mem_map.1 hv
    exact plain_int _ _
theorem bT_snoc (L : List UInt8) (c : UInt8) : Tr.putAll (bT L) L.length [byteAV c] = bT (L ++ [c]) := by
  unfold bT
  rw [List.map_append, putAll_append, List.length_map, Nat.zero_add]; rfl
theorem tV_snoc (L : List UInt8) (c : UInt8) : tV (L ++ [c]) = .sl 12 0 (L.length + 1) none := by
  cases L with
  | nil => rfl
  | cons d L =>
    show AV.sl _ _ (d :: (L ++ [c])).length _ = _
    simp
theorem tO_snoc (L : List UInt8) (c : UInt8) : tO (L ++ [c]) = [.cells (L.length + 1) (bT (L ++ [c])) 5 (some 1) 0 false false] := by
  cases L with
  | nil => rfl
  | cons d L =>
    show [rowG (d :: (L ++ [c]))] = _
    simp [rowG]
def txS : List Nat := [0, 2, 3, 4, 5, 6]
def txV (s L : List UInt8) (j : Nat) : List AV := [.str s, .str [], .int .i64 (.ofNat 0), .int .i64 (.ofNat 0), tV L, .int .i64 (.ofNat j)]
def fn302 : AFunc := (EL1.fn 302).getD default
theorem fn302_eq : EL1.fn 302 = some fn302 := by kernel_rfl
theorem fn302_flat : flat fn302.body = (flat fn302.body).take 3 ++ .block 0 (.loop (codeAt [3, 0] fn302.body)) :: (flat fn302.body).drop 4 := by kernel_rfl
theorem fn302_res : fn302.results = [2, 3, 4].map .tmp := by kernel_rfl
theorem txA_eq (s : List UInt8) : codesKK EL1 (callKK EL1 3) ((flat fn302.body).take 3) (leafK 12 [0, 2, 3, 4, 5, 6] [0, 1, 2, 3, 4, 5, 6, 7, 8, 9, 10, 11]) (newFr fn302 [.str s]) (mkH 12 []) = lf .normal 59 ([.str s, .str [], .int .i64 (.ofNat 0), .int .i64 (.ofNat 0), .nils, .int .i64 (.ofNat 1)].map some) ([].map some) := by kernel_rfl
theorem txB_eq (s : List UInt8) (j : Nat) : codesKK EL1 (callKK EL1 3) (flat (codeAt [3, 0] fn302.body)) (leafF 12 [0, 2, 3, 4, 5, 6] [(12, [0, 1, 2, 3, 4, 5, 6, 7, 8, 9, 10, 11]), (14, [0, 1, 2, 3, 4, 5, 6, 7, 8, 9, 10, 11, 13])]) (mkFr 59 [0, 2, 3, 4, 5, 6] [.str s, .str [], .int .i64 (.ofNat 0), .int .i64 (.ofNat 0), .nils, .int .i64 (.ofNat j)]) (mkH 12 []) = bc (Nat.blt j (lenU s)) (bc (Nat.blt j (lenU s)) (bc (Nat.beq (UInt8.toNat (byteAt s j)) 34) (lf .ret 59 ([.str s, .str [], .int .i64 (up j), .int .i64 (.ofNat 0), .nils, .int .i64 (.ofNat j)].map some) ([].map some)) (bc (Nat.beq (UInt8.toNat (byteAt s j)) 92) (bc (ieq (up j) (.ofNat (lenU s))) (lf .ret 59 ([.str s, .str [], .int .i64 (.ofNat 0), .int .i64 (.ofNat 12), .nils, .int .i64 (up j)].map some) ([].map some)) (bc (ilt (up j) (.ofNat 0)) (none) (bc (Nat.blt (Int.toNat (up j)) (lenU s)) (bc (!(cEscB (.ofNat (UInt8.toNat (byteAt s (Int.toNat (up j))))))) (lf .ret 59 ([.str s, .str [], .int .i64 (.ofNat 0), .int .i64 (.ofNat 12), .nils, .int .i64 (up j)].map some) ([].map some)) (lf .normal 59 ([.str s, .str [], .int .i64 (.ofNat 0), .int .i64 (.ofNat 0), .sl 12 0 1 none, .int .i64 (wrapR .i64 (Int.add (up j) (.ofNat 1)))].map some) ([.cells 1 ((Tr.nil.putAll 0 [.int .u8 (cEscV (.ofNat (UInt8.toNat (byteAt s (Int.toNat (up j))))))])) 5 (some 1) 0 false false].map some))) (none)))) (bc (Nat.blt (UInt8.toNat (byteAt s j)) 32) (lf .ret 59 ([.str s, .str [], .int .i64 (.ofNat 0), .int .i64 (.ofNat 12), .nils, .int .i64 (.ofNat j)].map some) ([].map some)) (bc (Nat.blt 126 (UInt8.toNat (byteAt s j))) (lf .ret 59 ([.str s, .str [], .int .i64 (.ofNat 0), .int .i64 (.ofNat 12), .nils, .int .i64 (.ofNat j)].map some) ([].map some)) (lf .normal 59 ([.str s, .str [], .int .i64 (.ofNat 0), .int .i64 (.ofNat 0), .sl 12 0 1 none, .int .i64 (up j)].map some) ([.cells 1 ((Tr.nil.putAll 0 [.int .u8 (.ofNat (UInt8.toNat (byteAt s j)))])) 5 (some 1) 0 false false].map some)))))) (none)) (lf (.exit 0) 59 ([.str s, .str [], .int .i64 (.ofNat 0), .int .i64 (.ofNat 0), .nils, .int .i64 (.ofNat j)].map some) ([].map some)) := by kernel_rfl
theorem txC_eq (s : List UInt8) (j n : Nat) (T : Tr AV) : codesKK EL1 (callKK EL1 3) (flat (codeAt [3, 0] fn302.body)) (leafF 12 [0, 2, 3, 4, 5, 6] [(13, [0, 1, 2, 3, 4, 5, 6, 7, 8, 9, 10, 11, 12]), (15, [0, 1, 2, 3, 4, 5, 6, 7, 8, 9, 10, 11, 14])]) (mkFr 59 [0, 2, 3, 4, 5, 6] [.str s, .str [], .int .i64 (.ofNat 0), .int .i64 (.ofNat 0), .sl 12 0 n none, .int .i64 (.ofNat j)]) (mkH 12 [.cells n T 5 (some 1) 0 false false]) = bc (Nat.blt j (lenU s)) (bc (Nat.blt j (lenU s)) (bc (Nat.beq (UInt8.toNat (byteAt s j)) 34) (bc (hasA T 0 (Nat.mul n 1)) (bc (hasY (getA T 0 (Nat.mul n 1))) (lf .ret 59 ([.str s, .str (getY (getA T 0 (Nat.mul n 1))), .int .i64 (up j), .int .i64 (.ofNat 0), .sl 12 0 n none, .int .i64 (.ofNat j)].map some) ([.cells n T 5 (some 1) 0 false false].map some)) (none)) (none)) (bc (Nat.beq (UInt8.toNat (byteAt s j)) 92) (bc (ieq (up j) (.ofNat (lenU s))) (lf .ret 59 ([.str s, .str [], .int .i64 (.ofNat 0), .int .i64 (.ofNat 12), .sl 12 0 n none, .int .i64 (up j)].map some) ([.cells n T 5 (some 1) 0 false false].map some)) (bc (ilt (up j) (.ofNat 0)) (none) (bc (Nat.blt (Int.toNat (up j)) (lenU s)) (bc (!(cEscB (.ofNat (UInt8.toNat (byteAt s (Int.toNat (up j))))))) (lf .ret 59 ([.str s, .str [], .int .i64 (.ofNat 0), .int .i64 (.ofNat 12), .sl 12 0 n none, .int .i64 (up j)].map some) ([.cells n T 5 (some 1) 0 false false].map some)) (bc (Nat.blt (Nat.mul n 1) n) (bc (hasA T 0 (Nat.mul n 1)) (bc (Nat.beq (Nat.mul n 1) (Nat.mul n 1)) (bc (roomy (Nat.succ n) 1) (lf .normal 59 ([.str s, .str [], .int .i64 (.ofNat 0), .int .i64 (.ofNat 0), .sl 12 0 (Nat.succ n) none, .int .i64 (wrapR .i64 (Int.add (up j) (.ofNat 1)))].map some) ([.cells (Nat.succ (Nat.mul n 1)) (Tr.putAll (Tr.putAll Tr.nil 0 (getA T 0 (Nat.mul n 1))) (Nat.mul n 1) [.int .u8 (cEscV (.ofNat (UInt8.toNat (byteAt s (Int.toNat (up j))))))]) 5 (some 1) 0 false false].map some)) (none)) (none)) (none)) (bc (Nat.beq n (Nat.mul n 1)) (bc (roomy (Nat.succ n) 1) (lf .normal 59 ([.str s, .str [], .int .i64 (.ofNat 0), .int .i64 (.ofNat 0), .sl 12 0 (Nat.succ n) none, .int .i64 (wrapR .i64 (Int.add (up j) (.ofNat 1)))].map some) ([.cells (Nat.succ n) (Tr.putAll T n [.int .u8 (cEscV (.ofNat (UInt8.toNat (byteAt s (Int.toNat (up j))))))]) 5 (some 1) 0 false false].map some)) (none)) (none)))) (none)))) (bc (Nat.blt (UInt8.toNat (byteAt s j)) 32) (lf .ret 59 ([.str s, .str [], .int .i64 (.ofNat 0), .int .i64 (.ofNat 12), .sl 12 0 n none, .int .i64 (.ofNat j)].map some) ([.cells n T 5 (some 1) 0 false false].map some)) (bc (Nat.blt 126 (UInt8.toNat (byteAt s j))) (lf .ret 59 ([.str s, .str [], .int .i64 (.ofNat 0), .int .i64 (.ofNat 12), .sl 12 0 n none, .int .i64 (.ofNat j)].map some) ([.cells n T 5 (some 1) 0 false false].map some)) (bc (Nat.blt (Nat.mul n 1) n) (bc (hasA T 0 (Nat.mul n 1)) (bc (Nat.beq (Nat.mul n 1) (Nat.mul n 1)) (bc (roomy (Nat.succ n) 1) (lf .normal 59 ([.str s, .str [], .int .i64 (.ofNat 0), .int .i64 (.ofNat 0), .sl 12 0 (Nat.succ n) none, .int .i64 (up j)].map some) ([.cells (Nat.succ (Nat.mul n 1)) (Tr.putAll (Tr.putAll Tr.nil 0 (getA T 0 (Nat.mul n 1))) (Nat.mul n 1) [.int .u8 (.ofNat (UInt8.toNat (byteAt s j)))]) 5 (some 1) 0 false false].map some)) (none)) (none)) (none)) (bc (Nat.beq n (Nat.mul n 1)) (bc (roomy (Nat.succ n) 1) (lf .normal 59 ([.str s, .str [], .int .i64 (.ofNat 0), .int .i64 (.ofNat 0), .sl 12 0 (Nat.succ n) none, .int .i64 (up j)].map some) ([.cells (Nat.succ n) (Tr.putAll T n [.int .u8 (.ofNat (UInt8.toNat (byteAt s j)))]) 5 (some 1) 0 false false].map some)) (none)) (none))))))) (none)) (lf (.exit 0) 59 ([.str s, .str [], .int .i64 (.ofNat 0), .int .i64 (.ofNat 0), .sl 12 0 n none, .int .i64 (.ofNat j)].map some) ([.cells n T 5 (some 1) 0 false false].map some)) := by kernel_rfl
theorem txD_eq (s : List UInt8) (j : Nat) : codesKK EL1 (callKK EL1 3) ((flat fn302.body).drop 4) (leafK 12 [2, 3, 4] [0, 1, 2, 3, 4, 5, 6, 7, 8, 9, 10, 11]) (mkFr 59 [0, 2, 3, 4, 5, 6] [.str s, .str [], .int .i64 (.ofNat 0), .int .i64 (.ofNat 0), .nils, .int .i64 (.ofNat j)]) (mkH 12 []) = lf .ret 59 ([.str [], .int .i64 (.ofNat 0), .int .i64 (.ofNat 12)].map some) ([].map some) := by kernel_rfl
theorem txE_eq (s : List UInt8) (j n : Nat) (T : Tr AV) : codesKK EL1 (callKK EL1 3) ((flat fn302.body).drop 4) (leafK 12 [2, 3, 4] [0, 1, 2, 3, 4, 5, 6, 7, 8, 9, 10, 11]) (mkFr 59 [0, 2, 3, 4, 5, 6] [.str s, .str [], .int .i64 (.ofNat 0), .int .i64 (.ofNat 0), .sl 12 0 n none, .int .i64 (.ofNat j)]) (mkH 12 [.cells n T 5 (some 1) 0 false false]) = lf .ret 59 ([.str [], .int .i64 (.ofNat 0), .int .i64 (.ofNat 12)].map some) ([].map some) := by kernel_rfl
def txK (L : List UInt8) : KC Leaf := leafF 12 txS (match L with | [] => [(12, [0, 1, 2, 3, 4, 5, 6, 7, 8, 9, 10, 11]), (14, [0, 1, 2, 3, 4, 5, 6, 7, 8, 9, 10, 11, 13])] | _ :: _ => [(13, [0, 1, 2, 3, 4, 5, 6, 7, 8, 9, 10, 11, 12]), (15, [0, 1, 2, 3, 4, 5, 6, 7, 8, 9, 10, 11, 14])])
def txR (s L : List UInt8) (j : Nat) : Option Leaf := codesKK EL1 (callKK EL1 3) (flat (codeAt [3, 0] fn302.body)) (txK L) (mkFr 59 txS (txV s L j)) (mkH 12 (tO L))
theorem up2 {j : Nat} (h : j < 4294967296) : wrapR .i64 (Int.add (.ofNat (j + 1)) (.ofNat 1)) = .ofNat (j + 2) := wrapR_small (k := j + 2) (by omega)
section
variable {s L : List UInt8} {j : Nat} (hs : s.length < 4294967296) (hL : L.length < 4294967296)
theorem tx_out (h : ¬ j < s.length) : txR s L j = lf (.exit 0) 59 ((txV s L j).map some) ((tO L).map some) := by
  have h0 := blt_f (show ¬ j < lenU s from h)
  cases L with
  | nil => exact (txB_eq s j).trans (by rw [h0, bc_false]; rfl)
  | cons c L => exact (txC_eq s j _ _).trans (by rw [h0, bc_false]; rfl)
include hs hL
theorem tx_quote (h : j < s.length) (h1 : Nat.beq (byteAt s j).toNat 34 = true) : txR s L j = lf .ret 59 ([.str s, .str L, .int .i64 (.ofNat (j + 1)), .int .i64 (.ofNat 0), tV L, .int .i64 (.ofNat j)].map some) ((tO L).map some) := by
  have h0 := blt_t (show j < lenU s from h)
  cases L with
  | nil => exact (txB_eq s j).trans (by rw [h0, h1, up_eq (by omega)]; rfl)
  | cons c L =>
    have hb := rowB_bT (L := c :: L) (by omega)
    have e0 := prf_hasY hb (a := (c :: L).length) (Nat.le_refl _)
    have e1 := prf_has hb (a := (c :: L).length) (Nat.le_refl _)
    have e2 := prf_get hb (a := (c :: L).length) (Nat.le_refl _)
    rw [List.take_length] at e2
    exact (txC_eq s j _ _).trans (by rw [h0, h1, e1, e0, e2, up_eq (by omega)]; rfl)
omit hL hs in
theorem tx_bad0 (h : j < s.length) (h1 : Nat.beq (byteAt s j).toNat 34 = false) (h2 : Nat.beq (byteAt s j).toNat 92 = false) (h3 : (Nat.blt (byteAt s j).toNat 32 || Nat.blt 126 (byteAt s j).toNat) = true) : ∃ i : Nat, txR s L j = lf .ret 59 ([.str s, .str [], .int .i64 (.ofNat 0), .int .i64 (.ofNat 12), tV L, .int .i64 (.ofNat i)].map some) ((tO L).map some) := by
  have h0 := blt_t (show j < lenU s from h)
  refine ⟨j, ?_⟩
  cases L with
  | nil =>
    refine (txB_eq s j).trans ?_
    rw [h0, h1, h2]
    cases h4 : Nat.blt (byteAt s j).toNat 32 with
    | true => rfl
    | false => rw [h4, Bool.false_or] at h3; rw [h3]; rfl
  | cons c L =>
    refine (txC_eq s j _ _).trans ?_
    rw [h0, h1, h2]
    cases h4 : Nat.blt (byteAt s j).toNat 32 with
    | true => rfl
    | false => rw [h4, Bool.false_or] at h3; rw [h3]; rfl
omit hL in
theorem tx_bad1 (h : j < s.length) (h1 : Nat.beq (byteAt s j).toNat 34 = false) (h2 : Nat.beq (byteAt s j).toNat 92 = true) (h3 : j + 1 < s.length → escP (byteAt s (j + 1)) = false) : ∃ i : Nat, txR s L j = lf .ret 59 ([.str s, .str [], .int .i64 (.ofNat 0), .int .i64 (.ofNat 12), tV L, .int .i64 (.ofNat i)].map some) ((tO L).map some) := by
  have h0 := blt_t (show j < lenU s from h)
  have hu := up_eq (k := j) (by omega)
  refine ⟨j + 1, ?_⟩
  have key : ∀ (x y z : Option Leaf), bc (ieq (.ofNat (j + 1)) (.ofNat (lenU s))) x (bc (ilt (.ofNat (j + 1)) (.ofNat 0)) y (bc (Nat.blt (Int.toNat (.ofNat (j + 1))) (lenU s)) (bc (!(cEscB (.ofNat (UInt8.toNat (byteAt s (Int.toNat (.ofNat (j + 1)))))))) x z) none)) = x := fun x y z => by
    by_cases e : j + 1 = s.length
    · rw [show ieq (.ofNat (j + 1)) (.ofNat (lenU s)) = true from beq_t e]; rfl
    · rw [show ieq (.ofNat (j + 1)) (.ofNat (lenU s)) = false from beq_f e, show Nat.blt (Int.toNat (.ofNat (j + 1))) (lenU s) = true from blt_t (show j + 1 < lenU s from by have : lenU s = s.length := rfl; omega), show cEscB (.ofNat (UInt8.toNat (byteAt s (Int.toNat (.ofNat (j + 1)))))) = false from h3 (by omega)]; rfl
  cases L with
  | nil =>
    refine (txB_eq s j).trans ?_
    rw [h0, h1, h2, hu]
    exact key _ _ _
  | cons c L =>
    refine (txC_eq s j _ _).trans ?_
    rw [h0, h1, h2, hu]
    exact key _ _ _
theorem tx_esc (h : j + 1 < s.length) (h1 : Nat.beq (byteAt s j).toNat 34 = false) (h2 : Nat.beq (byteAt s j).toNat 92 = true) (h3 : escP (byteAt s (j + 1)) = true) : txR s L j = lf .normal 59 ((txV s (L ++ [escC (byteAt s (j + 1))]) (j + 2)).map some) ((tO (L ++ [escC (byteAt s (j + 1))])).map some) := by
  have h0 := blt_t (show j < lenU s from by have : lenU s = s.length := rfl; omega)
  have hu := up_eq (k := j) (by omega)
  have e0 : ieq (.ofNat (j + 1)) (.ofNat (lenU s)) = false := beq_f (show ¬ j + 1 = lenU s from by have : lenU s = s.length := rfl; omega)
  have e1 : Nat.blt (Int.toNat (.ofNat (j + 1))) (lenU s) = true := blt_t (show j + 1 < lenU s from h)
  have e2 : cEscB (.ofNat (UInt8.toNat (byteAt s (Int.toNat (.ofNat (j + 1)))))) = true := h3
  have e3 : AV.int .u8 (cEscV (.ofNat (UInt8.toNat (byteAt s (Int.toNat (.ofNat (j + 1))))))) = byteAV (escC (byteAt s (j + 1))) := by unfold byteAV; exact congrArg _ (escC_av _)
  have e4 := up2 (j := j) (by omega)
  unfold txV
  rw [tV_snoc, tO_snoc]
  cases L with
  | nil => exact (txB_eq s j).trans (by rw [h0, h1, h2, hu, e0, e1, e2, e3, e4]; rfl)
  | cons c L =>
    have e5 : Nat.blt (Nat.mul (c :: L).length 1) (c :: L).length = false := blt_f (by rw [show Nat.mul (c :: L).length 1 = (c :: L).length from Nat.mul_one _]; omega)
    have e6 : Nat.beq (c :: L).length (Nat.mul (c :: L).length 1) = true := beq_t (Nat.mul_one _).symm
    have e7 : roomy (Nat.succ (c :: L).length) 1 = true := by
      unfold roomy
      rw [Bool.or_eq_true, Nat.ble_eq]; left; simp only [List.length_cons] at hL ⊢; omega
    exact (txC_eq s j _ _).trans (by rw [h0, h1, h2, hu, e0, e1, e2, e3, e4, e5, e6, e7, bT_snoc]; rfl)
theorem tx_one (h : j < s.length) (h1 : Nat.beq (byteAt s j).toNat 34 = false) (h2 : Nat.beq (byteAt s j).toNat 92 = false) (h3 : (Nat.blt (byteAt s j).toNat 32 || Nat.blt 126 (byteAt s j).toNat) = false) : txR s L j = lf .normal 59 ((txV s (L ++ [byteAt s j]) (j + 1)).map some) ((tO (L ++ [byteAt s j])).map some) := by
  have h0 := blt_t (show j < lenU s from h)
  have hu := up_eq (k := j) (by omega)
  rw [Bool.or_eq_false_iff] at h3
  have e3 : AV.int .u8 (.ofNat (UInt8.toNat (byteAt s j))) = byteAV (byteAt s j) := rfl
  unfold txV
  rw [tV_snoc, tO_snoc]
  cases L with
  | nil => exact (txB_eq s j).trans (by rw [h0, h1, h2, hu, h3.1, h3.2, e3]; rfl)
  | cons c L =>
    have e5 : Nat.blt (Nat.mul (c :: L).length 1) (c :: L).length = false := blt_f (by rw [show Nat.mul (c :: L).length 1 = (c :: L).length from Nat.mul_one _]; omega)
    have e6 : Nat.beq (c :: L).length (Nat.mul (c :: L).length 1) = true := beq_t (Nat.mul_one _).symm
    have e7 : roomy (Nat.succ (c :: L).length) 1 = true := by
      unfold roomy
      rw [Bool.or_eq_true, Nat.ble_eq]; left; simp only [List.length_cons] at hL ⊢; omega
    exact (txC_eq s j _ _).trans (by rw [h0, h1, h2, hu, h3.1, h3.2, e3, e5, e6, e7, bT_snoc]; rfl)
end
theorem text_at {s : List UInt8} {j : Nat} (h : j < s.length) : textL (s.drop j) = bif Nat.beq (byteAt s j).toNat 34 then some ([], 1) else bif Nat.beq (byteAt s j).toNat 92 then (match s.drop (j + 1) with
    | [] => none
    | d :: q => bif escP d then (textL q).map fun p => (escC d :: p.1, p.2 + 2) else none) else bif Nat.blt (byteAt s j).toNat 32 || Nat.blt 126 (byteAt s j).toNat then none else (textL (s.drop (j + 1))).map fun p => (byteAt s j :: p.1, p.2 + 1) := by
  rw [drop_at h, textL.eq_def]
theorem kfB_ok : kfOk 12 [(12, [0, 1, 2, 3, 4, 5, 6, 7, 8, 9, 10, 11]), (14, [0, 1, 2, 3, 4, 5, 6, 7, 8, 9, 10, 11, 13])] = true := by decide
theorem kfC_ok : kfOk 12 [(13, [0, 1, 2, 3, 4, 5, 6, 7, 8, 9, 10, 11, 12]), (15, [0, 1, 2, 3, 4, 5, 6, 7, 8, 9, 10, 11, 14])] = true := by decide
section
variable {P : Program} {I : List MEnt → AHeap → World → Prop} {ro : Option Nat}
theorem tx_leaf (hE : EnvOk EL1 P I) {s L L2 : List UInt8} {j : Nat} {e : AExit} {vs : List AV} {Q : TQ} (h : txR s L j = lf e 59 (vs.map some) ((tO L2).map some)) (hm : ∀ fr' H' keep, Ren 12 keep fr' H' (mkFr 59 txS vs) (mkH 12 (tO L2)) → Q e fr' H') : TriL EL1 P I ro (flat (codeAt [3, 0] fn302.body)) (mkFr 59 txS (txV s L j)) (mkH 12 (tO L)) Q := by
  unfold txR txK at h
  cases L with
  | nil => exact TriL.leafFC hE (callKK_ok EL1 3) h kfB_ok rfl (fun keep _ => tO_robj L2) hm
  | cons c L => exact TriL.leafFC hE (callKK_ok EL1 3) h kfC_ok rfl (fun keep _ => tO_robj L2) hm
def txQ (s : List UInt8) : TQ := fun e fr H => (e = .exit 0 ∧ textL (s.drop 1) = none ∧ ∃ L j keep, Ren 12 keep fr H (mkFr 59 txS (txV s L j)) (mkH 12 (tO L))) ∨ (e = .ret ∧ fr.df = [] ∧ resA EL1 fr.t H fn302.results = some [.str (textR s).1, .int .i64 (.ofNat (textR s).2.1), .int .i64 (.ofNat (textR s).2.2)])
theorem tx_loop (hE : EnvOk EL1 P I) (hI : Carried I) {s : List UInt8} (h1 : 1 ≤ s.length) (hs : s.length < 4294967296) : Tri EL1 P I ro (.loop (codeAt [3, 0] fn302.body)) (mkFr 59 txS (txV s [] 1)) (mkH 12 (tO [])) (txQ s) := by
  refine Tri.loop (X := List UInt8 × Nat) (fr := fun x => mkFr 59 txS (txV s x.1 x.2)) (H := fun x => mkH 12 (tO x.1)) (Inv := fun x => x.1.length < x.2 ∧ x.2 ≤ s.length ∧ textL (s.drop 1) = preT x.1 (x.2 - 1) (textL (s.drop x.2))) (fun x => s.length - x.2) hI ?_ ([], 1) ⟨by decide, h1, ?_⟩
  · rintro ⟨L, j⟩ ⟨i1, i2, i3⟩
    simp only at i1 i2 i3
    have hL : L.length < 4294967296 := by omega
    refine tri_of_triL _ ?_
    have bad : ∀ {i : Nat}, textL (s.drop 1) = none → txR s L j = lf .ret 59 ([.str s, .str [], .int .i64 (.ofNat 0), .int .i64 (.ofNat 12), tV L, .int .i64 (.ofNat i)].map some) ((tO L).map some) → TriL EL1 P I ro (flat (codeAt [3, 0] fn302.body)) (mkFr 59 txS (txV s L j)) (mkH 12 (tO L)) fun e fr' H' => (e = .normal ∧ ∃ (x' : List UInt8 × Nat) (keep : List Nat), (x'.1.length < x'.2 ∧ x'.2 ≤ s.length ∧ textL (s.drop 1) = preT x'.1 (x'.2 - 1) (textL (s.drop x'.2))) ∧ s.length - x'.2 < s.length - j ∧ Ren 12 keep fr' H' (mkFr 59 txS (txV s x'.1 x'.2)) (mkH 12 (tO x'.1))) ∨ (e ≠ .normal ∧ txQ s e fr' H') := fun {i} hn e => tx_leaf hE e fun fr' H' keep r => .inr ⟨(by intro h; cases h), .inr ⟨rfl, r.df.1, by
      rw [fn302_res]
      refine ren_res r (l := [.str (textR s).1, .int .i64 (.ofNat (textR s).2.1), .int .i64 (.ofNat (textR s).2.2)]) ?_ rfl
      unfold textR; rw [hn]; rfl⟩⟩
    by_cases h : j < s.length
    · have ht := text_at h
      cases h2 : Nat.beq (byteAt s j).toNat 34 with
      | true =>
        rw [h2] at ht
        simp only [cond_true] at ht
        rw [ht] at i3
        refine tx_leaf hE (tx_quote hs hL h h2) fun fr' H' keep r => .inr ⟨(by intro h; cases h), .inr ⟨rfl, r.df.1, ?_⟩⟩
        rw [fn302_res]
        refine ren_res r ?_ rfl
        unfold textR; rw [i3]
        simp only [preT, Option.map_some, List.append_nil, List.map_cons, List.map_nil]
        rw [show 1 + (j - 1) + 1 = j + 1 by omega]; rfl
      | false =>
        rw [h2] at ht
        simp only [cond_false] at ht
        cases h3 : Nat.beq (byteAt s j).toNat 92 with
        | true =>
          rw [h3] at ht
          simp only [cond_true] at ht
          by_cases h4 : j + 1 < s.length
          · rw [drop_at h4] at ht
            simp only at ht
            cases h5 : escP (byteAt s (j + 1)) with
            | true =>
              rw [h5] at ht
              simp only [cond_true] at ht
              exact tx_leaf hE (tx_esc hs hL h4 h2 h3 h5) fun fr' H' keep r => .inl ⟨rfl, (L ++ [escC (byteAt s (j + 1))], j + 2), keep, ⟨by simp only [List.length_append, List.length_cons, List.length_nil]; omega, by simp only; omega, by rw [i3, ht, preT_two]; simp only; rw [show j - 1 + 2 = j + 2 - 1 by omega]⟩, by simp only; omega, r⟩
            | false =>
              rw [h5] at ht
              simp only [cond_false] at ht
              obtain ⟨i, e⟩ := tx_bad1 (L := L) hs h h2 h3 fun _ => h5
              exact bad (by rw [i3, ht]; rfl) e
          · rw [show s.drop (j + 1) = [] from List.drop_eq_nil_of_le (by omega)] at ht
            obtain ⟨i, e⟩ := tx_bad1 (L := L) hs h h2 h3 fun h => absurd h h4
            exact bad (by rw [i3, ht]; rfl) e
        | false =>
          rw [h3] at ht
          simp only [cond_false] at ht
          cases h4 : (Nat.blt (byteAt s j).toNat 32 || Nat.blt 126 (byteAt s j).toNat) with
          | true =>
            rw [h4] at ht
            simp only [cond_true] at ht
            obtain ⟨i, e⟩ := tx_bad0 (L := L) h h2 h3 h4
            exact bad (by rw [i3, ht]; rfl) e
          | false =>
            rw [h4] at ht
            simp only [cond_false] at ht
            exact tx_leaf hE (tx_one hs hL h h2 h3 h4) fun fr' H' keep r => .inl ⟨rfl, (L ++ [byteAt s j], j + 1), keep, ⟨by simp only [List.length_append, List.length_cons, List.length_nil]; omega, h, by rw [i3, ht, preT_one]; simp only; rw [show j - 1 + 1 = j + 1 - 1 by omega]⟩, by simp only; omega, r⟩
    · refine tx_leaf hE (tx_out (L := L) h) fun fr' H' keep r => .inr ⟨(by intro h; cases h), .inl ⟨rfl, ?_, L, j, keep, r⟩⟩
      rw [i3, show s.drop j = [] from List.drop_eq_nil_of_le (by omega)]; rfl
  · show _ = preT [] 0 _
    cases textL (s.drop 1) <;> simp [preT]
theorem tx_tri (hE : EnvOk EL1 P I) (hI : Carried I) {s : List UInt8} (h1 : 1 ≤ s.length) (hs : s.length < 4294967296) : Tri EL1 P I ro fn302.body (newFr fn302 [.str s]) (mkH 12 []) fun e fr H => (e = .normal ∨ e = .ret) ∧ fr.df = [] ∧ ∃ l, resA EL1 fr.t H fn302.results = some l ∧ weak2 (resV l) = .tup [.str (textR s).1, .int .i64 (.ofNat (textR s).2.1), .int .i64 (.ofNat (textR s).2.2)] := by
  refine tri_of_triL _ ?_
  rw [fn302_flat]
  refine TriL.leafX hE hI (txA_eq s) (by decide) rfl rfl rows0 (.inl ⟨rfl, ?_⟩)
  refine Tri.mono (Tri.block (Q := fun e fr H => (e = .normal ∧ textL (s.drop 1) = none ∧ ∃ L j keep, Ren 12 keep fr H (mkFr 59 txS (txV s L j)) (mkH 12 (tO L))) ∨ (e = .ret ∧ fr.df = [] ∧ resA EL1 fr.t H fn302.results = some [.str (textR s).1, .int .i64 (.ofNat (textR s).2.1), .int .i64 (.ofNat (textR s).2.2)])) ((tx_loop hE hI h1 hs).mono ?_)) ?_
  · rintro e fr H (⟨rfl, h⟩ | ⟨rfl, h⟩)
    · exact .inl ⟨rfl, h⟩
    · exact .inr ⟨rfl, h⟩
  · rintro e fr H (⟨rfl, hn, L, j, keep, r⟩ | ⟨rfl, h2, h3⟩)
    · refine .inl ⟨rfl, TriL.ren hI r ?_⟩
      have fin : ∀ fr' H', Ren 12 [0, 1, 2, 3, 4, 5, 6, 7, 8, 9, 10, 11] fr' H' (mkFr 59 [2, 3, 4] [.str [], .int .i64 (.ofNat 0), .int .i64 (.ofNat 12)]) (mkH 12 []) → (AExit.ret = .normal ∨ AExit.ret = .ret) ∧ fr'.df = [] ∧ ∃ l, resA EL1 fr'.t H' fn302.results = some l ∧ weak2 (resV l) = .tup [.str (textR s).1, .int .i64 (.ofNat (textR s).2.1), .int .i64 (.ofNat (textR s).2.2)] := fun fr' H' r => ⟨.inr rfl, r.df.1, _, by rw [fn302_res]; exact ren_res r (l := [.str [], .int .i64 (.ofNat 0), .int .i64 (.ofNat 12)]) rfl rfl, by unfold textR; rw [hn]; rfl⟩
      cases L with
      | nil => exact TriL.leafE hE (txD_eq s j) (by decide) rfl rfl rows0 fin
      | cons c L => exact TriL.leafE hE (txE_eq s j _ _) (by decide) rfl rfl rows0 fin
    · exact .inr ⟨(by intro h; cases h), .inr rfl, h2, _, h3, rfl⟩
end
def textFv : Nat → List AV → Option AV := fun g args => match args with
  | [.str s] => bif Nat.beq g 302 && (Nat.ble 1 (lenU s) && Nat.blt (lenU s) 4294967296) then some (.tup [.str (textR s).1, .int .i64 (.ofNat (textR s).2.1), .int .i64 (.ofNat (textR s).2.2)]) else none
  | _ => none
theorem text_ok : SmOk Tryz.prog gl (plainSm textFv) := tri_plain fun g args v h => by
  unfold textFv at h
  split at h
  case h_2 => cases h
  rename_i s
  rw [Bool.cond_eq_ite] at h
  split at h
  case isFalse => cases h
  rename_i hb
  simp only [Bool.and_eq_true, Nat.beq_eq, Nat.blt_eq, Nat.ble_eq] at hb
  obtain ⟨rfl, h1, hs⟩ := hb
  simp only [Option.some.injEq] at h
  subst h
  exact ⟨EL1, fn302, el1_ok, gl_ok, fn302_eq, plain_list rfl, plain_free rfl, fun w hw => tx_tri (el1_ok w hw) (kept_carried hw) h1 hs⟩
end
end Go.Proofs.YthlcgkebfodnmaaGreatDoor
