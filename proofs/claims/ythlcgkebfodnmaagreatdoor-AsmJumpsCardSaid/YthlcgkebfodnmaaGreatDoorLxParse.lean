/- internal/strconv.ParseUint on digits of base 10 or 16. -/
import Derived.Test.YthlcgkebfodnmaaGreatDoorLxText
namespace Go.Proofs.YthlcgkebfodnmaaGreatDoor
open Go Go.Vai
noncomputable section
set_option maxRecDepth 100000
def decN (n : Nat) : Bool := Nat.ble 48 n && Nat.ble n 57
def dv (n : Nat) : Nat := bif decN n then n - 48 else bif Nat.ble 97 n then n - 87 else n - 55
theorem dig_all : ((List.range 256).all fun n => !(cDigB (.ofNat n)) || decN n) = true := by kernel_rfl
def letN (n : Nat) : Bool := !(ieq (.ofNat n) (.ofNat 95)) && (!(ilt (.ofNat n) (.ofNat 48)) && (ilt (.ofNat 57) (.ofNat n) && (!(ilt (cLowV (.ofNat n)) (.ofNat 97)) && (!(ilt (.ofNat 122) (cLowV (.ofNat n))) && (ieq (wrapR .u8 (Int.add (wrapR .u8 (Int.sub (cLowV (.ofNat n)) (.ofNat 97))) (.ofNat 10))) (.ofNat (dv n)) && Nat.blt (dv n) 16)))))
theorem hex_all : ((List.range 256).all fun n => !(cHexB (.ofNat n)) || (decN n || letN n)) = true := by kernel_rfl
theorem dig_dec {c : UInt8} (h : digP c = true) : decN c.toNat = true := by
  have := List.all_eq_true.1 dig_all c.toNat (List.mem_range.2 c.toNat_lt)
  unfold digP cI at h
  rw [h] at this
  simpa using this
theorem hex_dec {c : UInt8} (h : hexP c = true) : decN c.toNat = true ∨ letN c.toNat = true := by
  have := List.all_eq_true.1 hex_all c.toNat (List.mem_range.2 c.toNat_lt)
  unfold hexP cI at h
  rw [h] at this
  simpa using this
def valD (b : Nat) (ds : List UInt8) : Nat := ds.foldl (fun m c => m * b + dv c.toNat) 0
theorem valD_at {b j : Nat} {s : List UInt8} (h : j < s.length) : valD b (s.take (j + 1)) = valD b (s.take j) * b + dv (byteAt s j).toNat := by
  unfold valD
  rw [List.take_add_one, List.getElem?_eq_getElem h, byteAt_eq h, List.foldl_append]
  rfl
theorem fold_le {b : Nat} (hb : 1 ≤ b) : ∀ (l : List UInt8) (m : Nat), m ≤ l.foldl (fun m c => m * b + dv c.toNat) m
  | [], m => Nat.le_refl _
  | c :: l, m => Nat.le_trans (Nat.le_trans (Nat.le_mul_of_pos_right m hb) (Nat.le_add_right _ _)) (fold_le hb l (m * b + dv c.toNat))
theorem valD_le {b j : Nat} (hb : 1 ≤ b) (s : List UInt8) : valD b (s.take j) ≤ valD b s := by
  have h := fold_le hb (s.drop j) (valD b (s.take j))
  unfold valD at h ⊢
  rwa [← List.foldl_append, List.take_append_drop] at h
theorem u64s {n : Nat} (h : n < 18446744073709551616) : wrapR .u64 (.ofNat n) = .ofNat n := by
  rw [wrapB_u64]
  show ((n : Int)) % 18446744073709551616 = n
  omega
theorem u64w {n : Nat} (h : 18446744073709551616 ≤ n) (h2 : n < 36893488147419103232) : wrapR .u64 (.ofNat n) = .ofNat (n - 18446744073709551616) := by
  rw [wrapB_u64]
  show ((n : Int)) % 18446744073709551616 = ((n - 18446744073709551616 : Nat) : Int)
  omega
theorem dec_test {n : Nat} (h : decN n = true) : ieq (.ofNat n) (.ofNat 95) = false ∧ ilt (.ofNat n) (.ofNat 48) = false ∧ ilt (.ofNat 57) (.ofNat n) = false ∧ wrapR .u8 (Int.sub (.ofNat n) (.ofNat 48)) = .ofNat (dv n) ∧ dv n < 10 := by
  have h0 := h
  unfold decN at h
  rw [Bool.and_eq_true, Nat.ble_eq, Nat.ble_eq] at h
  have hd : dv n = n - 48 := by unfold dv; rw [h0]; rfl
  refine ⟨beq_f (show ¬ n = 95 by omega), blt_f (show ¬ n < 48 by omega), blt_f (show ¬ 57 < n by omega), ?_, by omega⟩
  rw [hd, wrapB_u8]
  show ((n : Int) - 48) % 256 = ((n - 48 : Nat) : Int)
  omega
theorem let_test {n : Nat} (h : letN n = true) : ieq (.ofNat n) (.ofNat 95) = false ∧ ilt (.ofNat n) (.ofNat 48) = false ∧ ilt (.ofNat 57) (.ofNat n) = true ∧ ilt (cLowV (.ofNat n)) (.ofNat 97) = false ∧ ilt (.ofNat 122) (cLowV (.ofNat n)) = false ∧ wrapR .u8 (Int.add (wrapR .u8 (Int.sub (cLowV (.ofNat n)) (.ofNat 97))) (.ofNat 10)) = .ofNat (dv n) ∧ dv n < 16 := by
  unfold letN at h
  simp only [Bool.and_eq_true, Bool.not_eq_true', Nat.blt_eq] at h
  obtain ⟨h1, h2, h3, h4, h5, h6, h7⟩ := h
  rw [ieq_iff, decide_eq_true_eq] at h6
  exact ⟨h1, h2, h3, h4, h5, h6, h7⟩
def puS : List Nat := [1, 6, 7, 8, 9, 10, 11, 12, 13, 99, 100, 101]
abbrev rowP (s : List UInt8) : AObj := .cells (lenU s) (bT s) 5 (some 1) 0 false true
theorem rowP_robj {keep : List Nat} (s : List UInt8) : ∀ (j : Nat) o o2, [rowP s][j]? = some o → [rowP s][j]? = some o2 → RObj 0 keep o o2 := robj_all fun o ho => by
  obtain rfl := List.mem_singleton.1 ho
  refine ⟨_, _, _, _, _, _, _, rfl, putAll_plain (fun i v h => by simp [Tr.get_nil] at h) fun v hv => ?_⟩
  obtain ⟨b, _, rfl⟩ := List.mem_map.1 hv
  exact plain_int _ _
def puV (b cut : Nat) (s : List UInt8) (m j : Nat) : List AV := [.int .i64 (.ofNat b), .int .u64 (.ofNat 0), .nili, .bool false, .str s, .int .u64 (.ofNat cut), .int .u64 (.ofNat 18446744073709551615), .bool false, .int .u64 (.ofNat m), .sl 12 0 (lenU s) none, .int .i64 (.ofNat (lenU s)), .int .i64 (.ofNat j)]
def puW (b cut : Nat) (s : List UInt8) (m j : Nat) : List AV := [.int .i64 (.ofNat b), .int .u64 (.ofNat 18446744073709551615), .iface 455 (.int .i64 (.ofNat 1)), .bool false, .str s, .int .u64 (.ofNat cut), .int .u64 (.ofNat 18446744073709551615), .bool false, .int .u64 (.ofNat m), .sl 12 0 (lenU s) none, .int .i64 (.ofNat (lenU s)), .int .i64 (.ofNat j)]
def fn325 : AFunc := (EL1.fn 325).getD default
theorem fn325_eq : EL1.fn 325 = some fn325 := by kernel_rfl
theorem fn325_flat : flat fn325.body = (flat fn325.body).take 15 ++ .block 3 (.loop (codeAt [15, 0] fn325.body)) :: (flat fn325.body).drop 16 := by kernel_rfl
theorem fn325_res : fn325.results = [6, 7].map .tmp := by kernel_rfl
theorem pu_get {s : List UInt8} {j : Nat} (hs : s.length < 4294967296) (h : j < s.length) : Tr.get (bT s) (at1 j) = some (byteAV (byteAt s j)) := by
  rw [at1_eq]
  exact rowB_bT (by omega) j _ (by rw [byteAt_eq h, List.getElem?_eq_getElem h])
theorem roomy_lt {n : Nat} (h : n < 4294967296) : roomy n 1 = true := by
  unfold roomy
  rw [Bool.or_eq_true, Nat.ble_eq]; left; omega
theorem rows0F {keep : List Nat} : keepOk 12 keep = true → ∀ (j : Nat) (o o2 : AObj), ([] : List AObj)[j]? = some o → ([] : List AObj)[j]? = some o2 → RObj 0 keep o o2 := fun _ => rows0
theorem pu10A_eq (s : List UInt8) : codesP EL1 (callP EL1 3) ((flat fn325.body).take 15) (leafP 12 [1, 6, 7, 8, 9, 10, 11, 12, 13, 99, 100, 101] [(12, [0, 1, 2, 3, 4, 5, 6, 7, 8, 9, 10, 11]), (13, [0, 1, 2, 3, 4, 5, 6, 7, 8, 9, 10, 11, 12])]) (newFr fn325 [.str s, .int .i64 (.ofNat 10), .int .i64 (.ofNat 64)]) (mkH 12 []) (pO 9 270) = bc (leq s []) (none) (bc (roomy (lenU s) 1) (lf .normal 172 ([.int .i64 (.ofNat 10), .int .u64 (.ofNat 0), .nili, .bool false, .str s, .int .u64 (.ofNat 1844674407370955162), .int .u64 (.ofNat 18446744073709551615), .bool false, .int .u64 (.ofNat 0), .sl 12 0 (lenU s) none, .int .i64 (.ofNat (lenU s)), .int .i64 (.ofNat 0)].map some) ([.cells (lenU s) (Tr.putAll Tr.nil 0 (List.map byteAV s)) 5 (some 1) 0 false true].map some)) (none)) := by kernel_rfl
theorem pu10dn_eq (s : List UInt8) (l m j : Nat) (T : Tr AV) : codesP EL1 (callP EL1 3) (flat (codeAt [15, 0] fn325.body)) (leafP 12 [1, 6, 7, 8, 9, 10, 11, 12, 13, 99, 100, 101] [(13, [0, 1, 2, 3, 4, 5, 6, 7, 8, 9, 10, 11, 12])]) (mkFr 172 [1, 6, 7, 8, 9, 10, 11, 12, 13, 99, 100, 101] [.int .i64 (.ofNat 10), .int .u64 (.ofNat 0), .nili, .bool false, .str s, .int .u64 (.ofNat 1844674407370955162), .int .u64 (.ofNat 18446744073709551615), .bool false, .int .u64 (.ofNat m), .sl 12 0 l none, .int .i64 (.ofNat l), .int .i64 (.ofNat j)]) (mkH 12 [.cells l T 5 (some 1) 0 false true]) (pO 12 57) = bc (Nat.blt j l) (bc (Nat.blt j l) (bc (isI .u8 (Tr.get T (at1 j))) (bc (ieq (asI (Tr.get T (at1 j))) (.ofNat 95)) (none) (bc (!(ilt (asI (Tr.get T (at1 j))) (.ofNat 48))) (bc (!(ilt (.ofNat 57) (asI (Tr.get T (at1 j))))) (bc (!(ilt (wrapR .u8 (Int.sub (asI (Tr.get T (at1 j))) (.ofNat 48))) (.ofNat 10))) (none) (bc (!(Nat.blt m 1844674407370955162)) (none) (bc (ilt (wrapR .u64 (Int.add (wrapR .u64 (.ofNat (Nat.mul m 10))) (wrapR .u64 (wrapR .u8 (Int.sub (asI (Tr.get T (at1 j))) (.ofNat 48)))))) (wrapR .u64 (.ofNat (Nat.mul m 10)))) (none) (bc (ilt (.ofNat 18446744073709551615) (wrapR .u64 (Int.add (wrapR .u64 (.ofNat (Nat.mul m 10))) (wrapR .u64 (wrapR .u8 (Int.sub (asI (Tr.get T (at1 j))) (.ofNat 48))))))) (none) (lf .normal 172 ([.int .i64 (.ofNat 10), .int .u64 (.ofNat 0), .nili, .bool false, .str s, .int .u64 (.ofNat 1844674407370955162), .int .u64 (.ofNat 18446744073709551615), .bool false, .int .u64 (wrapR .u64 (Int.add (wrapR .u64 (.ofNat (Nat.mul m 10))) (wrapR .u64 (wrapR .u8 (Int.sub (asI (Tr.get T (at1 j))) (.ofNat 48)))))), .sl 12 0 l none, .int .i64 (.ofNat l), .int .i64 (up j)].map some) ([.cells l T 5 (some 1) 0 false true].map some)))))) (none)) (none))) (none)) (none)) (none) := by kernel_rfl
theorem pu10da_eq (s : List UInt8) (l m j : Nat) (T : Tr AV) : codesP EL1 (callP EL1 3) (flat (codeAt [15, 0] fn325.body)) (leafP 12 [1, 6, 7, 8, 9, 10, 11, 12, 13, 99, 100, 101] [(13, [0, 1, 2, 3, 4, 5, 6, 7, 8, 9, 10, 11, 12])]) (mkFr 172 [1, 6, 7, 8, 9, 10, 11, 12, 13, 99, 100, 101] [.int .i64 (.ofNat 10), .int .u64 (.ofNat 0), .nili, .bool false, .str s, .int .u64 (.ofNat 1844674407370955162), .int .u64 (.ofNat 18446744073709551615), .bool false, .int .u64 (.ofNat m), .sl 12 0 l none, .int .i64 (.ofNat l), .int .i64 (.ofNat j)]) (mkH 12 [.cells l T 5 (some 1) 0 false true]) (pO 8 185) = bc (Nat.blt j l) (bc (Nat.blt j l) (bc (isI .u8 (Tr.get T (at1 j))) (bc (ieq (asI (Tr.get T (at1 j))) (.ofNat 95)) (none) (bc (!(ilt (asI (Tr.get T (at1 j))) (.ofNat 48))) (bc (!(ilt (.ofNat 57) (asI (Tr.get T (at1 j))))) (bc (!(ilt (wrapR .u8 (Int.sub (asI (Tr.get T (at1 j))) (.ofNat 48))) (.ofNat 10))) (none) (bc (!(Nat.blt m 1844674407370955162)) (lf .ret 172 ([.int .i64 (.ofNat 10), .int .u64 (.ofNat 18446744073709551615), .iface 455 (.int .i64 (.ofNat 1)), .bool false, .str s, .int .u64 (.ofNat 1844674407370955162), .int .u64 (.ofNat 18446744073709551615), .bool false, .int .u64 (.ofNat m), .sl 12 0 l none, .int .i64 (.ofNat l), .int .i64 (.ofNat j)].map some) ([.cells l T 5 (some 1) 0 false true].map some)) (none))) (none)) (none))) (none)) (none)) (none) := by kernel_rfl
theorem pu10db_eq (s : List UInt8) (l m j : Nat) (T : Tr AV) : codesP EL1 (callP EL1 3) (flat (codeAt [15, 0] fn325.body)) (leafP 12 [1, 6, 7, 8, 9, 10, 11, 12, 13, 99, 100, 101] [(13, [0, 1, 2, 3, 4, 5, 6, 7, 8, 9, 10, 11, 12])]) (mkFr 172 [1, 6, 7, 8, 9, 10, 11, 12, 13, 99, 100, 101] [.int .i64 (.ofNat 10), .int .u64 (.ofNat 0), .nili, .bool false, .str s, .int .u64 (.ofNat 1844674407370955162), .int .u64 (.ofNat 18446744073709551615), .bool false, .int .u64 (.ofNat m), .sl 12 0 l none, .int .i64 (.ofNat l), .int .i64 (.ofNat j)]) (mkH 12 [.cells l T 5 (some 1) 0 false true]) (pO 12 3897) = bc (Nat.blt j l) (bc (Nat.blt j l) (bc (isI .u8 (Tr.get T (at1 j))) (bc (ieq (asI (Tr.get T (at1 j))) (.ofNat 95)) (none) (bc (!(ilt (asI (Tr.get T (at1 j))) (.ofNat 48))) (bc (!(ilt (.ofNat 57) (asI (Tr.get T (at1 j))))) (bc (!(ilt (wrapR .u8 (Int.sub (asI (Tr.get T (at1 j))) (.ofNat 48))) (.ofNat 10))) (none) (bc (!(Nat.blt m 1844674407370955162)) (none) (bc (ilt (wrapR .u64 (Int.add (wrapR .u64 (.ofNat (Nat.mul m 10))) (wrapR .u64 (wrapR .u8 (Int.sub (asI (Tr.get T (at1 j))) (.ofNat 48)))))) (wrapR .u64 (.ofNat (Nat.mul m 10)))) (lf .ret 172 ([.int .i64 (.ofNat 10), .int .u64 (.ofNat 18446744073709551615), .iface 455 (.int .i64 (.ofNat 1)), .bool false, .str s, .int .u64 (.ofNat 1844674407370955162), .int .u64 (.ofNat 18446744073709551615), .bool false, .int .u64 (wrapR .u64 (.ofNat (Nat.mul m 10))), .sl 12 0 l none, .int .i64 (.ofNat l), .int .i64 (.ofNat j)].map some) ([.cells l T 5 (some 1) 0 false true].map some)) (none)))) (none)) (none))) (none)) (none)) (none) := by kernel_rfl
theorem pu10x_eq (s : List UInt8) (l m j : Nat) (T : Tr AV) : codesP EL1 (callP EL1 3) (flat (codeAt [15, 0] fn325.body)) (leafP 12 [1, 6, 7, 8, 9, 10, 11, 12, 13, 99, 100, 101] [(13, [0, 1, 2, 3, 4, 5, 6, 7, 8, 9, 10, 11, 12])]) (mkFr 172 [1, 6, 7, 8, 9, 10, 11, 12, 13, 99, 100, 101] [.int .i64 (.ofNat 10), .int .u64 (.ofNat 0), .nili, .bool false, .str s, .int .u64 (.ofNat 1844674407370955162), .int .u64 (.ofNat 18446744073709551615), .bool false, .int .u64 (.ofNat m), .sl 12 0 l none, .int .i64 (.ofNat l), .int .i64 (.ofNat j)]) (mkH 12 [.cells l T 5 (some 1) 0 false true]) (pO 1 0) = bc (Nat.blt j l) (none) (lf (.exit 3) 172 ([.int .i64 (.ofNat 10), .int .u64 (.ofNat 0), .nili, .bool false, .str s, .int .u64 (.ofNat 1844674407370955162), .int .u64 (.ofNat 18446744073709551615), .bool false, .int .u64 (.ofNat m), .sl 12 0 l none, .int .i64 (.ofNat l), .int .i64 (.ofNat j)].map some) ([.cells l T 5 (some 1) 0 false true].map some)) := by kernel_rfl
theorem pu10e_eq (s : List UInt8) (l m j : Nat) (T : Tr AV) : codesP EL1 (callP EL1 3) ((flat fn325.body).drop 16) (leafP 12 [6, 7] [(13, [0, 1, 2, 3, 4, 5, 6, 7, 8, 9, 10, 11])]) (mkFr 172 [1, 6, 7, 8, 9, 10, 11, 12, 13, 99, 100, 101] [.int .i64 (.ofNat 10), .int .u64 (.ofNat 0), .nili, .bool false, .str s, .int .u64 (.ofNat 1844674407370955162), .int .u64 (.ofNat 18446744073709551615), .bool false, .int .u64 (.ofNat m), .sl 12 0 l none, .int .i64 (.ofNat l), .int .i64 (.ofNat j)]) (mkH 12 [.cells l T 5 (some 1) 0 false true]) (pO 4 0) = lf .ret 172 ([.int .u64 (.ofNat m), .nili].map some) ([].map some) := by kernel_rfl
theorem pu16A_eq (s : List UInt8) : codesP EL1 (callP EL1 3) ((flat fn325.body).take 15) (leafP 12 [1, 6, 7, 8, 9, 10, 11, 12, 13, 99, 100, 101] [(12, [0, 1, 2, 3, 4, 5, 6, 7, 8, 9, 10, 11]), (13, [0, 1, 2, 3, 4, 5, 6, 7, 8, 9, 10, 11, 12])]) (newFr fn325 [.str s, .int .i64 (.ofNat 16), .int .i64 (.ofNat 64)]) (mkH 12 []) (pO 10 526) = bc (leq s []) (none) (bc (roomy (lenU s) 1) (lf .normal 172 ([.int .i64 (.ofNat 16), .int .u64 (.ofNat 0), .nili, .bool false, .str s, .int .u64 (.ofNat 1152921504606846976), .int .u64 (.ofNat 18446744073709551615), .bool false, .int .u64 (.ofNat 0), .sl 12 0 (lenU s) none, .int .i64 (.ofNat (lenU s)), .int .i64 (.ofNat 0)].map some) ([.cells (lenU s) (Tr.putAll Tr.nil 0 (List.map byteAV s)) 5 (some 1) 0 false true].map some)) (none)) := by kernel_rfl
theorem pu16dn_eq (s : List UInt8) (l m j : Nat) (T : Tr AV) : codesP EL1 (callP EL1 3) (flat (codeAt [15, 0] fn325.body)) (leafP 12 [1, 6, 7, 8, 9, 10, 11, 12, 13, 99, 100, 101] [(13, [0, 1, 2, 3, 4, 5, 6, 7, 8, 9, 10, 11, 12])]) (mkFr 172 [1, 6, 7, 8, 9, 10, 11, 12, 13, 99, 100, 101] [.int .i64 (.ofNat 16), .int .u64 (.ofNat 0), .nili, .bool false, .str s, .int .u64 (.ofNat 1152921504606846976), .int .u64 (.ofNat 18446744073709551615), .bool false, .int .u64 (.ofNat m), .sl 12 0 l none, .int .i64 (.ofNat l), .int .i64 (.ofNat j)]) (mkH 12 [.cells l T 5 (some 1) 0 false true]) (pO 12 57) = bc (Nat.blt j l) (bc (Nat.blt j l) (bc (isI .u8 (Tr.get T (at1 j))) (bc (ieq (asI (Tr.get T (at1 j))) (.ofNat 95)) (none) (bc (!(ilt (asI (Tr.get T (at1 j))) (.ofNat 48))) (bc (!(ilt (.ofNat 57) (asI (Tr.get T (at1 j))))) (bc (!(ilt (wrapR .u8 (Int.sub (asI (Tr.get T (at1 j))) (.ofNat 48))) (.ofNat 16))) (none) (bc (!(Nat.blt m 1152921504606846976)) (none) (bc (ilt (wrapR .u64 (Int.add (wrapR .u64 (.ofNat (Nat.mul m 16))) (wrapR .u64 (wrapR .u8 (Int.sub (asI (Tr.get T (at1 j))) (.ofNat 48)))))) (wrapR .u64 (.ofNat (Nat.mul m 16)))) (none) (bc (ilt (.ofNat 18446744073709551615) (wrapR .u64 (Int.add (wrapR .u64 (.ofNat (Nat.mul m 16))) (wrapR .u64 (wrapR .u8 (Int.sub (asI (Tr.get T (at1 j))) (.ofNat 48))))))) (none) (lf .normal 172 ([.int .i64 (.ofNat 16), .int .u64 (.ofNat 0), .nili, .bool false, .str s, .int .u64 (.ofNat 1152921504606846976), .int .u64 (.ofNat 18446744073709551615), .bool false, .int .u64 (wrapR .u64 (Int.add (wrapR .u64 (.ofNat (Nat.mul m 16))) (wrapR .u64 (wrapR .u8 (Int.sub (asI (Tr.get T (at1 j))) (.ofNat 48)))))), .sl 12 0 l none, .int .i64 (.ofNat l), .int .i64 (up j)].map some) ([.cells l T 5 (some 1) 0 false true].map some)))))) (none)) (none))) (none)) (none)) (none) := by kernel_rfl
theorem pu16hn_eq (s : List UInt8) (l m j : Nat) (T : Tr AV) : codesP EL1 (callP EL1 3) (flat (codeAt [15, 0] fn325.body)) (leafP 12 [1, 6, 7, 8, 9, 10, 11, 12, 13, 99, 100, 101] [(13, [0, 1, 2, 3, 4, 5, 6, 7, 8, 9, 10, 11, 12])]) (mkFr 172 [1, 6, 7, 8, 9, 10, 11, 12, 13, 99, 100, 101] [.int .i64 (.ofNat 16), .int .u64 (.ofNat 0), .nili, .bool false, .str s, .int .u64 (.ofNat 1152921504606846976), .int .u64 (.ofNat 18446744073709551615), .bool false, .int .u64 (.ofNat m), .sl 12 0 l none, .int .i64 (.ofNat l), .int .i64 (.ofNat j)]) (mkH 12 [.cells l T 5 (some 1) 0 false true]) (pO 16 985) = bc (Nat.blt j l) (bc (Nat.blt j l) (bc (isI .u8 (Tr.get T (at1 j))) (bc (ieq (asI (Tr.get T (at1 j))) (.ofNat 95)) (none) (bc (!(ilt (asI (Tr.get T (at1 j))) (.ofNat 48))) (bc (!(ilt (.ofNat 57) (asI (Tr.get T (at1 j))))) (none) (bc (!(ilt (cLowV (asI (Tr.get T (at1 j)))) (.ofNat 97))) (bc (!(ilt (.ofNat 122) (cLowV (asI (Tr.get T (at1 j)))))) (bc (!(ilt (wrapR .u8 (Int.add (wrapR .u8 (Int.sub (cLowV (asI (Tr.get T (at1 j)))) (.ofNat 97))) (.ofNat 10))) (.ofNat 16))) (none) (bc (!(Nat.blt m 1152921504606846976)) (none) (bc (ilt (wrapR .u64 (Int.add (wrapR .u64 (.ofNat (Nat.mul m 16))) (wrapR .u64 (wrapR .u8 (Int.add (wrapR .u8 (Int.sub (cLowV (asI (Tr.get T (at1 j)))) (.ofNat 97))) (.ofNat 10)))))) (wrapR .u64 (.ofNat (Nat.mul m 16)))) (none) (bc (ilt (.ofNat 18446744073709551615) (wrapR .u64 (Int.add (wrapR .u64 (.ofNat (Nat.mul m 16))) (wrapR .u64 (wrapR .u8 (Int.add (wrapR .u8 (Int.sub (cLowV (asI (Tr.get T (at1 j)))) (.ofNat 97))) (.ofNat 10))))))) (none) (lf .normal 172 ([.int .i64 (.ofNat 16), .int .u64 (.ofNat 0), .nili, .bool false, .str s, .int .u64 (.ofNat 1152921504606846976), .int .u64 (.ofNat 18446744073709551615), .bool false, .int .u64 (wrapR .u64 (Int.add (wrapR .u64 (.ofNat (Nat.mul m 16))) (wrapR .u64 (wrapR .u8 (Int.add (wrapR .u8 (Int.sub (cLowV (asI (Tr.get T (at1 j)))) (.ofNat 97))) (.ofNat 10)))))), .sl 12 0 l none, .int .i64 (.ofNat l), .int .i64 (up j)].map some) ([.cells l T 5 (some 1) 0 false true].map some)))))) (none)) (none))) (none))) (none)) (none)) (none) := by kernel_rfl
theorem pu16da_eq (s : List UInt8) (l m j : Nat) (T : Tr AV) : codesP EL1 (callP EL1 3) (flat (codeAt [15, 0] fn325.body)) (leafP 12 [1, 6, 7, 8, 9, 10, 11, 12, 13, 99, 100, 101] [(13, [0, 1, 2, 3, 4, 5, 6, 7, 8, 9, 10, 11, 12])]) (mkFr 172 [1, 6, 7, 8, 9, 10, 11, 12, 13, 99, 100, 101] [.int .i64 (.ofNat 16), .int .u64 (.ofNat 0), .nili, .bool false, .str s, .int .u64 (.ofNat 1152921504606846976), .int .u64 (.ofNat 18446744073709551615), .bool false, .int .u64 (.ofNat m), .sl 12 0 l none, .int .i64 (.ofNat l), .int .i64 (.ofNat j)]) (mkH 12 [.cells l T 5 (some 1) 0 false true]) (pO 8 185) = bc (Nat.blt j l) (bc (Nat.blt j l) (bc (isI .u8 (Tr.get T (at1 j))) (bc (ieq (asI (Tr.get T (at1 j))) (.ofNat 95)) (none) (bc (!(ilt (asI (Tr.get T (at1 j))) (.ofNat 48))) (bc (!(ilt (.ofNat 57) (asI (Tr.get T (at1 j))))) (bc (!(ilt (wrapR .u8 (Int.sub (asI (Tr.get T (at1 j))) (.ofNat 48))) (.ofNat 16))) (none) (bc (!(Nat.blt m 1152921504606846976)) (lf .ret 172 ([.int .i64 (.ofNat 16), .int .u64 (.ofNat 18446744073709551615), .iface 455 (.int .i64 (.ofNat 1)), .bool false, .str s, .int .u64 (.ofNat 1152921504606846976), .int .u64 (.ofNat 18446744073709551615), .bool false, .int .u64 (.ofNat m), .sl 12 0 l none, .int .i64 (.ofNat l), .int .i64 (.ofNat j)].map some) ([.cells l T 5 (some 1) 0 false true].map some)) (none))) (none)) (none))) (none)) (none)) (none) := by kernel_rfl
theorem pu16ha_eq (s : List UInt8) (l m j : Nat) (T : Tr AV) : codesP EL1 (callP EL1 3) (flat (codeAt [15, 0] fn325.body)) (leafP 12 [1, 6, 7, 8, 9, 10, 11, 12, 13, 99, 100, 101] [(13, [0, 1, 2, 3, 4, 5, 6, 7, 8, 9, 10, 11, 12])]) (mkFr 172 [1, 6, 7, 8, 9, 10, 11, 12, 13, 99, 100, 101] [.int .i64 (.ofNat 16), .int .u64 (.ofNat 0), .nili, .bool false, .str s, .int .u64 (.ofNat 1152921504606846976), .int .u64 (.ofNat 18446744073709551615), .bool false, .int .u64 (.ofNat m), .sl 12 0 l none, .int .i64 (.ofNat l), .int .i64 (.ofNat j)]) (mkH 12 [.cells l T 5 (some 1) 0 false true]) (pO 12 3033) = bc (Nat.blt j l) (bc (Nat.blt j l) (bc (isI .u8 (Tr.get T (at1 j))) (bc (ieq (asI (Tr.get T (at1 j))) (.ofNat 95)) (none) (bc (!(ilt (asI (Tr.get T (at1 j))) (.ofNat 48))) (bc (!(ilt (.ofNat 57) (asI (Tr.get T (at1 j))))) (none) (bc (!(ilt (cLowV (asI (Tr.get T (at1 j)))) (.ofNat 97))) (bc (!(ilt (.ofNat 122) (cLowV (asI (Tr.get T (at1 j)))))) (bc (!(ilt (wrapR .u8 (Int.add (wrapR .u8 (Int.sub (cLowV (asI (Tr.get T (at1 j)))) (.ofNat 97))) (.ofNat 10))) (.ofNat 16))) (none) (bc (!(Nat.blt m 1152921504606846976)) (lf .ret 172 ([.int .i64 (.ofNat 16), .int .u64 (.ofNat 18446744073709551615), .iface 455 (.int .i64 (.ofNat 1)), .bool false, .str s, .int .u64 (.ofNat 1152921504606846976), .int .u64 (.ofNat 18446744073709551615), .bool false, .int .u64 (.ofNat m), .sl 12 0 l none, .int .i64 (.ofNat l), .int .i64 (.ofNat j)].map some) ([.cells l T 5 (some 1) 0 false true].map some)) (none))) (none)) (none))) (none))) (none)) (none)) (none) := by kernel_rfl
theorem pu16x_eq (s : List UInt8) (l m j : Nat) (T : Tr AV) : codesP EL1 (callP EL1 3) (flat (codeAt [15, 0] fn325.body)) (leafP 12 [1, 6, 7, 8, 9, 10, 11, 12, 13, 99, 100, 101] [(13, [0, 1, 2, 3, 4, 5, 6, 7, 8, 9, 10, 11, 12])]) (mkFr 172 [1, 6, 7, 8, 9, 10, 11, 12, 13, 99, 100, 101] [.int .i64 (.ofNat 16), .int .u64 (.ofNat 0), .nili, .bool false, .str s, .int .u64 (.ofNat 1152921504606846976), .int .u64 (.ofNat 18446744073709551615), .bool false, .int .u64 (.ofNat m), .sl 12 0 l none, .int .i64 (.ofNat l), .int .i64 (.ofNat j)]) (mkH 12 [.cells l T 5 (some 1) 0 false true]) (pO 1 0) = bc (Nat.blt j l) (none) (lf (.exit 3) 172 ([.int .i64 (.ofNat 16), .int .u64 (.ofNat 0), .nili, .bool false, .str s, .int .u64 (.ofNat 1152921504606846976), .int .u64 (.ofNat 18446744073709551615), .bool false, .int .u64 (.ofNat m), .sl 12 0 l none, .int .i64 (.ofNat l), .int .i64 (.ofNat j)].map some) ([.cells l T 5 (some 1) 0 false true].map some)) := by kernel_rfl
theorem pu16e_eq (s : List UInt8) (l m j : Nat) (T : Tr AV) : codesP EL1 (callP EL1 3) ((flat fn325.body).drop 16) (leafP 12 [6, 7] [(13, [0, 1, 2, 3, 4, 5, 6, 7, 8, 9, 10, 11])]) (mkFr 172 [1, 6, 7, 8, 9, 10, 11, 12, 13, 99, 100, 101] [.int .i64 (.ofNat 16), .int .u64 (.ofNat 0), .nili, .bool false, .str s, .int .u64 (.ofNat 1152921504606846976), .int .u64 (.ofNat 18446744073709551615), .bool false, .int .u64 (.ofNat m), .sl 12 0 l none, .int .i64 (.ofNat l), .int .i64 (.ofNat j)]) (mkH 12 [.cells l T 5 (some 1) 0 false true]) (pO 4 0) = lf .ret 172 ([.int .u64 (.ofNat m), .nili].map some) ([].map some) := by kernel_rfl
theorem pu10d_n {s : List UInt8} {m j : Nat} (hs : s.length < 4294967296) (h : j < s.length) (hd : decN (byteAt s j).toNat = true) (hv : m * 10 + dv (byteAt s j).toNat < 18446744073709551616) : codesP EL1 (callP EL1 3) (flat (codeAt [15, 0] fn325.body)) (leafP 12 puS [(13, [0, 1, 2, 3, 4, 5, 6, 7, 8, 9, 10, 11, 12])]) (mkFr 172 puS (puV 10 1844674407370955162 s m j)) (mkH 12 [rowP s]) (pO 12 57) = lf .normal 172 ((puV 10 1844674407370955162 s (m * 10 + dv (byteAt s j).toNat) (j + 1)).map some) ([rowP s].map some) := by
  have g := pu_get hs h
  obtain ⟨d1, d2, d3, d4, d5⟩ := dec_test hd
  refine (pu10dn_eq s (lenU s) m j (bT s)).trans ?_
  have e1 : ilt (.ofNat (dv (byteAt s j).toNat)) (.ofNat 10) = true := blt_t (by omega)
  have e2 : Nat.blt m 1844674407370955162 = true := blt_t (by omega)
  have e3 : wrapR .u64 (.ofNat (Nat.mul m 10)) = .ofNat (m * 10) := u64s (show m * 10 < _ by omega)
  have e4 : wrapR .u64 (.ofNat (dv (byteAt s j).toNat)) = .ofNat (dv (byteAt s j).toNat) := u64s (by omega)
  have e5 : wrapR .u64 (Int.add (.ofNat (m * 10)) (.ofNat (dv (byteAt s j).toNat))) = .ofNat (m * 10 + dv (byteAt s j).toNat) := u64s (n := m * 10 + dv (byteAt s j).toNat) hv
  have e6 : ilt (.ofNat (m * 10 + dv (byteAt s j).toNat)) (.ofNat (m * 10)) = false := blt_f (by omega)
  have e7 : ilt (.ofNat 18446744073709551615) (.ofNat (m * 10 + dv (byteAt s j).toNat)) = false := blt_f (by omega)
  rw [blt_t (show j < lenU s from h), g, byte_isI, byte_asI, d1, d2, d3, d4, e1, e2, e3, e4, e5, e6, e7, up_eq (by omega)]
  rfl
theorem pu10d_a {s : List UInt8} {m j : Nat} (hs : s.length < 4294967296) (h : j < s.length) (hd : decN (byteAt s j).toNat = true) (hv : ¬ m < 1844674407370955162) : ∃ m', codesP EL1 (callP EL1 3) (flat (codeAt [15, 0] fn325.body)) (leafP 12 puS [(13, [0, 1, 2, 3, 4, 5, 6, 7, 8, 9, 10, 11, 12])]) (mkFr 172 puS (puV 10 1844674407370955162 s m j)) (mkH 12 [rowP s]) (pO 8 185) = lf .ret 172 ((puW 10 1844674407370955162 s m' j).map some) ([rowP s].map some) := by
  have g := pu_get hs h
  obtain ⟨d1, d2, d3, d4, d5⟩ := dec_test hd
  refine ⟨m, (pu10da_eq s (lenU s) m j (bT s)).trans ?_⟩
  have e1 : ilt (.ofNat (dv (byteAt s j).toNat)) (.ofNat 10) = true := blt_t (by omega)
  have e2 : Nat.blt m 1844674407370955162 = false := blt_f hv
  rw [blt_t (show j < lenU s from h), g, byte_isI, byte_asI, d1, d2, d3, d4, e1, e2]
  rfl
theorem pu10d_b {s : List UInt8} {m j : Nat} (hs : s.length < 4294967296) (h : j < s.length) (hd : decN (byteAt s j).toNat = true) (h3 : m < 1844674407370955162) (hv : ¬ m * 10 + dv (byteAt s j).toNat < 18446744073709551616) : ∃ m', codesP EL1 (callP EL1 3) (flat (codeAt [15, 0] fn325.body)) (leafP 12 puS [(13, [0, 1, 2, 3, 4, 5, 6, 7, 8, 9, 10, 11, 12])]) (mkFr 172 puS (puV 10 1844674407370955162 s m j)) (mkH 12 [rowP s]) (pO 12 3897) = lf .ret 172 ((puW 10 1844674407370955162 s m' j).map some) ([rowP s].map some) := by
  have g := pu_get hs h
  obtain ⟨d1, d2, d3, d4, d5⟩ := dec_test hd
  refine ⟨m * 10, (pu10db_eq s (lenU s) m j (bT s)).trans ?_⟩
  have e1 : ilt (.ofNat (dv (byteAt s j).toNat)) (.ofNat 10) = true := blt_t (by omega)
  have e2 : Nat.blt m 1844674407370955162 = true := blt_t h3
  have e3 : wrapR .u64 (.ofNat (Nat.mul m 10)) = .ofNat (m * 10) := u64s (show m * 10 < _ by omega)
  have e4 : wrapR .u64 (.ofNat (dv (byteAt s j).toNat)) = .ofNat (dv (byteAt s j).toNat) := u64s (by omega)
  have e5 : wrapR .u64 (Int.add (.ofNat (m * 10)) (.ofNat (dv (byteAt s j).toNat))) = .ofNat (m * 10 + dv (byteAt s j).toNat - 18446744073709551616) := u64w (n := m * 10 + dv (byteAt s j).toNat) (by omega) (by omega)
  have e6 : ilt (.ofNat (m * 10 + dv (byteAt s j).toNat - 18446744073709551616)) (.ofNat (m * 10)) = true := blt_t (by omega)
  rw [blt_t (show j < lenU s from h), g, byte_isI, byte_asI, d1, d2, d3, d4, e1, e2, e3, e4, e5, e6]
  rfl
section
variable {P : Program} {I : List MEnt → AHeap → World → Prop} {ro : Option Nat}
theorem pu10_tri (hE : EnvOk EL1 P I) (hI : Carried I) {s : List UInt8} (h1 : 1 ≤ s.length) (hs : s.length < 4294967296) (hc : ∀ j, j < s.length → digP (byteAt s j) = true) : Tri EL1 P I ro fn325.body (newFr fn325 [.str s, .int .i64 (.ofNat 10), .int .i64 (.ofNat 64)]) (mkH 12 []) fun e fr H => (e = .normal ∨ e = .ret) ∧ fr.df = [] ∧ ∃ l, resA EL1 fr.t H fn325.results = some l ∧ weak2 (resV l) = bif Nat.blt (valD 10 s) 18446744073709551616 then .tup [.int .u64 (.ofNat (valD 10 s)), .nili] else .tup [.int .u64 (.ofNat 18446744073709551615), .iface 455 (.int .i64 (.ofNat 1))] := by
  have hl : lenU s = s.length := rfl
  have hn : leq s [] = false := by
    cases s with
    | nil => simp at h1
    | cons c s => rfl
  refine tri_of_triL _ ?_
  rw [fn325_flat]
  refine TriL.leafPX hE hI (callP_ok EL1 3) (vs := puV 10 1844674407370955162 s 0 0) (os := [rowP s]) (os2 := [rowP s]) ((pu10A_eq s).trans (by rw [hn, roomy_lt (show lenU s < _ from hs)]; rfl)) (by decide) rfl (fun _ _ => rowP_robj s) (.inl ⟨rfl, ?_⟩)
  refine Tri.mono (Tri.block (Q := fun e fr H => (e = .normal ∧ valD 10 s < 18446744073709551616 ∧ ∃ keep, Ren 12 keep fr H (mkFr 172 puS (puV 10 1844674407370955162 s (valD 10 s) s.length)) (mkH 12 [rowP s])) ∨ (e = .ret ∧ 18446744073709551616 ≤ valD 10 s ∧ fr.df = [] ∧ resA EL1 fr.t H fn325.results = some [.int .u64 (.ofNat 18446744073709551615), .iface 455 (.int .i64 (.ofNat 1))])) (Tri.loop (X := Nat × Nat) (fr := fun x => mkFr 172 puS (puV 10 1844674407370955162 s x.1 x.2)) (H := fun _ => mkH 12 [rowP s]) (Inv := fun x => x.2 ≤ s.length ∧ x.1 = valD 10 (s.take x.2) ∧ x.1 < 18446744073709551616) (fun x => s.length - x.2) hI ?_ (0, 0) ⟨Nat.zero_le _, rfl, by decide⟩)) ?_
  · rintro ⟨m, j⟩ ⟨i1, i2, i3⟩
    simp only at i1 i2 i3
    refine tri_of_triL _ ?_
    have over : ∀ {m' : Nat} {o : Orc}, codesP EL1 (callP EL1 3) (flat (codeAt [15, 0] fn325.body)) (leafP 12 puS [(13, [0, 1, 2, 3, 4, 5, 6, 7, 8, 9, 10, 11, 12])]) (mkFr 172 puS (puV 10 1844674407370955162 s m j)) (mkH 12 [rowP s]) o = lf .ret 172 ((puW 10 1844674407370955162 s m' j).map some) ([rowP s].map some) → 18446744073709551616 ≤ valD 10 s → TriL EL1 P I ro (flat (codeAt [15, 0] fn325.body)) (mkFr 172 puS (puV 10 1844674407370955162 s m j)) (mkH 12 [rowP s]) fun e fr' H' => (e = .normal ∧ ∃ (x' : Nat × Nat) (keep : List Nat), (x'.2 ≤ s.length ∧ x'.1 = valD 10 (s.take x'.2) ∧ x'.1 < 18446744073709551616) ∧ s.length - x'.2 < s.length - j ∧ Ren 12 keep fr' H' (mkFr 172 puS (puV 10 1844674407370955162 s x'.1 x'.2)) (mkH 12 [rowP s])) ∨ (e ≠ .normal ∧ ((outOf 3 e = .normal ∧ valD 10 s < 18446744073709551616 ∧ ∃ keep, Ren 12 keep fr' H' (mkFr 172 puS (puV 10 1844674407370955162 s (valD 10 s) s.length)) (mkH 12 [rowP s])) ∨ (outOf 3 e = .ret ∧ 18446744073709551616 ≤ valD 10 s ∧ fr'.df = [] ∧ resA EL1 fr'.t H' fn325.results = some [.int .u64 (.ofNat 18446744073709551615), .iface 455 (.int .i64 (.ofNat 1))]))) := fun e h2 => TriL.leafPC hE (callP_ok EL1 3) e (by decide) rfl (fun _ _ => rowP_robj s) fun fr' H' keep r => .inr ⟨(by intro h; cases h), .inr ⟨rfl, h2, r.df.1, by
      rw [fn325_res]
      exact ren_res r (l := [.int .u64 (.ofNat 18446744073709551615), .iface 455 (.int .i64 (.ofNat 1))]) rfl rfl⟩⟩
    by_cases h : j < s.length
    · clear h1 hn
      have hd := dig_dec (hc j h)
      by_cases h3 : m < 1844674407370955162
      · by_cases h4 : m * 10 + dv (byteAt s j).toNat < 18446744073709551616
        · exact TriL.leafPC hE (callP_ok EL1 3) (pu10d_n hs h hd h4) (by decide) rfl (fun _ _ => rowP_robj s) fun fr' H' keep r => .inl ⟨rfl, (m * 10 + dv (byteAt s j).toNat, j + 1), keep, ⟨h, by rw [valD_at h, i2], h4⟩, by simp only; omega, r⟩
        · obtain ⟨m', e⟩ := pu10d_b hs h hd h3 h4
          exact over e (Nat.le_trans (show _ ≤ valD 10 (s.take (j + 1)) by rw [valD_at h, ← i2]; omega) (valD_le (by decide) s))
      · obtain ⟨m', e⟩ := pu10d_a hs h hd h3
        exact over e (Nat.le_trans (show _ ≤ valD 10 (s.take (j + 1)) by rw [valD_at h, ← i2]; omega) (valD_le (by decide) s))
    · obtain rfl : j = s.length := by omega
      rw [List.take_length] at i2
      subst i2
      refine TriL.leafPC hE (callP_ok EL1 3) (vs := puV 10 1844674407370955162 s (valD 10 s) s.length) (os := [rowP s]) (os2 := [rowP s]) ((pu10x_eq s (lenU s) (valD 10 s) s.length (bT s)).trans (by rw [blt_f (show ¬ s.length < lenU s by omega)]; rfl)) (by decide) rfl (fun _ _ => rowP_robj s) fun fr' H' keep r => .inr ⟨(by intro h; cases h), .inl ⟨rfl, i3, keep, r⟩⟩
  · rintro e fr H (⟨rfl, hv, keep, r⟩ | ⟨rfl, hv, h2, h3⟩)
    · refine .inl ⟨rfl, TriL.ren hI r ?_⟩
      refine TriL.leafPC hE (callP_ok EL1 3) (vs := [.int .u64 (.ofNat (valD 10 s)), .nili]) (os := []) (os2 := []) (pu10e_eq s (lenU s) (valD 10 s) s.length (bT s)) (by decide) rfl (fun _ => rows0F) fun fr' H' keep r => ⟨.inr rfl, r.df.1, [.int .u64 (.ofNat (valD 10 s)), .nili], ?_, ?_⟩
      · rw [fn325_res]; exact ren_res r rfl rfl
      · rw [blt_t hv]; rfl
    · refine .inr ⟨(by intro h; cases h), .inr rfl, h2, _, h3, ?_⟩
      rw [blt_f (by omega)]; rfl
end
theorem pu16d_n {s : List UInt8} {m j : Nat} (hs : s.length < 4294967296) (h : j < s.length) (hd : decN (byteAt s j).toNat = true) (hv : m * 16 + dv (byteAt s j).toNat < 18446744073709551616) : codesP EL1 (callP EL1 3) (flat (codeAt [15, 0] fn325.body)) (leafP 12 puS [(13, [0, 1, 2, 3, 4, 5, 6, 7, 8, 9, 10, 11, 12])]) (mkFr 172 puS (puV 16 1152921504606846976 s m j)) (mkH 12 [rowP s]) (pO 12 57) = lf .normal 172 ((puV 16 1152921504606846976 s (m * 16 + dv (byteAt s j).toNat) (j + 1)).map some) ([rowP s].map some) := by
  have g := pu_get hs h
  obtain ⟨d1, d2, d3, d4, d5⟩ := dec_test hd
  refine (pu16dn_eq s (lenU s) m j (bT s)).trans ?_
  have e1 : ilt (.ofNat (dv (byteAt s j).toNat)) (.ofNat 16) = true := blt_t (by omega)
  have e2 : Nat.blt m 1152921504606846976 = true := blt_t (by omega)
  have e3 : wrapR .u64 (.ofNat (Nat.mul m 16)) = .ofNat (m * 16) := u64s (show m * 16 < _ by omega)
  have e4 : wrapR .u64 (.ofNat (dv (byteAt s j).toNat)) = .ofNat (dv (byteAt s j).toNat) := u64s (by omega)
  have e5 : wrapR .u64 (Int.add (.ofNat (m * 16)) (.ofNat (dv (byteAt s j).toNat))) = .ofNat (m * 16 + dv (byteAt s j).toNat) := u64s (n := m * 16 + dv (byteAt s j).toNat) hv
  have e6 : ilt (.ofNat (m * 16 + dv (byteAt s j).toNat)) (.ofNat (m * 16)) = false := blt_f (by omega)
  have e7 : ilt (.ofNat 18446744073709551615) (.ofNat (m * 16 + dv (byteAt s j).toNat)) = false := blt_f (by omega)
  rw [blt_t (show j < lenU s from h), g, byte_isI, byte_asI, d1, d2, d3, d4, e1, e2, e3, e4, e5, e6, e7, up_eq (by omega)]
  rfl
theorem pu16d_a {s : List UInt8} {m j : Nat} (hs : s.length < 4294967296) (h : j < s.length) (hd : decN (byteAt s j).toNat = true) (hv : ¬ m < 1152921504606846976) : ∃ m', codesP EL1 (callP EL1 3) (flat (codeAt [15, 0] fn325.body)) (leafP 12 puS [(13, [0, 1, 2, 3, 4, 5, 6, 7, 8, 9, 10, 11, 12])]) (mkFr 172 puS (puV 16 1152921504606846976 s m j)) (mkH 12 [rowP s]) (pO 8 185) = lf .ret 172 ((puW 16 1152921504606846976 s m' j).map some) ([rowP s].map some) := by
  have g := pu_get hs h
  obtain ⟨d1, d2, d3, d4, d5⟩ := dec_test hd
  refine ⟨m, (pu16da_eq s (lenU s) m j (bT s)).trans ?_⟩
  have e1 : ilt (.ofNat (dv (byteAt s j).toNat)) (.ofNat 16) = true := blt_t (by omega)
  have e2 : Nat.blt m 1152921504606846976 = false := blt_f hv
  rw [blt_t (show j < lenU s from h), g, byte_isI, byte_asI, d1, d2, d3, d4, e1, e2]
  rfl
theorem pu16h_n {s : List UInt8} {m j : Nat} (hs : s.length < 4294967296) (h : j < s.length) (hd : letN (byteAt s j).toNat = true) (hv : m * 16 + dv (byteAt s j).toNat < 18446744073709551616) : codesP EL1 (callP EL1 3) (flat (codeAt [15, 0] fn325.body)) (leafP 12 puS [(13, [0, 1, 2, 3, 4, 5, 6, 7, 8, 9, 10, 11, 12])]) (mkFr 172 puS (puV 16 1152921504606846976 s m j)) (mkH 12 [rowP s]) (pO 16 985) = lf .normal 172 ((puV 16 1152921504606846976 s (m * 16 + dv (byteAt s j).toNat) (j + 1)).map some) ([rowP s].map some) := by
  have g := pu_get hs h
  obtain ⟨d1, d2, d3, d6, d7, d4, d5⟩ := let_test hd
  refine (pu16hn_eq s (lenU s) m j (bT s)).trans ?_
  have e1 : ilt (.ofNat (dv (byteAt s j).toNat)) (.ofNat 16) = true := blt_t (by omega)
  have e2 : Nat.blt m 1152921504606846976 = true := blt_t (by omega)
  have e3 : wrapR .u64 (.ofNat (Nat.mul m 16)) = .ofNat (m * 16) := u64s (show m * 16 < _ by omega)
  have e4 : wrapR .u64 (.ofNat (dv (byteAt s j).toNat)) = .ofNat (dv (byteAt s j).toNat) := u64s (by omega)
  have e5 : wrapR .u64 (Int.add (.ofNat (m * 16)) (.ofNat (dv (byteAt s j).toNat))) = .ofNat (m * 16 + dv (byteAt s j).toNat) := u64s (n := m * 16 + dv (byteAt s j).toNat) hv
  have e6 : ilt (.ofNat (m * 16 + dv (byteAt s j).toNat)) (.ofNat (m * 16)) = false := blt_f (by omega)
  have e7 : ilt (.ofNat 18446744073709551615) (.ofNat (m * 16 + dv (byteAt s j).toNat)) = false := blt_f (by omega)
  rw [blt_t (show j < lenU s from h), g, byte_isI, byte_asI, d1, d2, d3, d6, d7, d4, e1, e2, e3, e4, e5, e6, e7, up_eq (by omega)]
  rfl
theorem pu16h_a {s : List UInt8} {m j : Nat} (hs : s.length < 4294967296) (h : j < s.length) (hd : letN (byteAt s j).toNat = true) (hv : ¬ m < 1152921504606846976) : ∃ m', codesP EL1 (callP EL1 3) (flat (codeAt [15, 0] fn325.body)) (leafP 12 puS [(13, [0, 1, 2, 3, 4, 5, 6, 7, 8, 9, 10, 11, 12])]) (mkFr 172 puS (puV 16 1152921504606846976 s m j)) (mkH 12 [rowP s]) (pO 12 3033) = lf .ret 172 ((puW 16 1152921504606846976 s m' j).map some) ([rowP s].map some) := by
  have g := pu_get hs h
  obtain ⟨d1, d2, d3, d6, d7, d4, d5⟩ := let_test hd
  refine ⟨m, (pu16ha_eq s (lenU s) m j (bT s)).trans ?_⟩
  have e1 : ilt (.ofNat (dv (byteAt s j).toNat)) (.ofNat 16) = true := blt_t (by omega)
  have e2 : Nat.blt m 1152921504606846976 = false := blt_f hv
  rw [blt_t (show j < lenU s from h), g, byte_isI, byte_asI, d1, d2, d3, d6, d7, d4, e1, e2]
  rfl
section
variable {P : Program} {I : List MEnt → AHeap → World → Prop} {ro : Option Nat}
theorem pu16_tri (hE : EnvOk EL1 P I) (hI : Carried I) {s : List UInt8} (h1 : 1 ≤ s.length) (hs : s.length < 4294967296) (hc : ∀ j, j < s.length → hexP (byteAt s j) = true) : Tri EL1 P I ro fn325.body (newFr fn325 [.str s, .int .i64 (.ofNat 16), .int .i64 (.ofNat 64)]) (mkH 12 []) fun e fr H => (e = .normal ∨ e = .ret) ∧ fr.df = [] ∧ ∃ l, resA EL1 fr.t H fn325.results = some l ∧ weak2 (resV l) = bif Nat.blt (valD 16 s) 18446744073709551616 then .tup [.int .u64 (.ofNat (valD 16 s)), .nili] else .tup [.int .u64 (.ofNat 18446744073709551615), .iface 455 (.int .i64 (.ofNat 1))] := by
  have hl : lenU s = s.length := rfl
  have hn : leq s [] = false := by
    cases s with
    | nil => simp at h1
    | cons c s => rfl
  refine tri_of_triL _ ?_
  rw [fn325_flat]
  refine TriL.leafPX hE hI (callP_ok EL1 3) (vs := puV 16 1152921504606846976 s 0 0) (os := [rowP s]) (os2 := [rowP s]) ((pu16A_eq s).trans (by rw [hn, roomy_lt (show lenU s < _ from hs)]; rfl)) (by decide) rfl (fun _ _ => rowP_robj s) (.inl ⟨rfl, ?_⟩)
  refine Tri.mono (Tri.block (Q := fun e fr H => (e = .normal ∧ valD 16 s < 18446744073709551616 ∧ ∃ keep, Ren 12 keep fr H (mkFr 172 puS (puV 16 1152921504606846976 s (valD 16 s) s.length)) (mkH 12 [rowP s])) ∨ (e = .ret ∧ 18446744073709551616 ≤ valD 16 s ∧ fr.df = [] ∧ resA EL1 fr.t H fn325.results = some [.int .u64 (.ofNat 18446744073709551615), .iface 455 (.int .i64 (.ofNat 1))])) (Tri.loop (X := Nat × Nat) (fr := fun x => mkFr 172 puS (puV 16 1152921504606846976 s x.1 x.2)) (H := fun _ => mkH 12 [rowP s]) (Inv := fun x => x.2 ≤ s.length ∧ x.1 = valD 16 (s.take x.2) ∧ x.1 < 18446744073709551616) (fun x => s.length - x.2) hI ?_ (0, 0) ⟨Nat.zero_le _, rfl, by decide⟩)) ?_
  · rintro ⟨m, j⟩ ⟨i1, i2, i3⟩
    simp only at i1 i2 i3
    refine tri_of_triL _ ?_
    have over : ∀ {m' : Nat} {o : Orc}, codesP EL1 (callP EL1 3) (flat (codeAt [15, 0] fn325.body)) (leafP 12 puS [(13, [0, 1, 2, 3, 4, 5, 6, 7, 8, 9, 10, 11, 12])]) (mkFr 172 puS (puV 16 1152921504606846976 s m j)) (mkH 12 [rowP s]) o = lf .ret 172 ((puW 16 1152921504606846976 s m' j).map some) ([rowP s].map some) → 18446744073709551616 ≤ valD 16 s → TriL EL1 P I ro (flat (codeAt [15, 0] fn325.body)) (mkFr 172 puS (puV 16 1152921504606846976 s m j)) (mkH 12 [rowP s]) fun e fr' H' => (e = .normal ∧ ∃ (x' : Nat × Nat) (keep : List Nat), (x'.2 ≤ s.length ∧ x'.1 = valD 16 (s.take x'.2) ∧ x'.1 < 18446744073709551616) ∧ s.length - x'.2 < s.length - j ∧ Ren 12 keep fr' H' (mkFr 172 puS (puV 16 1152921504606846976 s x'.1 x'.2)) (mkH 12 [rowP s])) ∨ (e ≠ .normal ∧ ((outOf 3 e = .normal ∧ valD 16 s < 18446744073709551616 ∧ ∃ keep, Ren 12 keep fr' H' (mkFr 172 puS (puV 16 1152921504606846976 s (valD 16 s) s.length)) (mkH 12 [rowP s])) ∨ (outOf 3 e = .ret ∧ 18446744073709551616 ≤ valD 16 s ∧ fr'.df = [] ∧ resA EL1 fr'.t H' fn325.results = some [.int .u64 (.ofNat 18446744073709551615), .iface 455 (.int .i64 (.ofNat 1))]))) := fun e h2 => TriL.leafPC hE (callP_ok EL1 3) e (by decide) rfl (fun _ _ => rowP_robj s) fun fr' H' keep r => .inr ⟨(by intro h; cases h), .inr ⟨rfl, h2, r.df.1, by
      rw [fn325_res]
      exact ren_res r (l := [.int .u64 (.ofNat 18446744073709551615), .iface 455 (.int .i64 (.ofNat 1))]) rfl rfl⟩⟩
    by_cases h : j < s.length
    · clear h1 hn
      rcases hex_dec (hc j h) with hd | hd
      · by_cases h3 : m < 1152921504606846976
        · by_cases h4 : m * 16 + dv (byteAt s j).toNat < 18446744073709551616
          · exact TriL.leafPC hE (callP_ok EL1 3) (pu16d_n hs h hd h4) (by decide) rfl (fun _ _ => rowP_robj s) fun fr' H' keep r => .inl ⟨rfl, (m * 16 + dv (byteAt s j).toNat, j + 1), keep, ⟨h, by rw [valD_at h, i2], h4⟩, by simp only; omega, r⟩
          · obtain ⟨_, _, _, _, _, _, d5⟩ := (show True ∧ True ∧ True ∧ True ∧ True ∧ True ∧ dv (byteAt s j).toNat < 10 from ⟨trivial, trivial, trivial, trivial, trivial, trivial, (dec_test hd).2.2.2.2⟩)
            exact absurd (show m * 16 + dv (byteAt s j).toNat < 18446744073709551616 by omega) h4
        · obtain ⟨m', e⟩ := pu16d_a hs h hd h3
          exact over e (Nat.le_trans (show _ ≤ valD 16 (s.take (j + 1)) by rw [valD_at h, ← i2]; omega) (valD_le (by decide) s))
      · by_cases h3 : m < 1152921504606846976
        · by_cases h4 : m * 16 + dv (byteAt s j).toNat < 18446744073709551616
          · exact TriL.leafPC hE (callP_ok EL1 3) (pu16h_n hs h hd h4) (by decide) rfl (fun _ _ => rowP_robj s) fun fr' H' keep r => .inl ⟨rfl, (m * 16 + dv (byteAt s j).toNat, j + 1), keep, ⟨h, by rw [valD_at h, i2], h4⟩, by simp only; omega, r⟩
          · obtain ⟨_, _, _, _, _, _, d5⟩ := let_test hd
            exact absurd (show m * 16 + dv (byteAt s j).toNat < 18446744073709551616 by omega) h4
        · obtain ⟨m', e⟩ := pu16h_a hs h hd h3
          exact over e (Nat.le_trans (show _ ≤ valD 16 (s.take (j + 1)) by rw [valD_at h, ← i2]; omega) (valD_le (by decide) s))
    · obtain rfl : j = s.length := by omega
      rw [List.take_length] at i2
      subst i2
      refine TriL.leafPC hE (callP_ok EL1 3) (vs := puV 16 1152921504606846976 s (valD 16 s) s.length) (os := [rowP s]) (os2 := [rowP s]) ((pu16x_eq s (lenU s) (valD 16 s) s.length (bT s)).trans (by rw [blt_f (show ¬ s.length < lenU s by omega)]; rfl)) (by decide) rfl (fun _ _ => rowP_robj s) fun fr' H' keep r => .inr ⟨(by intro h; cases h), .inl ⟨rfl, i3, keep, r⟩⟩
  · rintro e fr H (⟨rfl, hv, keep, r⟩ | ⟨rfl, hv, h2, h3⟩)
    · refine .inl ⟨rfl, TriL.ren hI r ?_⟩
      refine TriL.leafPC hE (callP_ok EL1 3) (vs := [.int .u64 (.ofNat (valD 16 s)), .nili]) (os := []) (os2 := []) (pu16e_eq s (lenU s) (valD 16 s) s.length (bT s)) (by decide) rfl (fun _ => rows0F) fun fr' H' keep r => ⟨.inr rfl, r.df.1, [.int .u64 (.ofNat (valD 16 s)), .nili], ?_, ?_⟩
      · rw [fn325_res]; exact ren_res r rfl rfl
      · rw [blt_t hv]; rfl
    · refine .inr ⟨(by intro h; cases h), .inr rfl, h2, _, h3, ?_⟩
      rw [blt_f (by omega)]; rfl
end
def allP (p : UInt8 → Bool) (s : List UInt8) : Bool := s.all p
theorem all_at {p : UInt8 → Bool} {s : List UInt8} (h : allP p s = true) : ∀ j, j < s.length → p (byteAt s j) = true := fun j hj => by
  rw [byteAt_eq hj]
  exact List.all_eq_true.1 h _ (List.getElem_mem hj)
def puOk (b : Int) (s : List UInt8) : Bool := Nat.ble 1 (lenU s) && (Nat.blt (lenU s) 4294967296 && ((ieq b (.ofNat 10) && allP digP s) || (ieq b (.ofNat 16) && allP hexP s)))
def puR (b : Int) (s : List UInt8) : AV := bif Nat.blt (valD b.toNat s) 18446744073709551616 then .tup [.int .u64 (.ofNat (valD b.toNat s)), .nili] else .tup [.int .u64 (.ofNat 18446744073709551615), .iface 455 (.int .i64 (.ofNat 1))]
def puFv : Nat → List AV → Option AV := fun g args => match args with
  | [.str s, .int .i64 b, .int .i64 (.ofNat 64)] => bif Nat.beq g 325 && puOk b s then some (puR b s) else none
  | _ => none
theorem puR_plain (b : Int) (s : List UInt8) : freeV (puR b s) = true := by
  unfold puR
  cases Nat.blt (valD b.toNat s) 18446744073709551616 <;> rfl
theorem pu_ok : SmOk Tryz.prog gl (plainSm puFv) := tri_plain fun g args v h => by
  unfold puFv at h
  split at h
  case h_2 => cases h
  rename_i s b
  rw [Bool.cond_eq_ite] at h
  split at h
  case isFalse => cases h
  rename_i hb
  unfold puOk at hb
  simp only [Bool.and_eq_true, Bool.or_eq_true, Nat.beq_eq, Nat.blt_eq, Nat.ble_eq, ieq_iff, decide_eq_true_eq] at hb
  obtain ⟨rfl, h1, hs, hd⟩ := hb
  simp only [Option.some.injEq] at h
  subst h
  refine ⟨EL1, fn325, el1_ok, gl_ok, fn325_eq, plain_list rfl, plain_free (puR_plain b s), fun w hw => ?_⟩
  rcases hd with ⟨rfl, hd⟩ | ⟨rfl, hd⟩
  · exact pu10_tri (el1_ok w hw) (kept_carried hw) h1 hs (all_at hd)
  · exact pu16_tri (el1_ok w hw) (kept_carried hw) h1 hs (all_at hd)
end
end Go.Proofs.YthlcgkebfodnmaaGreatDoor
