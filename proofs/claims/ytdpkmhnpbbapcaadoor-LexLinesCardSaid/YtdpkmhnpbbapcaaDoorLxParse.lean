/- internal/strconv.ParseUint on digits of base 10 or 16. -/
import Derived.Test.YtdpkmhnpbbapcaaDoorLxText
import Derived.KernelRfl
namespace Go.Proofs.YtdpkmhnpbbapcaaDoor
open Go Go.Vai
noncomputable section
set_option maxRecDepth 100000
def Zic (n : Nat) : Bool := Nat.ble 48 n && Nat.ble n 57
def dv (n : Nat) : Nat := bif Zic n then n - 48 else bif Nat.ble 97 n then n - 87 else n - 55
theorem Z8l : ((List.range 256).all fun n => !(K6 (.ofNat n)) || Zic n) = true := by kernel_rfl
def Zxw (n : Nat) : Bool := !(Xz (.ofNat n) (.ofNat 95)) && (!(Yc (.ofNat n) (.ofNat 48)) && (Yc (.ofNat 57) (.ofNat n) && (!(Yc (Jd (.ofNat n)) (.ofNat 97)) && (!(Yc (.ofNat 122) (Jd (.ofNat n))) && (Xz (Zf .u8 (Int.add (Zf .u8 (Int.sub (Jd (.ofNat n)) (.ofNat 97))) (.ofNat 10))) (.ofNat (dv n)) && Nat.blt (dv n) 16)))))
theorem Z8y : ((List.range 256).all fun n => !(Zcq (.ofNat n)) || (Zic n || Zxw n)) = true := by kernel_rfl
theorem Ztn {c : UInt8} (h : Z1 c = true) : Zic c.toNat = true := by
  have := List.all_eq_true.1 Z8l c.toNat (List.mem_range.2 c.toNat_lt)
  unfold Z1 cI at h
  rw [h] at this
  simpa using this
theorem Zuo {c : UInt8} (h : Z9 c = true) : Zic c.toNat = true ∨ Zxw c.toNat = true := by
  have := List.all_eq_true.1 Z8y c.toNat (List.mem_range.2 c.toNat_lt)
  unfold Z9 cI at h
  rw [h] at this
  simpa using this
def Ym (b : Nat) (ds : List UInt8) : Nat := ds.foldl (fun m c => m * b + dv c.toNat) 0
theorem Kg {b j : Nat} {s : List UInt8} (h : j < s.length) : Ym b (s.take (j + 1)) = Ym b (s.take j) * b + dv (Za s j).toNat := by
  unfold Ym
  rw [List.take_add_one, List.getElem?_eq_getElem h, Zba h, List.foldl_append]
  rfl
theorem Zti {b : Nat} (hb : 1 ≤ b) : ∀ (l : List UInt8) (m : Nat), m ≤ l.foldl (fun m c => m * b + dv c.toNat) m
  | [], m => Nat.le_refl _
  | c :: l, m => Nat.le_trans (Nat.le_trans (Nat.le_mul_of_pos_right m hb) (Nat.le_add_right _ _)) (Zti hb l (m * b + dv c.toNat))
theorem Zim {b j : Nat} (hb : 1 ≤ b) (s : List UInt8) : Ym b (s.take j) ≤ Ym b s := by
  have h := Zti hb (s.drop j) (Ym b (s.take j))
  unfold Ym at h ⊢
  rwa [← List.foldl_append, List.take_append_drop] at h
theorem Zc2 {n : Nat} (h : n < 18446744073709551616) : Zf .u64 (.ofNat n) = .ofNat n := by
  rw [Zhh]
  show ((n : Int)) % 18446744073709551616 = n
  omega
theorem u64w {n : Nat} (h : 18446744073709551616 ≤ n) (h2 : n < 36893488147419103232) : Zf .u64 (.ofNat n) = .ofNat (n - 18446744073709551616) := by
  rw [Zhh]
  show ((n : Int)) % 18446744073709551616 = ((n - 18446744073709551616 : Nat) : Int)
  omega
theorem Jv {n : Nat} (h : Zic n = true) : Xz (.ofNat n) (.ofNat 95) = false ∧ Yc (.ofNat n) (.ofNat 48) = false ∧ Yc (.ofNat 57) (.ofNat n) = false ∧ Zf .u8 (Int.sub (.ofNat n) (.ofNat 48)) = .ofNat (dv n) ∧ dv n < 10 := by
  have h0 := h
  unfold Zic at h
  rw [Bool.and_eq_true, Nat.ble_eq, Nat.ble_eq] at h
  have hd : dv n = n - 48 := by unfold dv; rw [h0]; rfl
  refine ⟨J2 (show ¬ n = 95 by omega), Yg (show ¬ n < 48 by omega), Yg (show ¬ 57 < n by omega), ?_, by omega⟩
  rw [hd, Z25]
  show ((n : Int) - 48) % 256 = ((n - 48 : Nat) : Int)
  omega
theorem Zfs {n : Nat} (h : Zxw n = true) : Xz (.ofNat n) (.ofNat 95) = false ∧ Yc (.ofNat n) (.ofNat 48) = false ∧ Yc (.ofNat 57) (.ofNat n) = true ∧ Yc (Jd (.ofNat n)) (.ofNat 97) = false ∧ Yc (.ofNat 122) (Jd (.ofNat n)) = false ∧ Zf .u8 (Int.add (Zf .u8 (Int.sub (Jd (.ofNat n)) (.ofNat 97))) (.ofNat 10)) = .ofNat (dv n) ∧ dv n < 16 := by
  unfold Zxw at h
  simp only [Bool.and_eq_true, Bool.not_eq_true', Nat.blt_eq] at h
  obtain ⟨h1, h2, h3, h4, h5, h6, h7⟩ := h
  rw [Vt, decide_eq_true_eq] at h6
  exact ⟨h1, h2, h3, h4, h5, h6, h7⟩
def puS : List Nat := [1, 6, 7, 8, 9, 10, 11, 12, 13, 99, 100, 101]
abbrev rowP (s : List UInt8) : AObj := .cells (Zb s) (bT s) 5 (some 1) 0 false true
theorem Vv {keep : List Nat} (s : List UInt8) : ∀ (j : Nat) o o2, [rowP s][j]? = some o → [rowP s][j]? = some o2 → We 0 keep o o2 := Yy fun o ho => by
  obtain rfl := List.mem_singleton.1 ho
  refine ⟨_, _, _, _, _, _, _, rfl, Zck (fun i v h => by simp [Tr.get_nil] at h) fun v hv => ?_⟩
  obtain ⟨b, _, rfl⟩ := List.mem_map.1 hv
  exact Kp _ _
def puV (b cut : Nat) (s : List UInt8) (m j : Nat) : List AV := [.int .i64 (.ofNat b), .int .u64 (.ofNat 0), .nili, .bool false, .str s, .int .u64 (.ofNat cut), .int .u64 (.ofNat 18446744073709551615), .bool false, .int .u64 (.ofNat m), .sl 8 0 (Zb s) none, .int .i64 (.ofNat (Zb s)), .int .i64 (.ofNat j)]
def puW (b cut : Nat) (s : List UInt8) (m j : Nat) : List AV := [.int .i64 (.ofNat b), .int .u64 (.ofNat 18446744073709551615), .iface 81 (.int .i64 (.ofNat 1)), .bool false, .str s, .int .u64 (.ofNat cut), .int .u64 (.ofNat 18446744073709551615), .bool false, .int .u64 (.ofNat m), .sl 8 0 (Zb s) none, .int .i64 (.ofNat (Zb s)), .int .i64 (.ofNat j)]
def Wg : AFunc := (Yb.fn 49).getD default
theorem Z9f : Yb.fn 49 = some Wg := by kernel_rfl
theorem Zmj : flat Wg.body = (flat Wg.body).take 15 ++ .block 3 (.loop (Zc [15, 0] Wg.body)) :: (flat Wg.body).drop 16 := by kernel_rfl
theorem Zfk : Wg.results = [6, 7].map .tmp := by kernel_rfl
theorem Ze5 {s : List UInt8} {j : Nat} (hs : s.length < 4294967296) (h : j < s.length) : Tr.get (bT s) (Yl j) = some (Yp (Za s j)) := by
  rw [Zrs]
  exact Znv (by omega) j _ (by rw [Zba h, List.getElem?_eq_getElem h])
theorem Zph {n : Nat} (h : n < 4294967296) : Zz n 1 = true := by
  unfold Zz
  rw [Bool.or_eq_true, Nat.ble_eq]; left; omega
theorem Z28 {keep : List Nat} : Ww 8 keep = true → ∀ (j : Nat) (o o2 : AObj), ([] : List AObj)[j]? = some o → ([] : List AObj)[j]? = some o2 → We 0 keep o o2 := fun _ => Y3
theorem Z4x (s : List UInt8) : Zh Yb (Xn Yb 3) ((flat Wg.body).take 15) (Z5 8 [1, 6, 7, 8, 9, 10, 11, 12, 13, 99, 100, 101] [(8, [0, 1, 2, 3, 4, 5, 6, 7]), (9, [0, 1, 2, 3, 4, 5, 6, 7, 8])]) (Z8 Wg [.str s, .int .i64 (.ofNat 10), .int .i64 (.ofNat 64)]) (Zs 8 []) (pO 9 270) = bc (leq s []) (none) (bc (Zz (Zb s) 1) (lf .normal 172 ([.int .i64 (.ofNat 10), .int .u64 (.ofNat 0), .nili, .bool false, .str s, .int .u64 (.ofNat 1844674407370955162), .int .u64 (.ofNat 18446744073709551615), .bool false, .int .u64 (.ofNat 0), .sl 8 0 (Zb s) none, .int .i64 (.ofNat (Zb s)), .int .i64 (.ofNat 0)].map some) ([.cells (Zb s) (Tr.putAll Tr.nil 0 (List.map Yp s)) 5 (some 1) 0 false true].map some)) (none)) := by kernel_rfl
theorem Zx2 (s : List UInt8) (l m j : Nat) (T : Tr AV) : Zh Yb (Xn Yb 3) (flat (Zc [15, 0] Wg.body)) (Z5 8 [1, 6, 7, 8, 9, 10, 11, 12, 13, 99, 100, 101] [(9, [0, 1, 2, 3, 4, 5, 6, 7, 8])]) (Zd 172 [1, 6, 7, 8, 9, 10, 11, 12, 13, 99, 100, 101] [.int .i64 (.ofNat 10), .int .u64 (.ofNat 0), .nili, .bool false, .str s, .int .u64 (.ofNat 1844674407370955162), .int .u64 (.ofNat 18446744073709551615), .bool false, .int .u64 (.ofNat m), .sl 8 0 l none, .int .i64 (.ofNat l), .int .i64 (.ofNat j)]) (Zs 8 [.cells l T 5 (some 1) 0 false true]) (pO 12 57) = bc (Nat.blt j l) (bc (Nat.blt j l) (bc (isI .u8 (Tr.get T (Yl j))) (bc (Xz (Ka (Tr.get T (Yl j))) (.ofNat 95)) (none) (bc (!(Yc (Ka (Tr.get T (Yl j))) (.ofNat 48))) (bc (!(Yc (.ofNat 57) (Ka (Tr.get T (Yl j))))) (bc (!(Yc (Zf .u8 (Int.sub (Ka (Tr.get T (Yl j))) (.ofNat 48))) (.ofNat 10))) (none) (bc (!(Nat.blt m 1844674407370955162)) (none) (bc (Yc (Zf .u64 (Int.add (Zf .u64 (.ofNat (Nat.mul m 10))) (Zf .u64 (Zf .u8 (Int.sub (Ka (Tr.get T (Yl j))) (.ofNat 48)))))) (Zf .u64 (.ofNat (Nat.mul m 10)))) (none) (bc (Yc (.ofNat 18446744073709551615) (Zf .u64 (Int.add (Zf .u64 (.ofNat (Nat.mul m 10))) (Zf .u64 (Zf .u8 (Int.sub (Ka (Tr.get T (Yl j))) (.ofNat 48))))))) (none) (lf .normal 172 ([.int .i64 (.ofNat 10), .int .u64 (.ofNat 0), .nili, .bool false, .str s, .int .u64 (.ofNat 1844674407370955162), .int .u64 (.ofNat 18446744073709551615), .bool false, .int .u64 (Zf .u64 (Int.add (Zf .u64 (.ofNat (Nat.mul m 10))) (Zf .u64 (Zf .u8 (Int.sub (Ka (Tr.get T (Yl j))) (.ofNat 48)))))), .sl 8 0 l none, .int .i64 (.ofNat l), .int .i64 (up j)].map some) ([.cells l T 5 (some 1) 0 false true].map some)))))) (none)) (none))) (none)) (none)) (none) := by kernel_rfl
theorem Zv0 (s : List UInt8) (l m j : Nat) (T : Tr AV) : Zh Yb (Xn Yb 3) (flat (Zc [15, 0] Wg.body)) (Z5 8 [1, 6, 7, 8, 9, 10, 11, 12, 13, 99, 100, 101] [(9, [0, 1, 2, 3, 4, 5, 6, 7, 8])]) (Zd 172 [1, 6, 7, 8, 9, 10, 11, 12, 13, 99, 100, 101] [.int .i64 (.ofNat 10), .int .u64 (.ofNat 0), .nili, .bool false, .str s, .int .u64 (.ofNat 1844674407370955162), .int .u64 (.ofNat 18446744073709551615), .bool false, .int .u64 (.ofNat m), .sl 8 0 l none, .int .i64 (.ofNat l), .int .i64 (.ofNat j)]) (Zs 8 [.cells l T 5 (some 1) 0 false true]) (pO 8 185) = bc (Nat.blt j l) (bc (Nat.blt j l) (bc (isI .u8 (Tr.get T (Yl j))) (bc (Xz (Ka (Tr.get T (Yl j))) (.ofNat 95)) (none) (bc (!(Yc (Ka (Tr.get T (Yl j))) (.ofNat 48))) (bc (!(Yc (.ofNat 57) (Ka (Tr.get T (Yl j))))) (bc (!(Yc (Zf .u8 (Int.sub (Ka (Tr.get T (Yl j))) (.ofNat 48))) (.ofNat 10))) (none) (bc (!(Nat.blt m 1844674407370955162)) (lf .ret 172 ([.int .i64 (.ofNat 10), .int .u64 (.ofNat 18446744073709551615), .iface 81 (.int .i64 (.ofNat 1)), .bool false, .str s, .int .u64 (.ofNat 1844674407370955162), .int .u64 (.ofNat 18446744073709551615), .bool false, .int .u64 (.ofNat m), .sl 8 0 l none, .int .i64 (.ofNat l), .int .i64 (.ofNat j)].map some) ([.cells l T 5 (some 1) 0 false true].map some)) (none))) (none)) (none))) (none)) (none)) (none) := by kernel_rfl
theorem Zvg (s : List UInt8) (l m j : Nat) (T : Tr AV) : Zh Yb (Xn Yb 3) (flat (Zc [15, 0] Wg.body)) (Z5 8 [1, 6, 7, 8, 9, 10, 11, 12, 13, 99, 100, 101] [(9, [0, 1, 2, 3, 4, 5, 6, 7, 8])]) (Zd 172 [1, 6, 7, 8, 9, 10, 11, 12, 13, 99, 100, 101] [.int .i64 (.ofNat 10), .int .u64 (.ofNat 0), .nili, .bool false, .str s, .int .u64 (.ofNat 1844674407370955162), .int .u64 (.ofNat 18446744073709551615), .bool false, .int .u64 (.ofNat m), .sl 8 0 l none, .int .i64 (.ofNat l), .int .i64 (.ofNat j)]) (Zs 8 [.cells l T 5 (some 1) 0 false true]) (pO 12 3897) = bc (Nat.blt j l) (bc (Nat.blt j l) (bc (isI .u8 (Tr.get T (Yl j))) (bc (Xz (Ka (Tr.get T (Yl j))) (.ofNat 95)) (none) (bc (!(Yc (Ka (Tr.get T (Yl j))) (.ofNat 48))) (bc (!(Yc (.ofNat 57) (Ka (Tr.get T (Yl j))))) (bc (!(Yc (Zf .u8 (Int.sub (Ka (Tr.get T (Yl j))) (.ofNat 48))) (.ofNat 10))) (none) (bc (!(Nat.blt m 1844674407370955162)) (none) (bc (Yc (Zf .u64 (Int.add (Zf .u64 (.ofNat (Nat.mul m 10))) (Zf .u64 (Zf .u8 (Int.sub (Ka (Tr.get T (Yl j))) (.ofNat 48)))))) (Zf .u64 (.ofNat (Nat.mul m 10)))) (lf .ret 172 ([.int .i64 (.ofNat 10), .int .u64 (.ofNat 18446744073709551615), .iface 81 (.int .i64 (.ofNat 1)), .bool false, .str s, .int .u64 (.ofNat 1844674407370955162), .int .u64 (.ofNat 18446744073709551615), .bool false, .int .u64 (Zf .u64 (.ofNat (Nat.mul m 10))), .sl 8 0 l none, .int .i64 (.ofNat l), .int .i64 (.ofNat j)].map some) ([.cells l T 5 (some 1) 0 false true].map some)) (none)))) (none)) (none))) (none)) (none)) (none) := by kernel_rfl
theorem Z4n (s : List UInt8) (l m j : Nat) (T : Tr AV) : Zh Yb (Xn Yb 3) (flat (Zc [15, 0] Wg.body)) (Z5 8 [1, 6, 7, 8, 9, 10, 11, 12, 13, 99, 100, 101] [(9, [0, 1, 2, 3, 4, 5, 6, 7, 8])]) (Zd 172 [1, 6, 7, 8, 9, 10, 11, 12, 13, 99, 100, 101] [.int .i64 (.ofNat 10), .int .u64 (.ofNat 0), .nili, .bool false, .str s, .int .u64 (.ofNat 1844674407370955162), .int .u64 (.ofNat 18446744073709551615), .bool false, .int .u64 (.ofNat m), .sl 8 0 l none, .int .i64 (.ofNat l), .int .i64 (.ofNat j)]) (Zs 8 [.cells l T 5 (some 1) 0 false true]) (pO 1 0) = bc (Nat.blt j l) (none) (lf (.exit 3) 172 ([.int .i64 (.ofNat 10), .int .u64 (.ofNat 0), .nili, .bool false, .str s, .int .u64 (.ofNat 1844674407370955162), .int .u64 (.ofNat 18446744073709551615), .bool false, .int .u64 (.ofNat m), .sl 8 0 l none, .int .i64 (.ofNat l), .int .i64 (.ofNat j)].map some) ([.cells l T 5 (some 1) 0 false true].map some)) := by kernel_rfl
theorem Z0o (s : List UInt8) (l m j : Nat) (T : Tr AV) : Zh Yb (Xn Yb 3) ((flat Wg.body).drop 16) (Z5 8 [6, 7] [(9, [0, 1, 2, 3, 4, 5, 6, 7])]) (Zd 172 [1, 6, 7, 8, 9, 10, 11, 12, 13, 99, 100, 101] [.int .i64 (.ofNat 10), .int .u64 (.ofNat 0), .nili, .bool false, .str s, .int .u64 (.ofNat 1844674407370955162), .int .u64 (.ofNat 18446744073709551615), .bool false, .int .u64 (.ofNat m), .sl 8 0 l none, .int .i64 (.ofNat l), .int .i64 (.ofNat j)]) (Zs 8 [.cells l T 5 (some 1) 0 false true]) (pO 4 0) = lf .ret 172 ([.int .u64 (.ofNat m), .nili].map some) ([].map some) := by kernel_rfl
theorem Z0a (s : List UInt8) : Zh Yb (Xn Yb 3) ((flat Wg.body).take 15) (Z5 8 [1, 6, 7, 8, 9, 10, 11, 12, 13, 99, 100, 101] [(8, [0, 1, 2, 3, 4, 5, 6, 7]), (9, [0, 1, 2, 3, 4, 5, 6, 7, 8])]) (Z8 Wg [.str s, .int .i64 (.ofNat 16), .int .i64 (.ofNat 64)]) (Zs 8 []) (pO 10 526) = bc (leq s []) (none) (bc (Zz (Zb s) 1) (lf .normal 172 ([.int .i64 (.ofNat 16), .int .u64 (.ofNat 0), .nili, .bool false, .str s, .int .u64 (.ofNat 1152921504606846976), .int .u64 (.ofNat 18446744073709551615), .bool false, .int .u64 (.ofNat 0), .sl 8 0 (Zb s) none, .int .i64 (.ofNat (Zb s)), .int .i64 (.ofNat 0)].map some) ([.cells (Zb s) (Tr.putAll Tr.nil 0 (List.map Yp s)) 5 (some 1) 0 false true].map some)) (none)) := by kernel_rfl
theorem Zwo (s : List UInt8) (l m j : Nat) (T : Tr AV) : Zh Yb (Xn Yb 3) (flat (Zc [15, 0] Wg.body)) (Z5 8 [1, 6, 7, 8, 9, 10, 11, 12, 13, 99, 100, 101] [(9, [0, 1, 2, 3, 4, 5, 6, 7, 8])]) (Zd 172 [1, 6, 7, 8, 9, 10, 11, 12, 13, 99, 100, 101] [.int .i64 (.ofNat 16), .int .u64 (.ofNat 0), .nili, .bool false, .str s, .int .u64 (.ofNat 1152921504606846976), .int .u64 (.ofNat 18446744073709551615), .bool false, .int .u64 (.ofNat m), .sl 8 0 l none, .int .i64 (.ofNat l), .int .i64 (.ofNat j)]) (Zs 8 [.cells l T 5 (some 1) 0 false true]) (pO 12 57) = bc (Nat.blt j l) (bc (Nat.blt j l) (bc (isI .u8 (Tr.get T (Yl j))) (bc (Xz (Ka (Tr.get T (Yl j))) (.ofNat 95)) (none) (bc (!(Yc (Ka (Tr.get T (Yl j))) (.ofNat 48))) (bc (!(Yc (.ofNat 57) (Ka (Tr.get T (Yl j))))) (bc (!(Yc (Zf .u8 (Int.sub (Ka (Tr.get T (Yl j))) (.ofNat 48))) (.ofNat 16))) (none) (bc (!(Nat.blt m 1152921504606846976)) (none) (bc (Yc (Zf .u64 (Int.add (Zf .u64 (.ofNat (Nat.mul m 16))) (Zf .u64 (Zf .u8 (Int.sub (Ka (Tr.get T (Yl j))) (.ofNat 48)))))) (Zf .u64 (.ofNat (Nat.mul m 16)))) (none) (bc (Yc (.ofNat 18446744073709551615) (Zf .u64 (Int.add (Zf .u64 (.ofNat (Nat.mul m 16))) (Zf .u64 (Zf .u8 (Int.sub (Ka (Tr.get T (Yl j))) (.ofNat 48))))))) (none) (lf .normal 172 ([.int .i64 (.ofNat 16), .int .u64 (.ofNat 0), .nili, .bool false, .str s, .int .u64 (.ofNat 1152921504606846976), .int .u64 (.ofNat 18446744073709551615), .bool false, .int .u64 (Zf .u64 (Int.add (Zf .u64 (.ofNat (Nat.mul m 16))) (Zf .u64 (Zf .u8 (Int.sub (Ka (Tr.get T (Yl j))) (.ofNat 48)))))), .sl 8 0 l none, .int .i64 (.ofNat l), .int .i64 (up j)].map some) ([.cells l T 5 (some 1) 0 false true].map some)))))) (none)) (none))) (none)) (none)) (none) := by kernel_rfl
theorem Zwv (s : List UInt8) (l m j : Nat) (T : Tr AV) : Zh Yb (Xn Yb 3) (flat (Zc [15, 0] Wg.body)) (Z5 8 [1, 6, 7, 8, 9, 10, 11, 12, 13, 99, 100, 101] [(9, [0, 1, 2, 3, 4, 5, 6, 7, 8])]) (Zd 172 [1, 6, 7, 8, 9, 10, 11, 12, 13, 99, 100, 101] [.int .i64 (.ofNat 16), .int .u64 (.ofNat 0), .nili, .bool false, .str s, .int .u64 (.ofNat 1152921504606846976), .int .u64 (.ofNat 18446744073709551615), .bool false, .int .u64 (.ofNat m), .sl 8 0 l none, .int .i64 (.ofNat l), .int .i64 (.ofNat j)]) (Zs 8 [.cells l T 5 (some 1) 0 false true]) (pO 16 985) = bc (Nat.blt j l) (bc (Nat.blt j l) (bc (isI .u8 (Tr.get T (Yl j))) (bc (Xz (Ka (Tr.get T (Yl j))) (.ofNat 95)) (none) (bc (!(Yc (Ka (Tr.get T (Yl j))) (.ofNat 48))) (bc (!(Yc (.ofNat 57) (Ka (Tr.get T (Yl j))))) (none) (bc (!(Yc (Jd (Ka (Tr.get T (Yl j)))) (.ofNat 97))) (bc (!(Yc (.ofNat 122) (Jd (Ka (Tr.get T (Yl j)))))) (bc (!(Yc (Zf .u8 (Int.add (Zf .u8 (Int.sub (Jd (Ka (Tr.get T (Yl j)))) (.ofNat 97))) (.ofNat 10))) (.ofNat 16))) (none) (bc (!(Nat.blt m 1152921504606846976)) (none) (bc (Yc (Zf .u64 (Int.add (Zf .u64 (.ofNat (Nat.mul m 16))) (Zf .u64 (Zf .u8 (Int.add (Zf .u8 (Int.sub (Jd (Ka (Tr.get T (Yl j)))) (.ofNat 97))) (.ofNat 10)))))) (Zf .u64 (.ofNat (Nat.mul m 16)))) (none) (bc (Yc (.ofNat 18446744073709551615) (Zf .u64 (Int.add (Zf .u64 (.ofNat (Nat.mul m 16))) (Zf .u64 (Zf .u8 (Int.add (Zf .u8 (Int.sub (Jd (Ka (Tr.get T (Yl j)))) (.ofNat 97))) (.ofNat 10))))))) (none) (lf .normal 172 ([.int .i64 (.ofNat 16), .int .u64 (.ofNat 0), .nili, .bool false, .str s, .int .u64 (.ofNat 1152921504606846976), .int .u64 (.ofNat 18446744073709551615), .bool false, .int .u64 (Zf .u64 (Int.add (Zf .u64 (.ofNat (Nat.mul m 16))) (Zf .u64 (Zf .u8 (Int.add (Zf .u8 (Int.sub (Jd (Ka (Tr.get T (Yl j)))) (.ofNat 97))) (.ofNat 10)))))), .sl 8 0 l none, .int .i64 (.ofNat l), .int .i64 (up j)].map some) ([.cells l T 5 (some 1) 0 false true].map some)))))) (none)) (none))) (none))) (none)) (none)) (none) := by kernel_rfl
theorem Zw8 (s : List UInt8) (l m j : Nat) (T : Tr AV) : Zh Yb (Xn Yb 3) (flat (Zc [15, 0] Wg.body)) (Z5 8 [1, 6, 7, 8, 9, 10, 11, 12, 13, 99, 100, 101] [(9, [0, 1, 2, 3, 4, 5, 6, 7, 8])]) (Zd 172 [1, 6, 7, 8, 9, 10, 11, 12, 13, 99, 100, 101] [.int .i64 (.ofNat 16), .int .u64 (.ofNat 0), .nili, .bool false, .str s, .int .u64 (.ofNat 1152921504606846976), .int .u64 (.ofNat 18446744073709551615), .bool false, .int .u64 (.ofNat m), .sl 8 0 l none, .int .i64 (.ofNat l), .int .i64 (.ofNat j)]) (Zs 8 [.cells l T 5 (some 1) 0 false true]) (pO 8 185) = bc (Nat.blt j l) (bc (Nat.blt j l) (bc (isI .u8 (Tr.get T (Yl j))) (bc (Xz (Ka (Tr.get T (Yl j))) (.ofNat 95)) (none) (bc (!(Yc (Ka (Tr.get T (Yl j))) (.ofNat 48))) (bc (!(Yc (.ofNat 57) (Ka (Tr.get T (Yl j))))) (bc (!(Yc (Zf .u8 (Int.sub (Ka (Tr.get T (Yl j))) (.ofNat 48))) (.ofNat 16))) (none) (bc (!(Nat.blt m 1152921504606846976)) (lf .ret 172 ([.int .i64 (.ofNat 16), .int .u64 (.ofNat 18446744073709551615), .iface 81 (.int .i64 (.ofNat 1)), .bool false, .str s, .int .u64 (.ofNat 1152921504606846976), .int .u64 (.ofNat 18446744073709551615), .bool false, .int .u64 (.ofNat m), .sl 8 0 l none, .int .i64 (.ofNat l), .int .i64 (.ofNat j)].map some) ([.cells l T 5 (some 1) 0 false true].map some)) (none))) (none)) (none))) (none)) (none)) (none) := by kernel_rfl
theorem Zvn (s : List UInt8) (l m j : Nat) (T : Tr AV) : Zh Yb (Xn Yb 3) (flat (Zc [15, 0] Wg.body)) (Z5 8 [1, 6, 7, 8, 9, 10, 11, 12, 13, 99, 100, 101] [(9, [0, 1, 2, 3, 4, 5, 6, 7, 8])]) (Zd 172 [1, 6, 7, 8, 9, 10, 11, 12, 13, 99, 100, 101] [.int .i64 (.ofNat 16), .int .u64 (.ofNat 0), .nili, .bool false, .str s, .int .u64 (.ofNat 1152921504606846976), .int .u64 (.ofNat 18446744073709551615), .bool false, .int .u64 (.ofNat m), .sl 8 0 l none, .int .i64 (.ofNat l), .int .i64 (.ofNat j)]) (Zs 8 [.cells l T 5 (some 1) 0 false true]) (pO 12 3033) = bc (Nat.blt j l) (bc (Nat.blt j l) (bc (isI .u8 (Tr.get T (Yl j))) (bc (Xz (Ka (Tr.get T (Yl j))) (.ofNat 95)) (none) (bc (!(Yc (Ka (Tr.get T (Yl j))) (.ofNat 48))) (bc (!(Yc (.ofNat 57) (Ka (Tr.get T (Yl j))))) (none) (bc (!(Yc (Jd (Ka (Tr.get T (Yl j)))) (.ofNat 97))) (bc (!(Yc (.ofNat 122) (Jd (Ka (Tr.get T (Yl j)))))) (bc (!(Yc (Zf .u8 (Int.add (Zf .u8 (Int.sub (Jd (Ka (Tr.get T (Yl j)))) (.ofNat 97))) (.ofNat 10))) (.ofNat 16))) (none) (bc (!(Nat.blt m 1152921504606846976)) (lf .ret 172 ([.int .i64 (.ofNat 16), .int .u64 (.ofNat 18446744073709551615), .iface 81 (.int .i64 (.ofNat 1)), .bool false, .str s, .int .u64 (.ofNat 1152921504606846976), .int .u64 (.ofNat 18446744073709551615), .bool false, .int .u64 (.ofNat m), .sl 8 0 l none, .int .i64 (.ofNat l), .int .i64 (.ofNat j)].map some) ([.cells l T 5 (some 1) 0 false true].map some)) (none))) (none)) (none))) (none))) (none)) (none)) (none) := by kernel_rfl
theorem Z4k (s : List UInt8) (l m j : Nat) (T : Tr AV) : Zh Yb (Xn Yb 3) (flat (Zc [15, 0] Wg.body)) (Z5 8 [1, 6, 7, 8, 9, 10, 11, 12, 13, 99, 100, 101] [(9, [0, 1, 2, 3, 4, 5, 6, 7, 8])]) (Zd 172 [1, 6, 7, 8, 9, 10, 11, 12, 13, 99, 100, 101] [.int .i64 (.ofNat 16), .int .u64 (.ofNat 0), .nili, .bool false, .str s, .int .u64 (.ofNat 1152921504606846976), .int .u64 (.ofNat 18446744073709551615), .bool false, .int .u64 (.ofNat m), .sl 8 0 l none, .int .i64 (.ofNat l), .int .i64 (.ofNat j)]) (Zs 8 [.cells l T 5 (some 1) 0 false true]) (pO 1 0) = bc (Nat.blt j l) (none) (lf (.exit 3) 172 ([.int .i64 (.ofNat 16), .int .u64 (.ofNat 0), .nili, .bool false, .str s, .int .u64 (.ofNat 1152921504606846976), .int .u64 (.ofNat 18446744073709551615), .bool false, .int .u64 (.ofNat m), .sl 8 0 l none, .int .i64 (.ofNat l), .int .i64 (.ofNat j)].map some) ([.cells l T 5 (some 1) 0 false true].map some)) := by kernel_rfl
theorem Z2w (s : List UInt8) (l m j : Nat) (T : Tr AV) : Zh Yb (Xn Yb 3) ((flat Wg.body).drop 16) (Z5 8 [6, 7] [(9, [0, 1, 2, 3, 4, 5, 6, 7])]) (Zd 172 [1, 6, 7, 8, 9, 10, 11, 12, 13, 99, 100, 101] [.int .i64 (.ofNat 16), .int .u64 (.ofNat 0), .nili, .bool false, .str s, .int .u64 (.ofNat 1152921504606846976), .int .u64 (.ofNat 18446744073709551615), .bool false, .int .u64 (.ofNat m), .sl 8 0 l none, .int .i64 (.ofNat l), .int .i64 (.ofNat j)]) (Zs 8 [.cells l T 5 (some 1) 0 false true]) (pO 4 0) = lf .ret 172 ([.int .u64 (.ofNat m), .nili].map some) ([].map some) := by kernel_rfl
theorem Z8n {s : List UInt8} {m j : Nat} (hs : s.length < 4294967296) (h : j < s.length) (hd : Zic (Za s j).toNat = true) (hv : m * 10 + dv (Za s j).toNat < 18446744073709551616) : Zh Yb (Xn Yb 3) (flat (Zc [15, 0] Wg.body)) (Z5 8 puS [(9, [0, 1, 2, 3, 4, 5, 6, 7, 8])]) (Zd 172 puS (puV 10 1844674407370955162 s m j)) (Zs 8 [rowP s]) (pO 12 57) = lf .normal 172 ((puV 10 1844674407370955162 s (m * 10 + dv (Za s j).toNat) (j + 1)).map some) ([rowP s].map some) := by
  have g := Ze5 hs h
  obtain ⟨d1, d2, d3, d4, d5⟩ := Jv hd
  refine (Zx2 s (Zb s) m j (bT s)).trans ?_
  have e1 : Yc (.ofNat (dv (Za s j).toNat)) (.ofNat 10) = true := Zm (by omega)
  have e2 : Nat.blt m 1844674407370955162 = true := Zm (by omega)
  have e3 : Zf .u64 (.ofNat (Nat.mul m 10)) = .ofNat (m * 10) := Zc2 (show m * 10 < _ by omega)
  have e4 : Zf .u64 (.ofNat (dv (Za s j).toNat)) = .ofNat (dv (Za s j).toNat) := Zc2 (by omega)
  have e5 : Zf .u64 (Int.add (.ofNat (m * 10)) (.ofNat (dv (Za s j).toNat))) = .ofNat (m * 10 + dv (Za s j).toNat) := Zc2 (n := m * 10 + dv (Za s j).toNat) hv
  have e6 : Yc (.ofNat (m * 10 + dv (Za s j).toNat)) (.ofNat (m * 10)) = false := Yg (by omega)
  have e7 : Yc (.ofNat 18446744073709551615) (.ofNat (m * 10 + dv (Za s j).toNat)) = false := Yg (by omega)
  rw [Zm (show j < Zb s from h), g, Kw, K4, d1, d2, d3, d4, e1, e2, e3, e4, e5, e6, e7, Yv (by omega)]
  rfl
theorem Z82 {s : List UInt8} {m j : Nat} (hs : s.length < 4294967296) (h : j < s.length) (hd : Zic (Za s j).toNat = true) (hv : ¬ m < 1844674407370955162) : ∃ m', Zh Yb (Xn Yb 3) (flat (Zc [15, 0] Wg.body)) (Z5 8 puS [(9, [0, 1, 2, 3, 4, 5, 6, 7, 8])]) (Zd 172 puS (puV 10 1844674407370955162 s m j)) (Zs 8 [rowP s]) (pO 8 185) = lf .ret 172 ((puW 10 1844674407370955162 s m' j).map some) ([rowP s].map some) := by
  have g := Ze5 hs h
  obtain ⟨d1, d2, d3, d4, d5⟩ := Jv hd
  refine ⟨m, (Zv0 s (Zb s) m j (bT s)).trans ?_⟩
  have e1 : Yc (.ofNat (dv (Za s j).toNat)) (.ofNat 10) = true := Zm (by omega)
  have e2 : Nat.blt m 1844674407370955162 = false := Yg hv
  rw [Zm (show j < Zb s from h), g, Kw, K4, d1, d2, d3, d4, e1, e2]
  rfl
theorem Z7u {s : List UInt8} {m j : Nat} (hs : s.length < 4294967296) (h : j < s.length) (hd : Zic (Za s j).toNat = true) (h3 : m < 1844674407370955162) (hv : ¬ m * 10 + dv (Za s j).toNat < 18446744073709551616) : ∃ m', Zh Yb (Xn Yb 3) (flat (Zc [15, 0] Wg.body)) (Z5 8 puS [(9, [0, 1, 2, 3, 4, 5, 6, 7, 8])]) (Zd 172 puS (puV 10 1844674407370955162 s m j)) (Zs 8 [rowP s]) (pO 12 3897) = lf .ret 172 ((puW 10 1844674407370955162 s m' j).map some) ([rowP s].map some) := by
  have g := Ze5 hs h
  obtain ⟨d1, d2, d3, d4, d5⟩ := Jv hd
  refine ⟨m * 10, (Zvg s (Zb s) m j (bT s)).trans ?_⟩
  have e1 : Yc (.ofNat (dv (Za s j).toNat)) (.ofNat 10) = true := Zm (by omega)
  have e2 : Nat.blt m 1844674407370955162 = true := Zm h3
  have e3 : Zf .u64 (.ofNat (Nat.mul m 10)) = .ofNat (m * 10) := Zc2 (show m * 10 < _ by omega)
  have e4 : Zf .u64 (.ofNat (dv (Za s j).toNat)) = .ofNat (dv (Za s j).toNat) := Zc2 (by omega)
  have e5 : Zf .u64 (Int.add (.ofNat (m * 10)) (.ofNat (dv (Za s j).toNat))) = .ofNat (m * 10 + dv (Za s j).toNat - 18446744073709551616) := u64w (n := m * 10 + dv (Za s j).toNat) (by omega) (by omega)
  have e6 : Yc (.ofNat (m * 10 + dv (Za s j).toNat - 18446744073709551616)) (.ofNat (m * 10)) = true := Zm (by omega)
  rw [Zm (show j < Zb s from h), g, Kw, K4, d1, d2, d3, d4, e1, e2, e3, e4, e5, e6]
  rfl
section
variable {P : Program} {I : List MEnt → AHeap → World → Prop} {ro : Option Nat}
theorem Z46 (hE : EnvOk Yb P I) (hI : Carried I) {s : List UInt8} (h1 : 1 ≤ s.length) (hs : s.length < 4294967296) (hc : ∀ j, j < s.length → Z1 (Za s j) = true) : Yk Yb P I ro Wg.body (Z8 Wg [.str s, .int .i64 (.ofNat 10), .int .i64 (.ofNat 64)]) (Zs 8 []) fun e fr H => (e = .normal ∨ e = .ret) ∧ fr.df = [] ∧ ∃ l, Xm Yb fr.t H Wg.results = some l ∧ Vf (Ja l) = bif Nat.blt (Ym 10 s) 18446744073709551616 then .tup [.int .u64 (.ofNat (Ym 10 s)), .nili] else .tup [.int .u64 (.ofNat 18446744073709551615), .iface 81 (.int .i64 (.ofNat 1))] := by
  have hl : Zb s = s.length := rfl
  have hn : leq s [] = false := by
    cases s with
    | nil => simp at h1
    | cons c s => rfl
  refine Z0 _ ?_
  rw [Zmj]
  refine Zg.leafPX hE hI (Vg Yb 3) (vs := puV 10 1844674407370955162 s 0 0) (os := [rowP s]) (os2 := [rowP s]) ((Z4x s).trans (by rw [hn, Zph (show Zb s < _ from hs)]; rfl)) (by decide) rfl (fun _ _ => Vv s) (.inl ⟨rfl, ?_⟩)
  refine Yk.mono (Yk.block (Q := fun e fr H => (e = .normal ∧ Ym 10 s < 18446744073709551616 ∧ ∃ keep, Ren 8 keep fr H (Zd 172 puS (puV 10 1844674407370955162 s (Ym 10 s) s.length)) (Zs 8 [rowP s])) ∨ (e = .ret ∧ 18446744073709551616 ≤ Ym 10 s ∧ fr.df = [] ∧ Xm Yb fr.t H Wg.results = some [.int .u64 (.ofNat 18446744073709551615), .iface 81 (.int .i64 (.ofNat 1))])) (Yk.loop (X := Nat × Nat) (fr := fun x => Zd 172 puS (puV 10 1844674407370955162 s x.1 x.2)) (H := fun _ => Zs 8 [rowP s]) (Inv := fun x => x.2 ≤ s.length ∧ x.1 = Ym 10 (s.take x.2) ∧ x.1 < 18446744073709551616) (fun x => s.length - x.2) hI ?_ (0, 0) ⟨Nat.zero_le _, rfl, by decide⟩)) ?_
  · rintro ⟨m, j⟩ ⟨i1, i2, i3⟩
    simp only at i1 i2 i3
    refine Z0 _ ?_
    have over : ∀ {m' : Nat} {o : Wh}, Zh Yb (Xn Yb 3) (flat (Zc [15, 0] Wg.body)) (Z5 8 puS [(9, [0, 1, 2, 3, 4, 5, 6, 7, 8])]) (Zd 172 puS (puV 10 1844674407370955162 s m j)) (Zs 8 [rowP s]) o = lf .ret 172 ((puW 10 1844674407370955162 s m' j).map some) ([rowP s].map some) → 18446744073709551616 ≤ Ym 10 s → Zg Yb P I ro (flat (Zc [15, 0] Wg.body)) (Zd 172 puS (puV 10 1844674407370955162 s m j)) (Zs 8 [rowP s]) fun e fr' H' => (e = .normal ∧ ∃ (x' : Nat × Nat) (keep : List Nat), (x'.2 ≤ s.length ∧ x'.1 = Ym 10 (s.take x'.2) ∧ x'.1 < 18446744073709551616) ∧ s.length - x'.2 < s.length - j ∧ Ren 8 keep fr' H' (Zd 172 puS (puV 10 1844674407370955162 s x'.1 x'.2)) (Zs 8 [rowP s])) ∨ (e ≠ .normal ∧ ((Zhz 3 e = .normal ∧ Ym 10 s < 18446744073709551616 ∧ ∃ keep, Ren 8 keep fr' H' (Zd 172 puS (puV 10 1844674407370955162 s (Ym 10 s) s.length)) (Zs 8 [rowP s])) ∨ (Zhz 3 e = .ret ∧ 18446744073709551616 ≤ Ym 10 s ∧ fr'.df = [] ∧ Xm Yb fr'.t H' Wg.results = some [.int .u64 (.ofNat 18446744073709551615), .iface 81 (.int .i64 (.ofNat 1))]))) := fun e h2 => Zg.leafPC hE (Vg Yb 3) e (by decide) rfl (fun _ _ => Vv s) fun fr' H' keep r => .inr ⟨(by intro h; cases h), .inr ⟨rfl, h2, r.df.1, by
      rw [Zfk]
      exact Va r (l := [.int .u64 (.ofNat 18446744073709551615), .iface 81 (.int .i64 (.ofNat 1))]) rfl rfl⟩⟩
    by_cases h : j < s.length
    · clear h1 hn
      have hd := Ztn (hc j h)
      by_cases h3 : m < 1844674407370955162
      · by_cases h4 : m * 10 + dv (Za s j).toNat < 18446744073709551616
        · exact Zg.leafPC hE (Vg Yb 3) (Z8n hs h hd h4) (by decide) rfl (fun _ _ => Vv s) fun fr' H' keep r => .inl ⟨rfl, (m * 10 + dv (Za s j).toNat, j + 1), keep, ⟨h, by rw [Kg h, i2], h4⟩, by simp only; omega, r⟩
        · obtain ⟨m', e⟩ := Z7u hs h hd h3 h4
          exact over e (Nat.le_trans (show _ ≤ Ym 10 (s.take (j + 1)) by rw [Kg h, ← i2]; omega) (Zim (by decide) s))
      · obtain ⟨m', e⟩ := Z82 hs h hd h3
        exact over e (Nat.le_trans (show _ ≤ Ym 10 (s.take (j + 1)) by rw [Kg h, ← i2]; omega) (Zim (by decide) s))
    · obtain rfl : j = s.length := by omega
      rw [List.take_length] at i2
      subst i2
      refine Zg.leafPC hE (Vg Yb 3) (vs := puV 10 1844674407370955162 s (Ym 10 s) s.length) (os := [rowP s]) (os2 := [rowP s]) ((Z4n s (Zb s) (Ym 10 s) s.length (bT s)).trans (by rw [Yg (show ¬ s.length < Zb s by omega)]; rfl)) (by decide) rfl (fun _ _ => Vv s) fun fr' H' keep r => .inr ⟨(by intro h; cases h), .inl ⟨rfl, i3, keep, r⟩⟩
  · rintro e fr H (⟨rfl, hv, keep, r⟩ | ⟨rfl, hv, h2, h3⟩)
    · refine .inl ⟨rfl, Zg.ren hI r ?_⟩
      refine Zg.leafPC hE (Vg Yb 3) (vs := [.int .u64 (.ofNat (Ym 10 s)), .nili]) (os := []) (os2 := []) (Z0o s (Zb s) (Ym 10 s) s.length (bT s)) (by decide) rfl (fun _ => Z28) fun fr' H' keep r => ⟨.inr rfl, r.df.1, [.int .u64 (.ofNat (Ym 10 s)), .nili], ?_, ?_⟩
      · rw [Zfk]; exact Va r rfl rfl
      · rw [Zm hv]; rfl
    · refine .inr ⟨(by intro h; cases h), .inr rfl, h2, _, h3, ?_⟩
      rw [Yg (by omega)]; rfl
end
theorem Z9d {s : List UInt8} {m j : Nat} (hs : s.length < 4294967296) (h : j < s.length) (hd : Zic (Za s j).toNat = true) (hv : m * 16 + dv (Za s j).toNat < 18446744073709551616) : Zh Yb (Xn Yb 3) (flat (Zc [15, 0] Wg.body)) (Z5 8 puS [(9, [0, 1, 2, 3, 4, 5, 6, 7, 8])]) (Zd 172 puS (puV 16 1152921504606846976 s m j)) (Zs 8 [rowP s]) (pO 12 57) = lf .normal 172 ((puV 16 1152921504606846976 s (m * 16 + dv (Za s j).toNat) (j + 1)).map some) ([rowP s].map some) := by
  have g := Ze5 hs h
  obtain ⟨d1, d2, d3, d4, d5⟩ := Jv hd
  refine (Zwo s (Zb s) m j (bT s)).trans ?_
  have e1 : Yc (.ofNat (dv (Za s j).toNat)) (.ofNat 16) = true := Zm (by omega)
  have e2 : Nat.blt m 1152921504606846976 = true := Zm (by omega)
  have e3 : Zf .u64 (.ofNat (Nat.mul m 16)) = .ofNat (m * 16) := Zc2 (show m * 16 < _ by omega)
  have e4 : Zf .u64 (.ofNat (dv (Za s j).toNat)) = .ofNat (dv (Za s j).toNat) := Zc2 (by omega)
  have e5 : Zf .u64 (Int.add (.ofNat (m * 16)) (.ofNat (dv (Za s j).toNat))) = .ofNat (m * 16 + dv (Za s j).toNat) := Zc2 (n := m * 16 + dv (Za s j).toNat) hv
  have e6 : Yc (.ofNat (m * 16 + dv (Za s j).toNat)) (.ofNat (m * 16)) = false := Yg (by omega)
  have e7 : Yc (.ofNat 18446744073709551615) (.ofNat (m * 16 + dv (Za s j).toNat)) = false := Yg (by omega)
  rw [Zm (show j < Zb s from h), g, Kw, K4, d1, d2, d3, d4, e1, e2, e3, e4, e5, e6, e7, Yv (by omega)]
  rfl
theorem Z7a {s : List UInt8} {m j : Nat} (hs : s.length < 4294967296) (h : j < s.length) (hd : Zic (Za s j).toNat = true) (hv : ¬ m < 1152921504606846976) : ∃ m', Zh Yb (Xn Yb 3) (flat (Zc [15, 0] Wg.body)) (Z5 8 puS [(9, [0, 1, 2, 3, 4, 5, 6, 7, 8])]) (Zd 172 puS (puV 16 1152921504606846976 s m j)) (Zs 8 [rowP s]) (pO 8 185) = lf .ret 172 ((puW 16 1152921504606846976 s m' j).map some) ([rowP s].map some) := by
  have g := Ze5 hs h
  obtain ⟨d1, d2, d3, d4, d5⟩ := Jv hd
  refine ⟨m, (Zw8 s (Zb s) m j (bT s)).trans ?_⟩
  have e1 : Yc (.ofNat (dv (Za s j).toNat)) (.ofNat 16) = true := Zm (by omega)
  have e2 : Nat.blt m 1152921504606846976 = false := Yg hv
  rw [Zm (show j < Zb s from h), g, Kw, K4, d1, d2, d3, d4, e1, e2]
  rfl
theorem Z6d {s : List UInt8} {m j : Nat} (hs : s.length < 4294967296) (h : j < s.length) (hd : Zxw (Za s j).toNat = true) (hv : m * 16 + dv (Za s j).toNat < 18446744073709551616) : Zh Yb (Xn Yb 3) (flat (Zc [15, 0] Wg.body)) (Z5 8 puS [(9, [0, 1, 2, 3, 4, 5, 6, 7, 8])]) (Zd 172 puS (puV 16 1152921504606846976 s m j)) (Zs 8 [rowP s]) (pO 16 985) = lf .normal 172 ((puV 16 1152921504606846976 s (m * 16 + dv (Za s j).toNat) (j + 1)).map some) ([rowP s].map some) := by
  have g := Ze5 hs h
  obtain ⟨d1, d2, d3, d6, d7, d4, d5⟩ := Zfs hd
  refine (Zwv s (Zb s) m j (bT s)).trans ?_
  have e1 : Yc (.ofNat (dv (Za s j).toNat)) (.ofNat 16) = true := Zm (by omega)
  have e2 : Nat.blt m 1152921504606846976 = true := Zm (by omega)
  have e3 : Zf .u64 (.ofNat (Nat.mul m 16)) = .ofNat (m * 16) := Zc2 (show m * 16 < _ by omega)
  have e4 : Zf .u64 (.ofNat (dv (Za s j).toNat)) = .ofNat (dv (Za s j).toNat) := Zc2 (by omega)
  have e5 : Zf .u64 (Int.add (.ofNat (m * 16)) (.ofNat (dv (Za s j).toNat))) = .ofNat (m * 16 + dv (Za s j).toNat) := Zc2 (n := m * 16 + dv (Za s j).toNat) hv
  have e6 : Yc (.ofNat (m * 16 + dv (Za s j).toNat)) (.ofNat (m * 16)) = false := Yg (by omega)
  have e7 : Yc (.ofNat 18446744073709551615) (.ofNat (m * 16 + dv (Za s j).toNat)) = false := Yg (by omega)
  rw [Zm (show j < Zb s from h), g, Kw, K4, d1, d2, d3, d6, d7, d4, e1, e2, e3, e4, e5, e6, e7, Yv (by omega)]
  rfl
theorem Z7q {s : List UInt8} {m j : Nat} (hs : s.length < 4294967296) (h : j < s.length) (hd : Zxw (Za s j).toNat = true) (hv : ¬ m < 1152921504606846976) : ∃ m', Zh Yb (Xn Yb 3) (flat (Zc [15, 0] Wg.body)) (Z5 8 puS [(9, [0, 1, 2, 3, 4, 5, 6, 7, 8])]) (Zd 172 puS (puV 16 1152921504606846976 s m j)) (Zs 8 [rowP s]) (pO 12 3033) = lf .ret 172 ((puW 16 1152921504606846976 s m' j).map some) ([rowP s].map some) := by
  have g := Ze5 hs h
  obtain ⟨d1, d2, d3, d6, d7, d4, d5⟩ := Zfs hd
  refine ⟨m, (Zvn s (Zb s) m j (bT s)).trans ?_⟩
  have e1 : Yc (.ofNat (dv (Za s j).toNat)) (.ofNat 16) = true := Zm (by omega)
  have e2 : Nat.blt m 1152921504606846976 = false := Yg hv
  rw [Zm (show j < Zb s from h), g, Kw, K4, d1, d2, d3, d6, d7, d4, e1, e2]
  rfl
section
variable {P : Program} {I : List MEnt → AHeap → World → Prop} {ro : Option Nat}
theorem Z4d (hE : EnvOk Yb P I) (hI : Carried I) {s : List UInt8} (h1 : 1 ≤ s.length) (hs : s.length < 4294967296) (hc : ∀ j, j < s.length → Z9 (Za s j) = true) : Yk Yb P I ro Wg.body (Z8 Wg [.str s, .int .i64 (.ofNat 16), .int .i64 (.ofNat 64)]) (Zs 8 []) fun e fr H => (e = .normal ∨ e = .ret) ∧ fr.df = [] ∧ ∃ l, Xm Yb fr.t H Wg.results = some l ∧ Vf (Ja l) = bif Nat.blt (Ym 16 s) 18446744073709551616 then .tup [.int .u64 (.ofNat (Ym 16 s)), .nili] else .tup [.int .u64 (.ofNat 18446744073709551615), .iface 81 (.int .i64 (.ofNat 1))] := by
  have hl : Zb s = s.length := rfl
  have hn : leq s [] = false := by
    cases s with
    | nil => simp at h1
    | cons c s => rfl
  refine Z0 _ ?_
  rw [Zmj]
  refine Zg.leafPX hE hI (Vg Yb 3) (vs := puV 16 1152921504606846976 s 0 0) (os := [rowP s]) (os2 := [rowP s]) ((Z0a s).trans (by rw [hn, Zph (show Zb s < _ from hs)]; rfl)) (by decide) rfl (fun _ _ => Vv s) (.inl ⟨rfl, ?_⟩)
  refine Yk.mono (Yk.block (Q := fun e fr H => (e = .normal ∧ Ym 16 s < 18446744073709551616 ∧ ∃ keep, Ren 8 keep fr H (Zd 172 puS (puV 16 1152921504606846976 s (Ym 16 s) s.length)) (Zs 8 [rowP s])) ∨ (e = .ret ∧ 18446744073709551616 ≤ Ym 16 s ∧ fr.df = [] ∧ Xm Yb fr.t H Wg.results = some [.int .u64 (.ofNat 18446744073709551615), .iface 81 (.int .i64 (.ofNat 1))])) (Yk.loop (X := Nat × Nat) (fr := fun x => Zd 172 puS (puV 16 1152921504606846976 s x.1 x.2)) (H := fun _ => Zs 8 [rowP s]) (Inv := fun x => x.2 ≤ s.length ∧ x.1 = Ym 16 (s.take x.2) ∧ x.1 < 18446744073709551616) (fun x => s.length - x.2) hI ?_ (0, 0) ⟨Nat.zero_le _, rfl, by decide⟩)) ?_
  · rintro ⟨m, j⟩ ⟨i1, i2, i3⟩
    simp only at i1 i2 i3
    refine Z0 _ ?_
    have over : ∀ {m' : Nat} {o : Wh}, Zh Yb (Xn Yb 3) (flat (Zc [15, 0] Wg.body)) (Z5 8 puS [(9, [0, 1, 2, 3, 4, 5, 6, 7, 8])]) (Zd 172 puS (puV 16 1152921504606846976 s m j)) (Zs 8 [rowP s]) o = lf .ret 172 ((puW 16 1152921504606846976 s m' j).map some) ([rowP s].map some) → 18446744073709551616 ≤ Ym 16 s → Zg Yb P I ro (flat (Zc [15, 0] Wg.body)) (Zd 172 puS (puV 16 1152921504606846976 s m j)) (Zs 8 [rowP s]) fun e fr' H' => (e = .normal ∧ ∃ (x' : Nat × Nat) (keep : List Nat), (x'.2 ≤ s.length ∧ x'.1 = Ym 16 (s.take x'.2) ∧ x'.1 < 18446744073709551616) ∧ s.length - x'.2 < s.length - j ∧ Ren 8 keep fr' H' (Zd 172 puS (puV 16 1152921504606846976 s x'.1 x'.2)) (Zs 8 [rowP s])) ∨ (e ≠ .normal ∧ ((Zhz 3 e = .normal ∧ Ym 16 s < 18446744073709551616 ∧ ∃ keep, Ren 8 keep fr' H' (Zd 172 puS (puV 16 1152921504606846976 s (Ym 16 s) s.length)) (Zs 8 [rowP s])) ∨ (Zhz 3 e = .ret ∧ 18446744073709551616 ≤ Ym 16 s ∧ fr'.df = [] ∧ Xm Yb fr'.t H' Wg.results = some [.int .u64 (.ofNat 18446744073709551615), .iface 81 (.int .i64 (.ofNat 1))]))) := fun e h2 => Zg.leafPC hE (Vg Yb 3) e (by decide) rfl (fun _ _ => Vv s) fun fr' H' keep r => .inr ⟨(by intro h; cases h), .inr ⟨rfl, h2, r.df.1, by
      rw [Zfk]
      exact Va r (l := [.int .u64 (.ofNat 18446744073709551615), .iface 81 (.int .i64 (.ofNat 1))]) rfl rfl⟩⟩
    by_cases h : j < s.length
    · clear h1 hn
      rcases Zuo (hc j h) with hd | hd
      · by_cases h3 : m < 1152921504606846976
        · by_cases h4 : m * 16 + dv (Za s j).toNat < 18446744073709551616
          · exact Zg.leafPC hE (Vg Yb 3) (Z9d hs h hd h4) (by decide) rfl (fun _ _ => Vv s) fun fr' H' keep r => .inl ⟨rfl, (m * 16 + dv (Za s j).toNat, j + 1), keep, ⟨h, by rw [Kg h, i2], h4⟩, by simp only; omega, r⟩
          · obtain ⟨_, _, _, _, _, _, d5⟩ := (show True ∧ True ∧ True ∧ True ∧ True ∧ True ∧ dv (Za s j).toNat < 10 from ⟨trivial, trivial, trivial, trivial, trivial, trivial, (Jv hd).2.2.2.2⟩)
            exact absurd (show m * 16 + dv (Za s j).toNat < 18446744073709551616 by omega) h4
        · obtain ⟨m', e⟩ := Z7a hs h hd h3
          exact over e (Nat.le_trans (show _ ≤ Ym 16 (s.take (j + 1)) by rw [Kg h, ← i2]; omega) (Zim (by decide) s))
      · by_cases h3 : m < 1152921504606846976
        · by_cases h4 : m * 16 + dv (Za s j).toNat < 18446744073709551616
          · exact Zg.leafPC hE (Vg Yb 3) (Z6d hs h hd h4) (by decide) rfl (fun _ _ => Vv s) fun fr' H' keep r => .inl ⟨rfl, (m * 16 + dv (Za s j).toNat, j + 1), keep, ⟨h, by rw [Kg h, i2], h4⟩, by simp only; omega, r⟩
          · obtain ⟨_, _, _, _, _, _, d5⟩ := Zfs hd
            exact absurd (show m * 16 + dv (Za s j).toNat < 18446744073709551616 by omega) h4
        · obtain ⟨m', e⟩ := Z7q hs h hd h3
          exact over e (Nat.le_trans (show _ ≤ Ym 16 (s.take (j + 1)) by rw [Kg h, ← i2]; omega) (Zim (by decide) s))
    · obtain rfl : j = s.length := by omega
      rw [List.take_length] at i2
      subst i2
      refine Zg.leafPC hE (Vg Yb 3) (vs := puV 16 1152921504606846976 s (Ym 16 s) s.length) (os := [rowP s]) (os2 := [rowP s]) ((Z4k s (Zb s) (Ym 16 s) s.length (bT s)).trans (by rw [Yg (show ¬ s.length < Zb s by omega)]; rfl)) (by decide) rfl (fun _ _ => Vv s) fun fr' H' keep r => .inr ⟨(by intro h; cases h), .inl ⟨rfl, i3, keep, r⟩⟩
  · rintro e fr H (⟨rfl, hv, keep, r⟩ | ⟨rfl, hv, h2, h3⟩)
    · refine .inl ⟨rfl, Zg.ren hI r ?_⟩
      refine Zg.leafPC hE (Vg Yb 3) (vs := [.int .u64 (.ofNat (Ym 16 s)), .nili]) (os := []) (os2 := []) (Z2w s (Zb s) (Ym 16 s) s.length (bT s)) (by decide) rfl (fun _ => Z28) fun fr' H' keep r => ⟨.inr rfl, r.df.1, [.int .u64 (.ofNat (Ym 16 s)), .nili], ?_, ?_⟩
      · rw [Zfk]; exact Va r rfl rfl
      · rw [Zm hv]; rfl
    · refine .inr ⟨(by intro h; cases h), .inr rfl, h2, _, h3, ?_⟩
      rw [Yg (by omega)]; rfl
end
def Z2h (p : UInt8 → Bool) (s : List UInt8) : Bool := s.all p
theorem Zyk {p : UInt8 → Bool} {s : List UInt8} (h : Z2h p s = true) : ∀ j, j < s.length → p (Za s j) = true := fun j hj => by
  rw [Zba hj]
  exact List.all_eq_true.1 h _ (List.getElem_mem hj)
def Zk0 (b : Int) (s : List UInt8) : Bool := Nat.ble 1 (Zb s) && (Nat.blt (Zb s) 4294967296 && ((Xz b (.ofNat 10) && Z2h Z1 s) || (Xz b (.ofNat 16) && Z2h Z9 s)))
def puR (b : Int) (s : List UInt8) : AV := bif Nat.blt (Ym b.toNat s) 18446744073709551616 then .tup [.int .u64 (.ofNat (Ym b.toNat s)), .nili] else .tup [.int .u64 (.ofNat 18446744073709551615), .iface 81 (.int .i64 (.ofNat 1))]
def Zr6 : Nat → List AV → Option AV := fun g args => match args with
  | [.str s, .int .i64 b, .int .i64 (.ofNat 64)] => bif Nat.beq g 49 && Zk0 b s then some (puR b s) else none
  | _ => none
theorem Zya (b : Int) (s : List UInt8) : J9 (puR b s) = true := by
  unfold puR
  cases Nat.blt (Ym b.toNat s) 18446744073709551616 <;> rfl
theorem Yfm : Qm Tryd.prog gl (Zx Zr6) := Km fun g args v h => by
  unfold Zr6 at h
  split at h
  case h_2 => cases h
  rename_i s b
  rw [Bool.cond_eq_ite] at h
  split at h
  case isFalse => cases h
  rename_i hb
  unfold Zk0 at hb
  simp only [Bool.and_eq_true, Bool.or_eq_true, Nat.beq_eq, Nat.blt_eq, Nat.ble_eq, Vt, decide_eq_true_eq] at hb
  obtain ⟨rfl, h1, hs, hd⟩ := hb
  simp only [Option.some.injEq] at h
  subst h
  refine ⟨Yb, Wg, Ql, Wl, Z9f, Z2 rfl, Ji (Zya b s), fun w hw => ?_⟩
  rcases hd with ⟨rfl, hd⟩ | ⟨rfl, hd⟩
  · exact Z46 (Ql w hw) (Zt hw) h1 hs (Zyk hd)
  · exact Z4d (Ql w hw) (Zt hw) h1 hs (Zyk hd)
end
end Go.Proofs.YtdpkmhnpbbapcaaDoor
