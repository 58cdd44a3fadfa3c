/- The document's text: what a string stands for, its end, and whether it has one. -/
import Derived.Test.YtdpkmhnpbbapcaaDoorRfNum
import Derived.Test.YtdpkmhnpbbapcaaDoorLxText
import Derived.KernelRfl
namespace Go.Proofs.YtdpkmhnpbbapcaaDoor
open Go Go.Vai
noncomputable section
set_option maxRecDepth 100000
def Zcg (n : Nat) : Option Nat := bif Nat.beq n 110 then some 10 else bif Nat.beq n 116 then some 9 else bif Nat.beq n 48 then some 0 else bif Nat.beq n 92 then some 92 else bif Nat.beq n 34 then some 34 else none
theorem Z3i : ((List.range 256).all fun n => match Zcg n with | some v => Zdv (.ofNat n) && Xz (Zcm (.ofNat n)) (.ofNat v) | none => !(Zdv (.ofNat n))) = true := by kernel_rfl
theorem Zie (c : UInt8) : match Zcg c.toNat with | some v => Zef c = true ∧ AV.int .u8 (.ofNat v) = Yp (Za5 c) | none => Zef c = false := by
  have h := List.all_eq_true.1 Z3i c.toNat (List.mem_range.2 c.toNat_lt)
  cases e : Zcg c.toNat with
  | none =>
    rw [e] at h
    simp only [Bool.not_eq_true'] at h
    exact h
  | some v =>
    rw [e] at h
    simp only [Bool.and_eq_true, Vt, decide_eq_true_eq] at h
    refine ⟨h.1, ?_⟩
    have h2 := Zuc c
    rw [h.2] at h2
    unfold Yp
    rw [h2]
def Y1 : List UInt8 → Nat → List UInt8 → List UInt8 × Nat × Bool
  | [], k, L => (L, k + 1, false)
  | c :: r, k, L => bif Nat.beq c.toNat 34 then (L, k + 1, true) else bif Nat.blt c.toNat 32 || Nat.blt 126 c.toNat then ([], 0, false) else bif Nat.beq c.toNat 92 then (match r with
    | [] => ([], 0, false)
    | d :: q => bif Zef d then Y1 q (k + 2) (L ++ [Za5 d]) else ([], 0, false)) else Y1 r (k + 1) (L ++ [c])
theorem Zqw {s L : List UInt8} {j : Nat} (h : j < s.length) : Y1 (s.drop j) j L = bif Nat.beq (Za s j).toNat 34 then (L, j + 1, true) else bif Nat.blt (Za s j).toNat 32 || Nat.blt 126 (Za s j).toNat then ([], 0, false) else bif Nat.beq (Za s j).toNat 92 then (match s.drop (j + 1) with
    | [] => ([], 0, false)
    | d :: q => bif Zef d then Y1 q (j + 2) (L ++ [Za5 d]) else ([], 0, false)) else Y1 (s.drop (j + 1)) (j + 1) (L ++ [Za s j]) := by
  rw [drop_at h, Y1.eq_def]
theorem Zep : ∀ (n : Nat) (t : List UInt8) (k : Nat) (L : List UInt8), t.length ≤ n → match X8 t with | some p => Y1 t k L = (L ++ p.1, k + p.2, true) | none => (Y1 t k L).2.2 = false
  | n, [], k, L, _ => by rw [X8.eq_def, Y1.eq_def]
  | 0, _ :: _, _, _, h => by simp at h
  | n + 1, c :: r, k, L, h => by
    simp only [List.length_cons] at h
    rw [X8.eq_def, Y1.eq_def]
    simp only
    cases h1 : Nat.beq c.toNat 34 with
    | true => simp
    | false =>
      simp only [cond_false]
      cases h2 : Nat.beq c.toNat 92 with
      | true =>
        rw [Zg2 h2]
        simp only [cond_true, show (Nat.blt (UInt8.toNat (UInt8.ofNat 92)) 32 || Nat.blt 126 (UInt8.toNat (UInt8.ofNat 92))) = false from rfl, cond_false]
        cases r with
        | nil => rfl
        | cons d q =>
          simp only
          cases h3 : Zef d with
          | false => rfl
          | true =>
            simp only [cond_true]
            have ih := Zep n q (k + 2) (L ++ [Za5 d]) (by simp only [List.length_cons] at h; omega)
            cases ht : X8 q with
            | none => rw [ht] at ih; exact ih
            | some p =>
              rw [ht] at ih
              simp only [Option.map_some]
              rw [ih]
              simp only [List.append_assoc, List.cons_append, List.nil_append, Nat.add_assoc, Nat.add_comm 2]
      | false =>
        simp only [cond_false]
        cases h3 : (Nat.blt c.toNat 32 || Nat.blt 126 c.toNat) with
        | true => rfl
        | false =>
          simp only [cond_false]
          have ih := Zep n r (k + 1) (L ++ [c]) (by omega)
          cases ht : X8 r with
          | none => rw [ht] at ih; exact ih
          | some p =>
            rw [ht] at ih
            simp only [Option.map_some]
            rw [ih]
            simp only [List.append_assoc, List.cons_append, List.nil_append, Nat.add_assoc, Nat.add_comm 1]
def rxS : List Nat := [0, 4, 5, 6, 7, 8]
def rxV (s L : List UInt8) (j : Nat) : List AV := [.str s, .str [], .int .i64 (.ofNat 0), .bool false, tV L, .int .i64 (.ofNat j)]
def Zad : AFunc := (Yb.fn 22).getD default
theorem Z9l : Yb.fn 22 = some Zad := by kernel_rfl
theorem Zxm : flat Zad.body = (flat Zad.body).take 3 ++ .block 0 (.loop (Zc [3, 0] Zad.body)) :: (flat Zad.body).drop 4 := by kernel_rfl
theorem Zre : Zad.results = [4, 5, 6].map .tmp := by kernel_rfl
theorem Yef (s : List UInt8) (a : Nat) : Zu Yb (Yw Yb 3) ((flat Zad.body).take 3) (Yj 8 [0, 4, 5, 6, 7, 8] [0, 1, 2, 3, 4, 5, 6, 7]) (Z8 Zad [.str s, .int .i64 (.ofNat a)]) (Zs 8 []) = lf .normal 68 ([.str s, .str [], .int .i64 (.ofNat 0), .bool false, .nils, .int .i64 (up a)].map some) ([].map some) := by kernel_rfl
theorem Zes (s : List UInt8) (j : Nat) : Zu Yb (Yw Yb 3) (flat (Zc [3, 0] Zad.body)) (Jw 8 [0, 4, 5, 6, 7, 8] [(8, [0, 1, 2, 3, 4, 5, 6, 7]), (10, [0, 1, 2, 3, 4, 5, 6, 7, 9])]) (Zd 68 [0, 4, 5, 6, 7, 8] [.str s, .str [], .int .i64 (.ofNat 0), .bool false, .nils, .int .i64 (.ofNat j)]) (Zs 8 []) = bc (Nat.blt j (Zb s)) (bc (Nat.blt j (Zb s)) (bc (!(Nat.beq (UInt8.toNat (Za s j)) 34)) (bc (Nat.blt j (Zb s)) (bc (Nat.blt (UInt8.toNat (Za s j)) 32) (lf .ret 68 ([.str s, .str [], .int .i64 (.ofNat 0), .bool false, .nils, .int .i64 (.ofNat j)].map some) ([].map some)) (bc (Nat.blt 126 (UInt8.toNat (Za s j))) (lf .ret 68 ([.str s, .str [], .int .i64 (.ofNat 0), .bool false, .nils, .int .i64 (.ofNat j)].map some) ([].map some)) (bc (Nat.beq (UInt8.toNat (Za s j)) 92) (bc (Xz (up j) (.ofNat (Zb s))) (lf .ret 68 ([.str s, .str [], .int .i64 (.ofNat 0), .bool false, .nils, .int .i64 (up j)].map some) ([].map some)) (bc (Yc (up j) (.ofNat 0)) (none) (bc (Nat.blt (Int.toNat (up j)) (Zb s)) (bc (Nat.beq (UInt8.toNat (Za s (Int.toNat (up j)))) 110) (lf .normal 68 ([.str s, .str [], .int .i64 (.ofNat 0), .bool false, .sl 8 0 1 none, .int .i64 (Zf .i64 (Int.add (up j) (.ofNat 1)))].map some) ([.cells 1 ((Tr.nil.putAll 0 [.int .u8 (.ofNat 10)])) 5 (some 1) 0 false false].map some)) (bc (Nat.beq (UInt8.toNat (Za s (Int.toNat (up j)))) 116) (lf .normal 68 ([.str s, .str [], .int .i64 (.ofNat 0), .bool false, .sl 8 0 1 none, .int .i64 (Zf .i64 (Int.add (up j) (.ofNat 1)))].map some) ([.cells 1 ((Tr.nil.putAll 0 [.int .u8 (.ofNat 9)])) 5 (some 1) 0 false false].map some)) (bc (Nat.beq (UInt8.toNat (Za s (Int.toNat (up j)))) 48) (lf .normal 68 ([.str s, .str [], .int .i64 (.ofNat 0), .bool false, .sl 8 0 1 none, .int .i64 (Zf .i64 (Int.add (up j) (.ofNat 1)))].map some) ([.cells 1 ((Tr.nil.putAll 0 [.int .u8 (.ofNat 0)])) 5 (some 1) 0 false false].map some)) (bc (Nat.beq (UInt8.toNat (Za s (Int.toNat (up j)))) 92) (bc (Nat.beq (UInt8.toNat (Za s (Int.toNat (up j)))) 92) (bc (Yc (up j) (.ofNat 0)) (none) (bc (Nat.blt (Int.toNat (up j)) (Zb s)) (lf .normal 68 ([.str s, .str [], .int .i64 (.ofNat 0), .bool false, .sl 8 0 1 none, .int .i64 (Zf .i64 (Int.add (up j) (.ofNat 1)))].map some) ([.cells 1 ((Tr.nil.putAll 0 [.int .u8 (.ofNat (UInt8.toNat (Za s (Int.toNat (up j)))))])) 5 (some 1) 0 false false].map some)) (none))) (lf .ret 68 ([.str s, .str [], .int .i64 (.ofNat 0), .bool false, .nils, .int .i64 (up j)].map some) ([].map some))) (bc (Nat.beq (UInt8.toNat (Za s (Int.toNat (up j)))) 34) (bc (Yc (up j) (.ofNat 0)) (none) (bc (Nat.blt (Int.toNat (up j)) (Zb s)) (lf .normal 68 ([.str s, .str [], .int .i64 (.ofNat 0), .bool false, .sl 8 0 1 none, .int .i64 (Zf .i64 (Int.add (up j) (.ofNat 1)))].map some) ([.cells 1 ((Tr.nil.putAll 0 [.int .u8 (.ofNat (UInt8.toNat (Za s (Int.toNat (up j)))))])) 5 (some 1) 0 false false].map some)) (none))) (lf .ret 68 ([.str s, .str [], .int .i64 (.ofNat 0), .bool false, .nils, .int .i64 (up j)].map some) ([].map some))))))) (none)))) (lf .normal 68 ([.str s, .str [], .int .i64 (.ofNat 0), .bool false, .sl 8 0 1 none, .int .i64 (up j)].map some) ([.cells 1 ((Tr.nil.putAll 0 [.int .u8 (.ofNat (UInt8.toNat (Za s j)))])) 5 (some 1) 0 false false].map some))))) (none)) (lf (.exit 0) 68 ([.str s, .str [], .int .i64 (.ofNat 0), .bool false, .nils, .int .i64 (.ofNat j)].map some) ([].map some))) (none)) (lf (.exit 0) 68 ([.str s, .str [], .int .i64 (.ofNat 0), .bool false, .nils, .int .i64 (.ofNat j)].map some) ([].map some)) := by kernel_rfl
theorem Zeq (s : List UInt8) (j n : Nat) (T : Tr AV) : Zu Yb (Yw Yb 3) (flat (Zc [3, 0] Zad.body)) (Jw 8 [0, 4, 5, 6, 7, 8] [(9, [0, 1, 2, 3, 4, 5, 6, 7, 8]), (11, [0, 1, 2, 3, 4, 5, 6, 7, 10])]) (Zd 68 [0, 4, 5, 6, 7, 8] [.str s, .str [], .int .i64 (.ofNat 0), .bool false, .sl 8 0 n none, .int .i64 (.ofNat j)]) (Zs 8 [.cells n T 5 (some 1) 0 false false]) = bc (Nat.blt j (Zb s)) (bc (Nat.blt j (Zb s)) (bc (!(Nat.beq (UInt8.toNat (Za s j)) 34)) (bc (Nat.blt j (Zb s)) (bc (Nat.blt (UInt8.toNat (Za s j)) 32) (lf .ret 68 ([.str s, .str [], .int .i64 (.ofNat 0), .bool false, .sl 8 0 n none, .int .i64 (.ofNat j)].map some) ([.cells n T 5 (some 1) 0 false false].map some)) (bc (Nat.blt 126 (UInt8.toNat (Za s j))) (lf .ret 68 ([.str s, .str [], .int .i64 (.ofNat 0), .bool false, .sl 8 0 n none, .int .i64 (.ofNat j)].map some) ([.cells n T 5 (some 1) 0 false false].map some)) (bc (Nat.beq (UInt8.toNat (Za s j)) 92) (bc (Xz (up j) (.ofNat (Zb s))) (lf .ret 68 ([.str s, .str [], .int .i64 (.ofNat 0), .bool false, .sl 8 0 n none, .int .i64 (up j)].map some) ([.cells n T 5 (some 1) 0 false false].map some)) (bc (Yc (up j) (.ofNat 0)) (none) (bc (Nat.blt (Int.toNat (up j)) (Zb s)) (bc (Nat.beq (UInt8.toNat (Za s (Int.toNat (up j)))) 110) (bc (Nat.blt (Nat.mul n 1) n) (bc (Vl T 0 (Nat.mul n 1)) (bc (Nat.beq (Nat.mul n 1) (Nat.mul n 1)) (bc (Zz (Nat.succ n) 1) (lf .normal 68 ([.str s, .str [], .int .i64 (.ofNat 0), .bool false, .sl 8 0 (Nat.succ n) none, .int .i64 (Zf .i64 (Int.add (up j) (.ofNat 1)))].map some) ([.cells (Nat.succ (Nat.mul n 1)) (Tr.putAll (Tr.putAll Tr.nil 0 (Wo T 0 (Nat.mul n 1))) (Nat.mul n 1) [.int .u8 (.ofNat 10)]) 5 (some 1) 0 false false].map some)) (none)) (none)) (none)) (bc (Nat.beq n (Nat.mul n 1)) (bc (Zz (Nat.succ n) 1) (lf .normal 68 ([.str s, .str [], .int .i64 (.ofNat 0), .bool false, .sl 8 0 (Nat.succ n) none, .int .i64 (Zf .i64 (Int.add (up j) (.ofNat 1)))].map some) ([.cells (Nat.succ n) (Tr.putAll T n [.int .u8 (.ofNat 10)]) 5 (some 1) 0 false false].map some)) (none)) (none))) (bc (Nat.beq (UInt8.toNat (Za s (Int.toNat (up j)))) 116) (bc (Nat.blt (Nat.mul n 1) n) (bc (Vl T 0 (Nat.mul n 1)) (bc (Nat.beq (Nat.mul n 1) (Nat.mul n 1)) (bc (Zz (Nat.succ n) 1) (lf .normal 68 ([.str s, .str [], .int .i64 (.ofNat 0), .bool false, .sl 8 0 (Nat.succ n) none, .int .i64 (Zf .i64 (Int.add (up j) (.ofNat 1)))].map some) ([.cells (Nat.succ (Nat.mul n 1)) (Tr.putAll (Tr.putAll Tr.nil 0 (Wo T 0 (Nat.mul n 1))) (Nat.mul n 1) [.int .u8 (.ofNat 9)]) 5 (some 1) 0 false false].map some)) (none)) (none)) (none)) (bc (Nat.beq n (Nat.mul n 1)) (bc (Zz (Nat.succ n) 1) (lf .normal 68 ([.str s, .str [], .int .i64 (.ofNat 0), .bool false, .sl 8 0 (Nat.succ n) none, .int .i64 (Zf .i64 (Int.add (up j) (.ofNat 1)))].map some) ([.cells (Nat.succ n) (Tr.putAll T n [.int .u8 (.ofNat 9)]) 5 (some 1) 0 false false].map some)) (none)) (none))) (bc (Nat.beq (UInt8.toNat (Za s (Int.toNat (up j)))) 48) (bc (Nat.blt (Nat.mul n 1) n) (bc (Vl T 0 (Nat.mul n 1)) (bc (Nat.beq (Nat.mul n 1) (Nat.mul n 1)) (bc (Zz (Nat.succ n) 1) (lf .normal 68 ([.str s, .str [], .int .i64 (.ofNat 0), .bool false, .sl 8 0 (Nat.succ n) none, .int .i64 (Zf .i64 (Int.add (up j) (.ofNat 1)))].map some) ([.cells (Nat.succ (Nat.mul n 1)) (Tr.putAll (Tr.putAll Tr.nil 0 (Wo T 0 (Nat.mul n 1))) (Nat.mul n 1) [.int .u8 (.ofNat 0)]) 5 (some 1) 0 false false].map some)) (none)) (none)) (none)) (bc (Nat.beq n (Nat.mul n 1)) (bc (Zz (Nat.succ n) 1) (lf .normal 68 ([.str s, .str [], .int .i64 (.ofNat 0), .bool false, .sl 8 0 (Nat.succ n) none, .int .i64 (Zf .i64 (Int.add (up j) (.ofNat 1)))].map some) ([.cells (Nat.succ n) (Tr.putAll T n [.int .u8 (.ofNat 0)]) 5 (some 1) 0 false false].map some)) (none)) (none))) (bc (Nat.beq (UInt8.toNat (Za s (Int.toNat (up j)))) 92) (bc (Nat.beq (UInt8.toNat (Za s (Int.toNat (up j)))) 92) (bc (Yc (up j) (.ofNat 0)) (none) (bc (Nat.blt (Int.toNat (up j)) (Zb s)) (bc (Nat.blt (Nat.mul n 1) n) (bc (Vl T 0 (Nat.mul n 1)) (bc (Nat.beq (Nat.mul n 1) (Nat.mul n 1)) (bc (Zz (Nat.succ n) 1) (lf .normal 68 ([.str s, .str [], .int .i64 (.ofNat 0), .bool false, .sl 8 0 (Nat.succ n) none, .int .i64 (Zf .i64 (Int.add (up j) (.ofNat 1)))].map some) ([.cells (Nat.succ (Nat.mul n 1)) (Tr.putAll (Tr.putAll Tr.nil 0 (Wo T 0 (Nat.mul n 1))) (Nat.mul n 1) [.int .u8 (.ofNat (UInt8.toNat (Za s (Int.toNat (up j)))))]) 5 (some 1) 0 false false].map some)) (none)) (none)) (none)) (bc (Nat.beq n (Nat.mul n 1)) (bc (Zz (Nat.succ n) 1) (lf .normal 68 ([.str s, .str [], .int .i64 (.ofNat 0), .bool false, .sl 8 0 (Nat.succ n) none, .int .i64 (Zf .i64 (Int.add (up j) (.ofNat 1)))].map some) ([.cells (Nat.succ n) (Tr.putAll T n [.int .u8 (.ofNat (UInt8.toNat (Za s (Int.toNat (up j)))))]) 5 (some 1) 0 false false].map some)) (none)) (none))) (none))) (lf .ret 68 ([.str s, .str [], .int .i64 (.ofNat 0), .bool false, .sl 8 0 n none, .int .i64 (up j)].map some) ([.cells n T 5 (some 1) 0 false false].map some))) (bc (Nat.beq (UInt8.toNat (Za s (Int.toNat (up j)))) 34) (bc (Yc (up j) (.ofNat 0)) (none) (bc (Nat.blt (Int.toNat (up j)) (Zb s)) (bc (Nat.blt (Nat.mul n 1) n) (bc (Vl T 0 (Nat.mul n 1)) (bc (Nat.beq (Nat.mul n 1) (Nat.mul n 1)) (bc (Zz (Nat.succ n) 1) (lf .normal 68 ([.str s, .str [], .int .i64 (.ofNat 0), .bool false, .sl 8 0 (Nat.succ n) none, .int .i64 (Zf .i64 (Int.add (up j) (.ofNat 1)))].map some) ([.cells (Nat.succ (Nat.mul n 1)) (Tr.putAll (Tr.putAll Tr.nil 0 (Wo T 0 (Nat.mul n 1))) (Nat.mul n 1) [.int .u8 (.ofNat (UInt8.toNat (Za s (Int.toNat (up j)))))]) 5 (some 1) 0 false false].map some)) (none)) (none)) (none)) (bc (Nat.beq n (Nat.mul n 1)) (bc (Zz (Nat.succ n) 1) (lf .normal 68 ([.str s, .str [], .int .i64 (.ofNat 0), .bool false, .sl 8 0 (Nat.succ n) none, .int .i64 (Zf .i64 (Int.add (up j) (.ofNat 1)))].map some) ([.cells (Nat.succ n) (Tr.putAll T n [.int .u8 (.ofNat (UInt8.toNat (Za s (Int.toNat (up j)))))]) 5 (some 1) 0 false false].map some)) (none)) (none))) (none))) (lf .ret 68 ([.str s, .str [], .int .i64 (.ofNat 0), .bool false, .sl 8 0 n none, .int .i64 (up j)].map some) ([.cells n T 5 (some 1) 0 false false].map some))))))) (none)))) (bc (Nat.blt (Nat.mul n 1) n) (bc (Vl T 0 (Nat.mul n 1)) (bc (Nat.beq (Nat.mul n 1) (Nat.mul n 1)) (bc (Zz (Nat.succ n) 1) (lf .normal 68 ([.str s, .str [], .int .i64 (.ofNat 0), .bool false, .sl 8 0 (Nat.succ n) none, .int .i64 (up j)].map some) ([.cells (Nat.succ (Nat.mul n 1)) (Tr.putAll (Tr.putAll Tr.nil 0 (Wo T 0 (Nat.mul n 1))) (Nat.mul n 1) [.int .u8 (.ofNat (UInt8.toNat (Za s j)))]) 5 (some 1) 0 false false].map some)) (none)) (none)) (none)) (bc (Nat.beq n (Nat.mul n 1)) (bc (Zz (Nat.succ n) 1) (lf .normal 68 ([.str s, .str [], .int .i64 (.ofNat 0), .bool false, .sl 8 0 (Nat.succ n) none, .int .i64 (up j)].map some) ([.cells (Nat.succ n) (Tr.putAll T n [.int .u8 (.ofNat (UInt8.toNat (Za s j)))]) 5 (some 1) 0 false false].map some)) (none)) (none)))))) (none)) (lf (.exit 0) 68 ([.str s, .str [], .int .i64 (.ofNat 0), .bool false, .sl 8 0 n none, .int .i64 (.ofNat j)].map some) ([.cells n T 5 (some 1) 0 false false].map some))) (none)) (lf (.exit 0) 68 ([.str s, .str [], .int .i64 (.ofNat 0), .bool false, .sl 8 0 n none, .int .i64 (.ofNat j)].map some) ([.cells n T 5 (some 1) 0 false false].map some)) := by kernel_rfl
theorem Ybg (s : List UInt8) (j : Nat) : Zu Yb (Yw Yb 3) ((flat Zad.body).drop 4) (Yj 8 [4, 5, 6] [0, 1, 2, 3, 4, 5, 6, 7]) (Zd 68 [0, 4, 5, 6, 7, 8] [.str s, .str [], .int .i64 (.ofNat 0), .bool false, .nils, .int .i64 (.ofNat j)]) (Zs 8 []) = lf .ret 68 ([.str [], .int .i64 (up j), .bool (Nat.blt j (Zb s))].map some) ([].map some) := by kernel_rfl
theorem Yeo (s : List UInt8) (j n : Nat) (T : Tr AV) : Zu Yb (Yw Yb 3) ((flat Zad.body).drop 4) (Yj 8 [4, 5, 6] [0, 1, 2, 3, 4, 5, 6, 7]) (Zd 68 [0, 4, 5, 6, 7, 8] [.str s, .str [], .int .i64 (.ofNat 0), .bool false, .sl 8 0 n none, .int .i64 (.ofNat j)]) (Zs 8 [.cells n T 5 (some 1) 0 false false]) = bc (Vl T 0 (Nat.mul n 1)) (bc (Zoh (Wo T 0 (Nat.mul n 1))) (lf .ret 68 ([.str (Zn0 (Wo T 0 (Nat.mul n 1))), .int .i64 (up j), .bool (Nat.blt j (Zb s))].map some) ([].map some)) (none)) (none) := by kernel_rfl
def rxK (L : List UInt8) : KC Leaf := Jw 8 rxS (match L with | [] => [(8, [0, 1, 2, 3, 4, 5, 6, 7]), (10, [0, 1, 2, 3, 4, 5, 6, 7, 9])] | _ :: _ => [(9, [0, 1, 2, 3, 4, 5, 6, 7, 8]), (11, [0, 1, 2, 3, 4, 5, 6, 7, 10])])
def rxR (s L : List UInt8) (j : Nat) : Option Leaf := Zu Yb (Yw Yb 3) (flat (Zc [3, 0] Zad.body)) (rxK L) (Zd 68 rxS (rxV s L j)) (Zs 8 (tO L))
theorem Z2t {L : List UInt8} (hL : L.length < 4294967296) : Nat.blt (Nat.mul L.length 1) L.length = false ∧ Nat.beq L.length (Nat.mul L.length 1) = true ∧ Zz (Nat.succ L.length) 1 = true := by
  refine ⟨Yg (by rw [show Nat.mul L.length 1 = L.length from Nat.mul_one _]; omega), Zat (Nat.mul_one _).symm, ?_⟩
  unfold Zz
  rw [Bool.or_eq_true, Nat.ble_eq]; left; omega
section
variable {s L : List UInt8} {j : Nat} (hs : s.length < 4294967296) (hL : L.length < 4294967296)
theorem Z2k (h : j < s.length → Nat.beq (Za s j).toNat 34 = true) : rxR s L j = lf (.exit 0) 68 ((rxV s L j).map some) ((tO L).map some) := by
  by_cases h0 : j < s.length
  · have h1 := Zm (show j < Zb s from h0)
    have h2 := h h0
    cases L with
    | nil => exact (Zes s j).trans (by rw [h1, h2]; rfl)
    | cons c L => exact (Zeq s j _ _).trans (by rw [h1, h2]; rfl)
  · have h1 := Yg (show ¬ j < Zb s from h0)
    cases L with
    | nil => exact (Zes s j).trans (by rw [h1]; rfl)
    | cons c L => exact (Zeq s j _ _).trans (by rw [h1]; rfl)
theorem Z7y (h : j < s.length) (h1 : Nat.beq (Za s j).toNat 34 = false) (h3 : (Nat.blt (Za s j).toNat 32 || Nat.blt 126 (Za s j).toNat) = true) : rxR s L j = lf .ret 68 ((rxV s L j).map some) ((tO L).map some) := by
  have h0 := Zm (show j < Zb s from h)
  cases L with
  | nil =>
    refine (Zes s j).trans ?_
    rw [h0, h1]
    cases h4 : Nat.blt (Za s j).toNat 32 with
    | true => rfl
    | false => rw [h4, Bool.false_or] at h3; rw [h3]; rfl
  | cons c L =>
    refine (Zeq s j _ _).trans ?_
    rw [h0, h1]
    cases h4 : Nat.blt (Za s j).toNat 32 with
    | true => rfl
    | false => rw [h4, Bool.false_or] at h3; rw [h3]; rfl
include hs
theorem Ztr (h : j < s.length) (h2 : Nat.beq (Za s j).toNat 92 = true) (h3 : j + 1 < s.length → Zef (Za s (j + 1)) = false) : rxR s L j = lf .ret 68 ((rxV s L (j + 1)).map some) ((tO L).map some) := by
  have h0 := Zm (show j < Zb s from h)
  have hu := Yv (k := j) (by omega)
  have hc := Zg2 h2
  by_cases e : j + 1 = s.length
  · have e1 : Xz (.ofNat (j + 1)) (.ofNat (Zb s)) = true := Zat (show j + 1 = Zb s from e)
    cases L with
    | nil => exact (Zes s j).trans (by rw [h0, hc, hu, e1]; rfl)
    | cons c L => exact (Zeq s j _ _).trans (by rw [h0, hc, hu, e1]; rfl)
  · have e1 : Xz (.ofNat (j + 1)) (.ofNat (Zb s)) = false := J2 (show ¬ j + 1 = Zb s from e)
    have e2 : Nat.blt (Int.toNat (.ofNat (j + 1))) (Zb s) = true := Zm (show j + 1 < Zb s from by have : Zb s = s.length := rfl; omega)
    have h4 := h3 (by omega)
    have h5 := Zie (Za s (j + 1))
    have e3 : Yc (.ofNat (j + 1)) (.ofNat 0) = false := rfl
    have e4 : Int.toNat (.ofNat (j + 1)) = j + 1 := rfl
    have h6 : Zcg (Za s (j + 1)).toNat = none := by
      cases e5 : Zcg (Za s (j + 1)).toNat with
      | none => rfl
      | some v => rw [e5] at h5; rw [h5.1] at h4; cases h4
    unfold Zcg at h6
    have t : Nat.beq (Za s (j + 1)).toNat 110 = false ∧ Nat.beq (Za s (j + 1)).toNat 116 = false ∧ Nat.beq (Za s (j + 1)).toNat 48 = false ∧ Nat.beq (Za s (j + 1)).toNat 92 = false ∧ Nat.beq (Za s (j + 1)).toNat 34 = false := by
      revert h6
      cases Nat.beq (Za s (j + 1)).toNat 110 <;> cases Nat.beq (Za s (j + 1)).toNat 116 <;> cases Nat.beq (Za s (j + 1)).toNat 48 <;> cases Nat.beq (Za s (j + 1)).toNat 92 <;> cases Nat.beq (Za s (j + 1)).toNat 34 <;> intro h6 <;> first | exact ⟨rfl, rfl, rfl, rfl, rfl⟩ | cases h6
    obtain ⟨t1, t2, t3, t4, t5⟩ := t
    cases L with
    | nil => exact (Zes s j).trans (by rw [h0, hc, hu, e1, e2, e3, e4, t1, t2, t3, t4, t5]; rfl)
    | cons c L => exact (Zeq s j _ _).trans (by rw [h0, hc, hu, e1, e2, e3, e4, t1, t2, t3, t4, t5]; rfl)
include hL
theorem Yel (h : j + 1 < s.length) (h2 : Nat.beq (Za s j).toNat 92 = true) (h3 : Zef (Za s (j + 1)) = true) : rxR s L j = lf .normal 68 ((rxV s (L ++ [Za5 (Za s (j + 1))]) (j + 2)).map some) ((tO (L ++ [Za5 (Za s (j + 1))])).map some) := by
  have h0 := Zm (show j < Zb s from by have : Zb s = s.length := rfl; omega)
  have hu := Yv (k := j) (by omega)
  have hc := Zg2 h2
  have e1 : Xz (.ofNat (j + 1)) (.ofNat (Zb s)) = false := J2 (show ¬ j + 1 = Zb s from by have : Zb s = s.length := rfl; omega)
  have e2 : Nat.blt (Int.toNat (.ofNat (j + 1))) (Zb s) = true := Zm (show j + 1 < Zb s from h)
  have e3 : Yc (.ofNat (j + 1)) (.ofNat 0) = false := rfl
  have e4 : Int.toNat (.ofNat (j + 1)) = j + 1 := rfl
  have e9 := up2 (j := j) (by omega)
  have h5 := Zie (Za s (j + 1))
  unfold rxV
  rw [Zig, Zij]
  obtain ⟨e5, e6, e7⟩ := Z2t hL
  have b := Zil L (Za5 (Za s (j + 1)))
  unfold Zcg at h5
  have go : ∀ (x : Option Nat), x = Zcg (Za s (j + 1)).toNat → (match x with | some v => Zef (Za s (j + 1)) = true ∧ AV.int .u8 (.ofNat v) = Yp (Za5 (Za s (j + 1))) | none => Zef (Za s (j + 1)) = false) := fun x hx => by rw [hx]; exact Zie _
  have self : AV.int .u8 (.ofNat (Za s (j + 1)).toNat) = Yp (Za s (j + 1)) := rfl
  have key : ∀ v : Nat, Zcg (Za s (j + 1)).toNat = some v → AV.int .u8 (.ofNat v) = Yp (Za5 (Za s (j + 1))) := fun v hv => by
    have := Zie (Za s (j + 1))
    rw [hv] at this
    exact this.2
  cases L with
  | nil =>
    refine (Zes s j).trans ?_
    rw [h0, hc, hu, e1, e2, e3, e4, e9]
    cases t1 : Nat.beq (Za s (j + 1)).toNat 110 with
    | true => rw [key 10 (by unfold Zcg; rw [t1]; rfl)]; rfl
    | false =>
      cases t2 : Nat.beq (Za s (j + 1)).toNat 116 with
      | true => rw [key 9 (by unfold Zcg; rw [t1, t2]; rfl)]; rfl
      | false =>
        cases t3 : Nat.beq (Za s (j + 1)).toNat 48 with
        | true => rw [key 0 (by unfold Zcg; rw [t1, t2, t3]; rfl)]; rfl
        | false =>
          cases t4 : Nat.beq (Za s (j + 1)).toNat 92 with
          | true =>
            have q : AV.int .u8 (.ofNat (Za s (j + 1)).toNat) = Yp (Za5 (Za s (j + 1))) := by
              rw [← key 92 (by unfold Zcg; rw [t1, t2, t3, t4]; rfl), Nat.eq_of_beq_eq_true t4]
            rw [q]; rfl
          | false =>
            cases t5 : Nat.beq (Za s (j + 1)).toNat 34 with
            | true =>
              have q : AV.int .u8 (.ofNat (Za s (j + 1)).toNat) = Yp (Za5 (Za s (j + 1))) := by
                rw [← key 34 (by unfold Zcg; rw [t1, t2, t3, t4, t5]; rfl), Nat.eq_of_beq_eq_true t5]
              rw [q]; rfl
            | false => exfalso; rw [t1, t2, t3, t4, t5] at h5; simp only [cond_false] at h5; rw [h3] at h5; cases h5
  | cons c L =>
    refine (Zeq s j _ _).trans ?_
    rw [h0, hc, hu, e1, e2, e3, e4, e9, e5, e6, e7]
    cases t1 : Nat.beq (Za s (j + 1)).toNat 110 with
    | true => rw [key 10 (by unfold Zcg; rw [t1]; rfl), b]; rfl
    | false =>
      cases t2 : Nat.beq (Za s (j + 1)).toNat 116 with
      | true => rw [key 9 (by unfold Zcg; rw [t1, t2]; rfl), b]; rfl
      | false =>
        cases t3 : Nat.beq (Za s (j + 1)).toNat 48 with
        | true => rw [key 0 (by unfold Zcg; rw [t1, t2, t3]; rfl), b]; rfl
        | false =>
          cases t4 : Nat.beq (Za s (j + 1)).toNat 92 with
          | true =>
            have q : AV.int .u8 (.ofNat (Za s (j + 1)).toNat) = Yp (Za5 (Za s (j + 1))) := by
              rw [← key 92 (by unfold Zcg; rw [t1, t2, t3, t4]; rfl), Nat.eq_of_beq_eq_true t4]
            rw [q, b]; rfl
          | false =>
            cases t5 : Nat.beq (Za s (j + 1)).toNat 34 with
            | true =>
              have q : AV.int .u8 (.ofNat (Za s (j + 1)).toNat) = Yp (Za5 (Za s (j + 1))) := by
                rw [← key 34 (by unfold Zcg; rw [t1, t2, t3, t4, t5]; rfl), Nat.eq_of_beq_eq_true t5]
              rw [q, b]; rfl
            | false => exfalso; rw [t1, t2, t3, t4, t5] at h5; simp only [cond_false] at h5; rw [h3] at h5; cases h5
theorem Yek (h : j < s.length) (h1 : Nat.beq (Za s j).toNat 34 = false) (h2 : Nat.beq (Za s j).toNat 92 = false) (h3 : (Nat.blt (Za s j).toNat 32 || Nat.blt 126 (Za s j).toNat) = false) : rxR s L j = lf .normal 68 ((rxV s (L ++ [Za s j]) (j + 1)).map some) ((tO (L ++ [Za s j])).map some) := by
  have h0 := Zm (show j < Zb s from h)
  have hu := Yv (k := j) (by omega)
  rw [Bool.or_eq_false_iff] at h3
  have e3 : AV.int .u8 (.ofNat (UInt8.toNat (Za s j))) = Yp (Za s j) := rfl
  unfold rxV
  rw [Zig, Zij]
  obtain ⟨e5, e6, e7⟩ := Z2t hL
  cases L with
  | nil => exact (Zes s j).trans (by rw [h0, h1, h2, hu, h3.1, h3.2, e3]; rfl)
  | cons c L => exact (Zeq s j _ _).trans (by rw [h0, h1, h2, hu, h3.1, h3.2, e3, e5, e6, e7, Zil]; rfl)
end
theorem Yca : Zde 8 [(8, [0, 1, 2, 3, 4, 5, 6, 7]), (10, [0, 1, 2, 3, 4, 5, 6, 7, 9])] = true := by decide
theorem Ycr : Zde 8 [(9, [0, 1, 2, 3, 4, 5, 6, 7, 8]), (11, [0, 1, 2, 3, 4, 5, 6, 7, 10])] = true := by decide
def txA (x : List UInt8 × Nat × Bool) : AV := .tup [.str x.1, .int .i64 (.ofNat x.2.1), .bool x.2.2]
section
variable {P : Program} {I : List MEnt → AHeap → World → Prop} {ro : Option Nat}
theorem Zfu (hE : EnvOk Yb P I) {s L L2 : List UInt8} {j : Nat} {e : AExit} {vs : List AV} {Q : TQ} (h : rxR s L j = lf e 68 (vs.map some) ((tO L2).map some)) (hm : ∀ fr' H' keep, Ren 8 keep fr' H' (Zd 68 rxS vs) (Zs 8 (tO L2)) → Q e fr' H') : Zg Yb P I ro (flat (Zc [3, 0] Zad.body)) (Zd 68 rxS (rxV s L j)) (Zs 8 (tO L)) Q := by
  unfold rxR rxK at h
  cases L with
  | nil => exact Zg.leafFC hE (Vu Yb 3) h Yca rfl (fun keep _ => Ziw L2) hm
  | cons c L => exact Zg.leafFC hE (Vu Yb 3) h Ycr rfl (fun keep _ => Ziw L2) hm
def rxI (s : List UInt8) (a : Nat) (x : List UInt8 × Nat) : Prop := x.1.length < x.2 ∧ x.2 ≤ s.length ∧ Y1 (s.drop (a + 1)) (a + 1) [] = Y1 (s.drop x.2) x.2 x.1
def rxQ (s : List UInt8) (a : Nat) : TQ := fun e fr H => (e = .exit 0 ∧ ∃ L j keep, rxI s a (L, j) ∧ (j < s.length → Nat.beq (Za s j).toNat 34 = true) ∧ Ren 8 keep fr H (Zd 68 rxS (rxV s L j)) (Zs 8 (tO L))) ∨ (e = .ret ∧ fr.df = [] ∧ Xm Yb fr.t H Zad.results = some [.str [], .int .i64 (.ofNat 0), .bool false] ∧ Y1 (s.drop (a + 1)) (a + 1) [] = ([], 0, false))
theorem Z5q (hE : EnvOk Yb P I) (hI : Carried I) {s : List UInt8} {a : Nat} (ha : a < s.length) (hs : s.length < 4294967296) : Yk Yb P I ro (.loop (Zc [3, 0] Zad.body)) (Zd 68 rxS (rxV s [] (a + 1))) (Zs 8 (tO [])) (rxQ s a) := by
  refine Yk.loop (X := List UInt8 × Nat) (fr := fun x => Zd 68 rxS (rxV s x.1 x.2)) (H := fun x => Zs 8 (tO x.1)) (Inv := rxI s a) (fun x => s.length - x.2) hI ?_ ([], a + 1) ⟨Nat.succ_pos _, ha, rfl⟩
  rintro ⟨L, j⟩ ⟨i1, i2, i3⟩
  simp only at i1 i2 i3
  have hL : L.length < 4294967296 := by omega
  refine Z0 _ ?_
  have bad : ∀ {i : Nat}, Y1 (s.drop (a + 1)) (a + 1) [] = ([], 0, false) → rxR s L j = lf .ret 68 ((rxV s L i).map some) ((tO L).map some) → Zg Yb P I ro (flat (Zc [3, 0] Zad.body)) (Zd 68 rxS (rxV s L j)) (Zs 8 (tO L)) fun e fr' H' => (e = .normal ∧ ∃ (x' : List UInt8 × Nat) (keep : List Nat), rxI s a x' ∧ s.length - x'.2 < s.length - j ∧ Ren 8 keep fr' H' (Zd 68 rxS (rxV s x'.1 x'.2)) (Zs 8 (tO x'.1))) ∨ (e ≠ .normal ∧ rxQ s a e fr' H') := fun {i} hn e => Zfu hE e fun fr' H' keep r => .inr ⟨(by intro h; cases h), .inr ⟨rfl, r.df.1, by
      rw [Zre]
      exact Va r (l := [.str [], .int .i64 (.ofNat 0), .bool false]) rfl rfl, hn⟩⟩
  by_cases h : j < s.length
  · have ht := Zqw (L := L) h
    cases h1 : Nat.beq (Za s j).toNat 34 with
    | true => exact Zfu hE (Z2k (L := L) fun _ => h1) fun fr' H' keep r => .inr ⟨(by intro h; cases h), .inl ⟨rfl, L, j, keep, ⟨i1, i2, i3⟩, fun _ => h1, r⟩⟩
    | false =>
      rw [h1] at ht
      simp only [cond_false] at ht
      cases h3 : (Nat.blt (Za s j).toNat 32 || Nat.blt 126 (Za s j).toNat) with
      | true =>
        rw [h3] at ht
        simp only [cond_true] at ht
        exact bad (i3.trans ht) (Z7y h h1 h3)
      | false =>
        rw [h3] at ht
        simp only [cond_false] at ht
        cases h2 : Nat.beq (Za s j).toNat 92 with
        | true =>
          rw [h2] at ht
          simp only [cond_true] at ht
          by_cases h4 : j + 1 < s.length
          · rw [drop_at h4] at ht
            simp only at ht
            cases h5 : Zef (Za s (j + 1)) with
            | true =>
              rw [h5] at ht
              simp only [cond_true] at ht
              exact Zfu hE (Yel hs hL h4 h2 h5) fun fr' H' keep r => .inl ⟨rfl, (L ++ [Za5 (Za s (j + 1))], j + 2), keep, ⟨by simp only [List.length_append, List.length_cons, List.length_nil]; omega, by simp only; omega, i3.trans ht⟩, by simp only; omega, r⟩
            | false =>
              rw [h5] at ht
              simp only [cond_false] at ht
              exact bad (i3.trans ht) (Ztr (L := L) hs h h2 fun _ => h5)
          · rw [show s.drop (j + 1) = [] from List.drop_eq_nil_of_le (by omega)] at ht
            exact bad (i3.trans ht) (Ztr (L := L) hs h h2 fun h => absurd h h4)
        | false =>
          rw [h2] at ht
          simp only [cond_false] at ht
          exact Zfu hE (Yek hs hL h h1 h2 h3) fun fr' H' keep r => .inl ⟨rfl, (L ++ [Za s j], j + 1), keep, ⟨by simp only [List.length_append, List.length_cons, List.length_nil]; omega, h, i3.trans ht⟩, by simp only; omega, r⟩
  · exact Zfu hE (Z2k (L := L) fun h2 => absurd h2 h) fun fr' H' keep r => .inr ⟨(by intro h; cases h), .inl ⟨rfl, L, j, keep, ⟨i1, i2, i3⟩, fun h2 => absurd h2 h, r⟩⟩
theorem Yei (hE : EnvOk Yb P I) (hI : Carried I) {s : List UInt8} {a : Nat} (ha : a < s.length) (hs : s.length < 4294967296) : Yk Yb P I ro Zad.body (Z8 Zad [.str s, .int .i64 (.ofNat a)]) (Zs 8 []) fun e fr H => (e = .normal ∨ e = .ret) ∧ fr.df = [] ∧ ∃ l, Xm Yb fr.t H Zad.results = some l ∧ Vf (Ja l) = txA (Y1 (s.drop (a + 1)) (a + 1) []) := by
  refine Z0 _ ?_
  rw [Zxm]
  refine Zg.leafX hE hI (vs := rxV s [] (a + 1)) ((Yef s a).trans (by rw [Yv (by omega)]; rfl)) (by decide) rfl rfl Y3 (.inl ⟨rfl, ?_⟩)
  refine Yk.mono (Yk.block (Q := fun e fr H => (e = .normal ∧ ∃ L j keep, rxI s a (L, j) ∧ (j < s.length → Nat.beq (Za s j).toNat 34 = true) ∧ Ren 8 keep fr H (Zd 68 rxS (rxV s L j)) (Zs 8 (tO L))) ∨ (e = .ret ∧ fr.df = [] ∧ Xm Yb fr.t H Zad.results = some [.str [], .int .i64 (.ofNat 0), .bool false] ∧ Y1 (s.drop (a + 1)) (a + 1) [] = ([], 0, false))) ((Z5q hE hI ha hs).mono ?_)) ?_
  · rintro e fr H (⟨rfl, h⟩ | ⟨rfl, h⟩)
    · exact .inl ⟨rfl, h⟩
    · exact .inr ⟨rfl, h⟩
  · rintro e fr H (⟨rfl, L, j, keep, ⟨i1, i2, i3⟩, h4, r⟩ | ⟨rfl, h2, h3, h4⟩)
    · simp only at i1 i2 i3
      refine .inl ⟨rfl, Zg.ren hI r ?_⟩
      have val : Y1 (s.drop (a + 1)) (a + 1) [] = (L, j + 1, Nat.blt j s.length) := by
        rw [i3]
        by_cases h : j < s.length
        · rw [Zqw h, h4 h, Zm h]; rfl
        · rw [show s.drop j = [] from List.drop_eq_nil_of_le (by omega), Y1.eq_def, Yg h]
      have fin : ∀ fr' H', Ren 8 [0, 1, 2, 3, 4, 5, 6, 7] fr' H' (Zd 68 [4, 5, 6] [.str L, .int .i64 (.ofNat (j + 1)), .bool (Nat.blt j s.length)]) (Zs 8 []) → (AExit.ret = .normal ∨ AExit.ret = .ret) ∧ fr'.df = [] ∧ ∃ l, Xm Yb fr'.t H' Zad.results = some l ∧ Vf (Ja l) = txA (Y1 (s.drop (a + 1)) (a + 1) []) := fun fr' H' r => ⟨.inr rfl, r.df.1, _, by rw [Zre]; exact Va r (l := [.str L, .int .i64 (.ofNat (j + 1)), .bool (Nat.blt j s.length)]) rfl rfl, by rw [val]; rfl⟩
      cases L with
      | nil => exact Zg.leafE hE (vs := [.str [], .int .i64 (.ofNat (j + 1)), .bool (Nat.blt j s.length)]) ((Ybg s j).trans (by rw [Yv (by omega)]; rfl)) (by decide) rfl rfl Y3 fin
      | cons c L =>
        have hb := Znv (L := c :: L) (by omega)
        have e0 := Zp1 hb (a := (c :: L).length) (Nat.le_refl _)
        have e1 := Zuf hb (a := (c :: L).length) (Nat.le_refl _)
        have e2 := Zt5 hb (a := (c :: L).length) (Nat.le_refl _)
        rw [List.take_length] at e2
        exact Zg.leafE hE (vs := [.str (c :: L), .int .i64 (.ofNat (j + 1)), .bool (Nat.blt j s.length)]) ((Yeo s j _ _).trans (by rw [Yv (by omega), e1, e0, e2]; rfl)) (by decide) rfl rfl Y3 fin
    · exact .inr ⟨(by intro h; cases h), .inr rfl, h2, _, h3, by rw [h4]; rfl⟩
end
def Zeu (s : List UInt8) (a : Nat) : Bool := Nat.blt a (Zb s) && Nat.blt (Zb s) 4294967296
def Zf3 : Nat → List AV → Option AV := fun g args => match args with
  | [.str s, .int .i64 (.ofNat a)] => bif Nat.beq g 22 && Zeu s a then some (txA (Y1 (s.drop (a + 1)) (a + 1) [])) else none
  | _ => none
theorem Zzy : Qm Tryd.prog gl (Zx Zf3) := Km fun g args v h => by
  unfold Zf3 at h
  split at h
  case h_2 => cases h
  rename_i s a
  rw [Bool.cond_eq_ite] at h
  split at h
  case isFalse => cases h
  rename_i hb
  unfold Zeu at hb
  simp only [Bool.and_eq_true, Nat.beq_eq, Nat.blt_eq] at hb
  obtain ⟨rfl, h1, hs⟩ := hb
  simp only [Option.some.injEq] at h
  subst h
  exact ⟨Yb, Zad, Ql, Wl, Z9l, Z2 rfl, Ji rfl, fun w hw => Yei (Ql w hw) (Zt hw) h1 hs⟩
end
end Go.Proofs.YtdpkmhnpbbapcaaDoor
