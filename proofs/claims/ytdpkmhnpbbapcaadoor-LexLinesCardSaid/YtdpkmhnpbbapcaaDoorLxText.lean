/- lex.text: what a string stands for, and how many bytes it has. -/
import Derived.Test.YtdpkmhnpbbapcaaDoorLxRun
import Derived.Test.YtdpkmhnpbbapcaaDoorVaiLawB
import Derived.KernelRfl
namespace Go.Proofs.YtdpkmhnpbbapcaaDoor
open Go Go.Vai
noncomputable section
set_option maxRecDepth 100000
def Zef (c : UInt8) : Bool := Zdv (cI c)
def Za5 (c : UInt8) : UInt8 := UInt8.ofNat (Zcm (cI c)).toNat
theorem Z79 : ((List.range 256).all fun n => Xz (Zcm (.ofNat n)) (.ofNat (UInt8.ofNat (Zcm (.ofNat n)).toNat).toNat)) = true := by kernel_rfl
theorem Zuc (c : UInt8) : Zcm (.ofNat c.toNat) = .ofNat (Za5 c).toNat := by
  have h := List.all_eq_true.1 Z79 c.toNat (List.mem_range.2 c.toNat_lt)
  rw [Vt, decide_eq_true_eq] at h
  exact h
def X8 : List UInt8 → Option (List UInt8 × Nat)
  | [] => none
  | c :: r => bif Nat.beq c.toNat 34 then some ([], 1) else bif Nat.beq c.toNat 92 then (match r with
    | [] => none
    | d :: q => bif Zef d then (X8 q).map fun p => (Za5 d :: p.1, p.2 + 2) else none) else bif Nat.blt c.toNat 32 || Nat.blt 126 c.toNat then none else (X8 r).map fun p => (c :: p.1, p.2 + 1)
def Zi8 (L : List UInt8) (m : Nat) (x : Option (List UInt8 × Nat)) : Option (List UInt8 × Nat) := x.map fun p => (L ++ p.1, p.2 + m)
theorem Z2j (L : List UInt8) (m : Nat) (c : UInt8) (x : Option (List UInt8 × Nat)) : Zi8 L m (x.map fun p => (c :: p.1, p.2 + 1)) = Zi8 (L ++ [c]) (m + 1) x := by
  cases x with
  | none => rfl
  | some p => simp [Zi8, Nat.add_assoc, Nat.add_comm 1 m]
theorem Z09 (L : List UInt8) (m : Nat) (c : UInt8) (x : Option (List UInt8 × Nat)) : Zi8 L m (x.map fun p => (c :: p.1, p.2 + 2)) = Zi8 (L ++ [c]) (m + 2) x := by
  cases x with
  | none => rfl
  | some p => simp [Zi8, Nat.add_assoc, Nat.add_comm 2 m]
def Y9 (s : List UInt8) : List UInt8 × Nat × Nat := match X8 (s.drop 1) with
  | some p => (p.1, p.2 + 1, 0)
  | none => ([], 0, 12)
abbrev Yd6 (L : List UInt8) : AObj := .cells L.length (bT L) 5 (some 1) 0 false false
def tV : List UInt8 → AV
  | [] => .nils
  | c :: L => .sl 8 0 (c :: L).length none
def tO : List UInt8 → List AObj
  | [] => []
  | c :: L => [Yd6 (c :: L)]
theorem Ziw {keep : List Nat} (L : List UInt8) : ∀ (j : Nat) o o2, (tO L)[j]? = some o → (tO L)[j]? = some o2 → We 0 keep o o2 := Yy fun o ho => by
  cases L with
  | nil => cases ho
  | cons c L =>
    obtain rfl := List.mem_singleton.1 ho
    refine ⟨_, _, _, _, _, _, _, rfl, Zck (fun i v h => by simp [Tr.get_nil] at h) fun v hv => ?_⟩
    obtain ⟨b, _, rfl⟩ := List.mem_map.1 hv
    exact Kp _ _
theorem Zil (L : List UInt8) (c : UInt8) : Tr.putAll (bT L) L.length [Yp c] = bT (L ++ [c]) := by
  unfold bT
  rw [List.map_append, Jr, List.length_map, Nat.zero_add]; rfl
theorem Zig (L : List UInt8) (c : UInt8) : tV (L ++ [c]) = .sl 8 0 (L.length + 1) none := by
  cases L with
  | nil => rfl
  | cons d L =>
    show AV.sl _ _ (d :: (L ++ [c])).length _ = _
    simp
theorem Zij (L : List UInt8) (c : UInt8) : tO (L ++ [c]) = [.cells (L.length + 1) (bT (L ++ [c])) 5 (some 1) 0 false false] := by
  cases L with
  | nil => rfl
  | cons d L =>
    show [Yd6 (d :: (L ++ [c]))] = _
    simp [Yd6]
def txS : List Nat := [0, 2, 3, 4, 5, 6]
def txV (s L : List UInt8) (j : Nat) : List AV := [.str s, .str [], .int .i64 (.ofNat 0), .int .i64 (.ofNat 0), tV L, .int .i64 (.ofNat j)]
def K3 : AFunc := (Yb.fn 34).getD default
theorem Z6a : Yb.fn 34 = some K3 := by kernel_rfl
theorem Zxr : flat K3.body = (flat K3.body).take 3 ++ .block 0 (.loop (Zc [3, 0] K3.body)) :: (flat K3.body).drop 4 := by kernel_rfl
theorem Zjd : K3.results = [2, 3, 4].map .tmp := by kernel_rfl
theorem Yb5 (s : List UInt8) : Zu Yb (Yw Yb 3) ((flat K3.body).take 3) (Yj 8 [0, 2, 3, 4, 5, 6] [0, 1, 2, 3, 4, 5, 6, 7]) (Z8 K3 [.str s]) (Zs 8 []) = lf .normal 59 ([.str s, .str [], .int .i64 (.ofNat 0), .int .i64 (.ofNat 0), .nils, .int .i64 (.ofNat 1)].map some) ([].map some) := by kernel_rfl
theorem Zhe (s : List UInt8) (j : Nat) : Zu Yb (Yw Yb 3) (flat (Zc [3, 0] K3.body)) (Jw 8 [0, 2, 3, 4, 5, 6] [(8, [0, 1, 2, 3, 4, 5, 6, 7]), (10, [0, 1, 2, 3, 4, 5, 6, 7, 9])]) (Zd 59 [0, 2, 3, 4, 5, 6] [.str s, .str [], .int .i64 (.ofNat 0), .int .i64 (.ofNat 0), .nils, .int .i64 (.ofNat j)]) (Zs 8 []) = bc (Nat.blt j (Zb s)) (bc (Nat.blt j (Zb s)) (bc (Nat.beq (UInt8.toNat (Za s j)) 34) (lf .ret 59 ([.str s, .str [], .int .i64 (up j), .int .i64 (.ofNat 0), .nils, .int .i64 (.ofNat j)].map some) ([].map some)) (bc (Nat.beq (UInt8.toNat (Za s j)) 92) (bc (Xz (up j) (.ofNat (Zb s))) (lf .ret 59 ([.str s, .str [], .int .i64 (.ofNat 0), .int .i64 (.ofNat 12), .nils, .int .i64 (up j)].map some) ([].map some)) (bc (Yc (up j) (.ofNat 0)) (none) (bc (Nat.blt (Int.toNat (up j)) (Zb s)) (bc (!(Zdv (.ofNat (UInt8.toNat (Za s (Int.toNat (up j))))))) (lf .ret 59 ([.str s, .str [], .int .i64 (.ofNat 0), .int .i64 (.ofNat 12), .nils, .int .i64 (up j)].map some) ([].map some)) (lf .normal 59 ([.str s, .str [], .int .i64 (.ofNat 0), .int .i64 (.ofNat 0), .sl 8 0 1 none, .int .i64 (Zf .i64 (Int.add (up j) (.ofNat 1)))].map some) ([.cells 1 ((Tr.nil.putAll 0 [.int .u8 (Zcm (.ofNat (UInt8.toNat (Za s (Int.toNat (up j))))))])) 5 (some 1) 0 false false].map some))) (none)))) (bc (Nat.blt (UInt8.toNat (Za s j)) 32) (lf .ret 59 ([.str s, .str [], .int .i64 (.ofNat 0), .int .i64 (.ofNat 12), .nils, .int .i64 (.ofNat j)].map some) ([].map some)) (bc (Nat.blt 126 (UInt8.toNat (Za s j))) (lf .ret 59 ([.str s, .str [], .int .i64 (.ofNat 0), .int .i64 (.ofNat 12), .nils, .int .i64 (.ofNat j)].map some) ([].map some)) (lf .normal 59 ([.str s, .str [], .int .i64 (.ofNat 0), .int .i64 (.ofNat 0), .sl 8 0 1 none, .int .i64 (up j)].map some) ([.cells 1 ((Tr.nil.putAll 0 [.int .u8 (.ofNat (UInt8.toNat (Za s j)))])) 5 (some 1) 0 false false].map some)))))) (none)) (lf (.exit 0) 59 ([.str s, .str [], .int .i64 (.ofNat 0), .int .i64 (.ofNat 0), .nils, .int .i64 (.ofNat j)].map some) ([].map some)) := by kernel_rfl
theorem Zgz (s : List UInt8) (j n : Nat) (T : Tr AV) : Zu Yb (Yw Yb 3) (flat (Zc [3, 0] K3.body)) (Jw 8 [0, 2, 3, 4, 5, 6] [(9, [0, 1, 2, 3, 4, 5, 6, 7, 8]), (11, [0, 1, 2, 3, 4, 5, 6, 7, 10])]) (Zd 59 [0, 2, 3, 4, 5, 6] [.str s, .str [], .int .i64 (.ofNat 0), .int .i64 (.ofNat 0), .sl 8 0 n none, .int .i64 (.ofNat j)]) (Zs 8 [.cells n T 5 (some 1) 0 false false]) = bc (Nat.blt j (Zb s)) (bc (Nat.blt j (Zb s)) (bc (Nat.beq (UInt8.toNat (Za s j)) 34) (bc (Vl T 0 (Nat.mul n 1)) (bc (Zoh (Wo T 0 (Nat.mul n 1))) (lf .ret 59 ([.str s, .str (Zn0 (Wo T 0 (Nat.mul n 1))), .int .i64 (up j), .int .i64 (.ofNat 0), .sl 8 0 n none, .int .i64 (.ofNat j)].map some) ([.cells n T 5 (some 1) 0 false false].map some)) (none)) (none)) (bc (Nat.beq (UInt8.toNat (Za s j)) 92) (bc (Xz (up j) (.ofNat (Zb s))) (lf .ret 59 ([.str s, .str [], .int .i64 (.ofNat 0), .int .i64 (.ofNat 12), .sl 8 0 n none, .int .i64 (up j)].map some) ([.cells n T 5 (some 1) 0 false false].map some)) (bc (Yc (up j) (.ofNat 0)) (none) (bc (Nat.blt (Int.toNat (up j)) (Zb s)) (bc (!(Zdv (.ofNat (UInt8.toNat (Za s (Int.toNat (up j))))))) (lf .ret 59 ([.str s, .str [], .int .i64 (.ofNat 0), .int .i64 (.ofNat 12), .sl 8 0 n none, .int .i64 (up j)].map some) ([.cells n T 5 (some 1) 0 false false].map some)) (bc (Nat.blt (Nat.mul n 1) n) (bc (Vl T 0 (Nat.mul n 1)) (bc (Nat.beq (Nat.mul n 1) (Nat.mul n 1)) (bc (Zz (Nat.succ n) 1) (lf .normal 59 ([.str s, .str [], .int .i64 (.ofNat 0), .int .i64 (.ofNat 0), .sl 8 0 (Nat.succ n) none, .int .i64 (Zf .i64 (Int.add (up j) (.ofNat 1)))].map some) ([.cells (Nat.succ (Nat.mul n 1)) (Tr.putAll (Tr.putAll Tr.nil 0 (Wo T 0 (Nat.mul n 1))) (Nat.mul n 1) [.int .u8 (Zcm (.ofNat (UInt8.toNat (Za s (Int.toNat (up j))))))]) 5 (some 1) 0 false false].map some)) (none)) (none)) (none)) (bc (Nat.beq n (Nat.mul n 1)) (bc (Zz (Nat.succ n) 1) (lf .normal 59 ([.str s, .str [], .int .i64 (.ofNat 0), .int .i64 (.ofNat 0), .sl 8 0 (Nat.succ n) none, .int .i64 (Zf .i64 (Int.add (up j) (.ofNat 1)))].map some) ([.cells (Nat.succ n) (Tr.putAll T n [.int .u8 (Zcm (.ofNat (UInt8.toNat (Za s (Int.toNat (up j))))))]) 5 (some 1) 0 false false].map some)) (none)) (none)))) (none)))) (bc (Nat.blt (UInt8.toNat (Za s j)) 32) (lf .ret 59 ([.str s, .str [], .int .i64 (.ofNat 0), .int .i64 (.ofNat 12), .sl 8 0 n none, .int .i64 (.ofNat j)].map some) ([.cells n T 5 (some 1) 0 false false].map some)) (bc (Nat.blt 126 (UInt8.toNat (Za s j))) (lf .ret 59 ([.str s, .str [], .int .i64 (.ofNat 0), .int .i64 (.ofNat 12), .sl 8 0 n none, .int .i64 (.ofNat j)].map some) ([.cells n T 5 (some 1) 0 false false].map some)) (bc (Nat.blt (Nat.mul n 1) n) (bc (Vl T 0 (Nat.mul n 1)) (bc (Nat.beq (Nat.mul n 1) (Nat.mul n 1)) (bc (Zz (Nat.succ n) 1) (lf .normal 59 ([.str s, .str [], .int .i64 (.ofNat 0), .int .i64 (.ofNat 0), .sl 8 0 (Nat.succ n) none, .int .i64 (up j)].map some) ([.cells (Nat.succ (Nat.mul n 1)) (Tr.putAll (Tr.putAll Tr.nil 0 (Wo T 0 (Nat.mul n 1))) (Nat.mul n 1) [.int .u8 (.ofNat (UInt8.toNat (Za s j)))]) 5 (some 1) 0 false false].map some)) (none)) (none)) (none)) (bc (Nat.beq n (Nat.mul n 1)) (bc (Zz (Nat.succ n) 1) (lf .normal 59 ([.str s, .str [], .int .i64 (.ofNat 0), .int .i64 (.ofNat 0), .sl 8 0 (Nat.succ n) none, .int .i64 (up j)].map some) ([.cells (Nat.succ n) (Tr.putAll T n [.int .u8 (.ofNat (UInt8.toNat (Za s j)))]) 5 (some 1) 0 false false].map some)) (none)) (none))))))) (none)) (lf (.exit 0) 59 ([.str s, .str [], .int .i64 (.ofNat 0), .int .i64 (.ofNat 0), .sl 8 0 n none, .int .i64 (.ofNat j)].map some) ([.cells n T 5 (some 1) 0 false false].map some)) := by kernel_rfl
theorem Ybu (s : List UInt8) (j : Nat) : Zu Yb (Yw Yb 3) ((flat K3.body).drop 4) (Yj 8 [2, 3, 4] [0, 1, 2, 3, 4, 5, 6, 7]) (Zd 59 [0, 2, 3, 4, 5, 6] [.str s, .str [], .int .i64 (.ofNat 0), .int .i64 (.ofNat 0), .nils, .int .i64 (.ofNat j)]) (Zs 8 []) = lf .ret 59 ([.str [], .int .i64 (.ofNat 0), .int .i64 (.ofNat 12)].map some) ([].map some) := by kernel_rfl
theorem Ycv (s : List UInt8) (j n : Nat) (T : Tr AV) : Zu Yb (Yw Yb 3) ((flat K3.body).drop 4) (Yj 8 [2, 3, 4] [0, 1, 2, 3, 4, 5, 6, 7]) (Zd 59 [0, 2, 3, 4, 5, 6] [.str s, .str [], .int .i64 (.ofNat 0), .int .i64 (.ofNat 0), .sl 8 0 n none, .int .i64 (.ofNat j)]) (Zs 8 [.cells n T 5 (some 1) 0 false false]) = lf .ret 59 ([.str [], .int .i64 (.ofNat 0), .int .i64 (.ofNat 12)].map some) ([].map some) := by kernel_rfl
def txK (L : List UInt8) : KC Leaf := Jw 8 txS (match L with | [] => [(8, [0, 1, 2, 3, 4, 5, 6, 7]), (10, [0, 1, 2, 3, 4, 5, 6, 7, 9])] | _ :: _ => [(9, [0, 1, 2, 3, 4, 5, 6, 7, 8]), (11, [0, 1, 2, 3, 4, 5, 6, 7, 10])])
def txR (s L : List UInt8) (j : Nat) : Option Leaf := Zu Yb (Yw Yb 3) (flat (Zc [3, 0] K3.body)) (txK L) (Zd 59 txS (txV s L j)) (Zs 8 (tO L))
theorem up2 {j : Nat} (h : j < 4294967296) : Zf .i64 (Int.add (.ofNat (j + 1)) (.ofNat 1)) = .ofNat (j + 2) := Vo (k := j + 2) (by omega)
section
variable {s L : List UInt8} {j : Nat} (hs : s.length < 4294967296) (hL : L.length < 4294967296)
theorem Ycc (h : ¬ j < s.length) : txR s L j = lf (.exit 0) 59 ((txV s L j).map some) ((tO L).map some) := by
  have h0 := Yg (show ¬ j < Zb s from h)
  cases L with
  | nil => exact (Zhe s j).trans (by rw [h0, Xo]; rfl)
  | cons c L => exact (Zgz s j _ _).trans (by rw [h0, Xo]; rfl)
include hs hL
theorem Z21 (h : j < s.length) (h1 : Nat.beq (Za s j).toNat 34 = true) : txR s L j = lf .ret 59 ([.str s, .str L, .int .i64 (.ofNat (j + 1)), .int .i64 (.ofNat 0), tV L, .int .i64 (.ofNat j)].map some) ((tO L).map some) := by
  have h0 := Zm (show j < Zb s from h)
  cases L with
  | nil => exact (Zhe s j).trans (by rw [h0, h1, Yv (by omega)]; rfl)
  | cons c L =>
    have hb := Znv (L := c :: L) (by omega)
    have e0 := Zp1 hb (a := (c :: L).length) (Nat.le_refl _)
    have e1 := Zuf hb (a := (c :: L).length) (Nat.le_refl _)
    have e2 := Zt5 hb (a := (c :: L).length) (Nat.le_refl _)
    rw [List.take_length] at e2
    exact (Zgz s j _ _).trans (by rw [h0, h1, e1, e0, e2, Yv (by omega)]; rfl)
omit hL hs in
theorem Z74 (h : j < s.length) (h1 : Nat.beq (Za s j).toNat 34 = false) (h2 : Nat.beq (Za s j).toNat 92 = false) (h3 : (Nat.blt (Za s j).toNat 32 || Nat.blt 126 (Za s j).toNat) = true) : ∃ i : Nat, txR s L j = lf .ret 59 ([.str s, .str [], .int .i64 (.ofNat 0), .int .i64 (.ofNat 12), tV L, .int .i64 (.ofNat i)].map some) ((tO L).map some) := by
  have h0 := Zm (show j < Zb s from h)
  refine ⟨j, ?_⟩
  cases L with
  | nil =>
    refine (Zhe s j).trans ?_
    rw [h0, h1, h2]
    cases h4 : Nat.blt (Za s j).toNat 32 with
    | true => rfl
    | false => rw [h4, Bool.false_or] at h3; rw [h3]; rfl
  | cons c L =>
    refine (Zgz s j _ _).trans ?_
    rw [h0, h1, h2]
    cases h4 : Nat.blt (Za s j).toNat 32 with
    | true => rfl
    | false => rw [h4, Bool.false_or] at h3; rw [h3]; rfl
omit hL in
theorem Zui (h : j < s.length) (h1 : Nat.beq (Za s j).toNat 34 = false) (h2 : Nat.beq (Za s j).toNat 92 = true) (h3 : j + 1 < s.length → Zef (Za s (j + 1)) = false) : ∃ i : Nat, txR s L j = lf .ret 59 ([.str s, .str [], .int .i64 (.ofNat 0), .int .i64 (.ofNat 12), tV L, .int .i64 (.ofNat i)].map some) ((tO L).map some) := by
  have h0 := Zm (show j < Zb s from h)
  have hu := Yv (k := j) (by omega)
  refine ⟨j + 1, ?_⟩
  have key : ∀ (x y z : Option Leaf), bc (Xz (.ofNat (j + 1)) (.ofNat (Zb s))) x (bc (Yc (.ofNat (j + 1)) (.ofNat 0)) y (bc (Nat.blt (Int.toNat (.ofNat (j + 1))) (Zb s)) (bc (!(Zdv (.ofNat (UInt8.toNat (Za s (Int.toNat (.ofNat (j + 1)))))))) x z) none)) = x := fun x y z => by
    by_cases e : j + 1 = s.length
    · rw [show Xz (.ofNat (j + 1)) (.ofNat (Zb s)) = true from Zat e]; rfl
    · rw [show Xz (.ofNat (j + 1)) (.ofNat (Zb s)) = false from J2 e, show Nat.blt (Int.toNat (.ofNat (j + 1))) (Zb s) = true from Zm (show j + 1 < Zb s from by have : Zb s = s.length := rfl; omega), show Zdv (.ofNat (UInt8.toNat (Za s (Int.toNat (.ofNat (j + 1)))))) = false from h3 (by omega)]; rfl
  cases L with
  | nil =>
    refine (Zhe s j).trans ?_
    rw [h0, h1, h2, hu]
    exact key _ _ _
  | cons c L =>
    refine (Zgz s j _ _).trans ?_
    rw [h0, h1, h2, hu]
    exact key _ _ _
theorem Ydk (h : j + 1 < s.length) (h1 : Nat.beq (Za s j).toNat 34 = false) (h2 : Nat.beq (Za s j).toNat 92 = true) (h3 : Zef (Za s (j + 1)) = true) : txR s L j = lf .normal 59 ((txV s (L ++ [Za5 (Za s (j + 1))]) (j + 2)).map some) ((tO (L ++ [Za5 (Za s (j + 1))])).map some) := by
  have h0 := Zm (show j < Zb s from by have : Zb s = s.length := rfl; omega)
  have hu := Yv (k := j) (by omega)
  have e0 : Xz (.ofNat (j + 1)) (.ofNat (Zb s)) = false := J2 (show ¬ j + 1 = Zb s from by have : Zb s = s.length := rfl; omega)
  have e1 : Nat.blt (Int.toNat (.ofNat (j + 1))) (Zb s) = true := Zm (show j + 1 < Zb s from h)
  have e2 : Zdv (.ofNat (UInt8.toNat (Za s (Int.toNat (.ofNat (j + 1)))))) = true := h3
  have e3 : AV.int .u8 (Zcm (.ofNat (UInt8.toNat (Za s (Int.toNat (.ofNat (j + 1))))))) = Yp (Za5 (Za s (j + 1))) := by unfold Yp; exact congrArg _ (Zuc _)
  have e4 := up2 (j := j) (by omega)
  unfold txV
  rw [Zig, Zij]
  cases L with
  | nil => exact (Zhe s j).trans (by rw [h0, h1, h2, hu, e0, e1, e2, e3, e4]; rfl)
  | cons c L =>
    have e5 : Nat.blt (Nat.mul (c :: L).length 1) (c :: L).length = false := Yg (by rw [show Nat.mul (c :: L).length 1 = (c :: L).length from Nat.mul_one _]; omega)
    have e6 : Nat.beq (c :: L).length (Nat.mul (c :: L).length 1) = true := Zat (Nat.mul_one _).symm
    have e7 : Zz (Nat.succ (c :: L).length) 1 = true := by
      unfold Zz
      rw [Bool.or_eq_true, Nat.ble_eq]; left; simp only [List.length_cons] at hL ⊢; omega
    exact (Zgz s j _ _).trans (by rw [h0, h1, h2, hu, e0, e1, e2, e3, e4, e5, e6, e7, Zil]; rfl)
theorem Ydw (h : j < s.length) (h1 : Nat.beq (Za s j).toNat 34 = false) (h2 : Nat.beq (Za s j).toNat 92 = false) (h3 : (Nat.blt (Za s j).toNat 32 || Nat.blt 126 (Za s j).toNat) = false) : txR s L j = lf .normal 59 ((txV s (L ++ [Za s j]) (j + 1)).map some) ((tO (L ++ [Za s j])).map some) := by
  have h0 := Zm (show j < Zb s from h)
  have hu := Yv (k := j) (by omega)
  rw [Bool.or_eq_false_iff] at h3
  have e3 : AV.int .u8 (.ofNat (UInt8.toNat (Za s j))) = Yp (Za s j) := rfl
  unfold txV
  rw [Zig, Zij]
  cases L with
  | nil => exact (Zhe s j).trans (by rw [h0, h1, h2, hu, h3.1, h3.2, e3]; rfl)
  | cons c L =>
    have e5 : Nat.blt (Nat.mul (c :: L).length 1) (c :: L).length = false := Yg (by rw [show Nat.mul (c :: L).length 1 = (c :: L).length from Nat.mul_one _]; omega)
    have e6 : Nat.beq (c :: L).length (Nat.mul (c :: L).length 1) = true := Zat (Nat.mul_one _).symm
    have e7 : Zz (Nat.succ (c :: L).length) 1 = true := by
      unfold Zz
      rw [Bool.or_eq_true, Nat.ble_eq]; left; simp only [List.length_cons] at hL ⊢; omega
    exact (Zgz s j _ _).trans (by rw [h0, h1, h2, hu, h3.1, h3.2, e3, e5, e6, e7, Zil]; rfl)
end
theorem Z7p {s : List UInt8} {j : Nat} (h : j < s.length) : X8 (s.drop j) = bif Nat.beq (Za s j).toNat 34 then some ([], 1) else bif Nat.beq (Za s j).toNat 92 then (match s.drop (j + 1) with
    | [] => none
    | d :: q => bif Zef d then (X8 q).map fun p => (Za5 d :: p.1, p.2 + 2) else none) else bif Nat.blt (Za s j).toNat 32 || Nat.blt 126 (Za s j).toNat then none else (X8 (s.drop (j + 1))).map fun p => (Za s j :: p.1, p.2 + 1) := by
  rw [drop_at h, X8.eq_def]
theorem Yb2 : Zde 8 [(8, [0, 1, 2, 3, 4, 5, 6, 7]), (10, [0, 1, 2, 3, 4, 5, 6, 7, 9])] = true := by decide
theorem Ybs : Zde 8 [(9, [0, 1, 2, 3, 4, 5, 6, 7, 8]), (11, [0, 1, 2, 3, 4, 5, 6, 7, 10])] = true := by decide
section
variable {P : Program} {I : List MEnt → AHeap → World → Prop} {ro : Option Nat}
theorem Zf2 (hE : EnvOk Yb P I) {s L L2 : List UInt8} {j : Nat} {e : AExit} {vs : List AV} {Q : TQ} (h : txR s L j = lf e 59 (vs.map some) ((tO L2).map some)) (hm : ∀ fr' H' keep, Ren 8 keep fr' H' (Zd 59 txS vs) (Zs 8 (tO L2)) → Q e fr' H') : Zg Yb P I ro (flat (Zc [3, 0] K3.body)) (Zd 59 txS (txV s L j)) (Zs 8 (tO L)) Q := by
  unfold txR txK at h
  cases L with
  | nil => exact Zg.leafFC hE (Vu Yb 3) h Yb2 rfl (fun keep _ => Ziw L2) hm
  | cons c L => exact Zg.leafFC hE (Vu Yb 3) h Ybs rfl (fun keep _ => Ziw L2) hm
def txQ (s : List UInt8) : TQ := fun e fr H => (e = .exit 0 ∧ X8 (s.drop 1) = none ∧ ∃ L j keep, Ren 8 keep fr H (Zd 59 txS (txV s L j)) (Zs 8 (tO L))) ∨ (e = .ret ∧ fr.df = [] ∧ Xm Yb fr.t H K3.results = some [.str (Y9 s).1, .int .i64 (.ofNat (Y9 s).2.1), .int .i64 (.ofNat (Y9 s).2.2)])
theorem Z5v (hE : EnvOk Yb P I) (hI : Carried I) {s : List UInt8} (h1 : 1 ≤ s.length) (hs : s.length < 4294967296) : Yk Yb P I ro (.loop (Zc [3, 0] K3.body)) (Zd 59 txS (txV s [] 1)) (Zs 8 (tO [])) (txQ s) := by
  refine Yk.loop (X := List UInt8 × Nat) (fr := fun x => Zd 59 txS (txV s x.1 x.2)) (H := fun x => Zs 8 (tO x.1)) (Inv := fun x => x.1.length < x.2 ∧ x.2 ≤ s.length ∧ X8 (s.drop 1) = Zi8 x.1 (x.2 - 1) (X8 (s.drop x.2))) (fun x => s.length - x.2) hI ?_ ([], 1) ⟨by decide, h1, ?_⟩
  · rintro ⟨L, j⟩ ⟨i1, i2, i3⟩
    simp only at i1 i2 i3
    have hL : L.length < 4294967296 := by omega
    refine Z0 _ ?_
    have bad : ∀ {i : Nat}, X8 (s.drop 1) = none → txR s L j = lf .ret 59 ([.str s, .str [], .int .i64 (.ofNat 0), .int .i64 (.ofNat 12), tV L, .int .i64 (.ofNat i)].map some) ((tO L).map some) → Zg Yb P I ro (flat (Zc [3, 0] K3.body)) (Zd 59 txS (txV s L j)) (Zs 8 (tO L)) fun e fr' H' => (e = .normal ∧ ∃ (x' : List UInt8 × Nat) (keep : List Nat), (x'.1.length < x'.2 ∧ x'.2 ≤ s.length ∧ X8 (s.drop 1) = Zi8 x'.1 (x'.2 - 1) (X8 (s.drop x'.2))) ∧ s.length - x'.2 < s.length - j ∧ Ren 8 keep fr' H' (Zd 59 txS (txV s x'.1 x'.2)) (Zs 8 (tO x'.1))) ∨ (e ≠ .normal ∧ txQ s e fr' H') := fun {i} hn e => Zf2 hE e fun fr' H' keep r => .inr ⟨(by intro h; cases h), .inr ⟨rfl, r.df.1, by
      rw [Zjd]
      refine Va r (l := [.str (Y9 s).1, .int .i64 (.ofNat (Y9 s).2.1), .int .i64 (.ofNat (Y9 s).2.2)]) ?_ rfl
      unfold Y9; rw [hn]; rfl⟩⟩
    by_cases h : j < s.length
    · have ht := Z7p h
      cases h2 : Nat.beq (Za s j).toNat 34 with
      | true =>
        rw [h2] at ht
        simp only [cond_true] at ht
        rw [ht] at i3
        refine Zf2 hE (Z21 hs hL h h2) fun fr' H' keep r => .inr ⟨(by intro h; cases h), .inr ⟨rfl, r.df.1, ?_⟩⟩
        rw [Zjd]
        refine Va r ?_ rfl
        unfold Y9; rw [i3]
        simp only [Zi8, Option.map_some, List.append_nil, List.map_cons, List.map_nil]
        rw [show 1 + (j - 1) + 1 = j + 1 by omega]; rfl
      | false =>
        rw [h2] at ht
        simp only [cond_false] at ht
        cases h3 : Nat.beq (Za s j).toNat 92 with
        | true =>
          rw [h3] at ht
          simp only [cond_true] at ht
          by_cases h4 : j + 1 < s.length
          · rw [drop_at h4] at ht
            simp only at ht
            cases h5 : Zef (Za s (j + 1)) with
            | true =>
              rw [h5] at ht
              simp only [cond_true] at ht
              exact Zf2 hE (Ydk hs hL h4 h2 h3 h5) fun fr' H' keep r => .inl ⟨rfl, (L ++ [Za5 (Za s (j + 1))], j + 2), keep, ⟨by simp only [List.length_append, List.length_cons, List.length_nil]; omega, by simp only; omega, by rw [i3, ht, Z09]; simp only; rw [show j - 1 + 2 = j + 2 - 1 by omega]⟩, by simp only; omega, r⟩
            | false =>
              rw [h5] at ht
              simp only [cond_false] at ht
              obtain ⟨i, e⟩ := Zui (L := L) hs h h2 h3 fun _ => h5
              exact bad (by rw [i3, ht]; rfl) e
          · rw [show s.drop (j + 1) = [] from List.drop_eq_nil_of_le (by omega)] at ht
            obtain ⟨i, e⟩ := Zui (L := L) hs h h2 h3 fun h => absurd h h4
            exact bad (by rw [i3, ht]; rfl) e
        | false =>
          rw [h3] at ht
          simp only [cond_false] at ht
          cases h4 : (Nat.blt (Za s j).toNat 32 || Nat.blt 126 (Za s j).toNat) with
          | true =>
            rw [h4] at ht
            simp only [cond_true] at ht
            obtain ⟨i, e⟩ := Z74 (L := L) h h2 h3 h4
            exact bad (by rw [i3, ht]; rfl) e
          | false =>
            rw [h4] at ht
            simp only [cond_false] at ht
            exact Zf2 hE (Ydw hs hL h h2 h3 h4) fun fr' H' keep r => .inl ⟨rfl, (L ++ [Za s j], j + 1), keep, ⟨by simp only [List.length_append, List.length_cons, List.length_nil]; omega, h, by rw [i3, ht, Z2j]; simp only; rw [show j - 1 + 1 = j + 1 - 1 by omega]⟩, by simp only; omega, r⟩
    · refine Zf2 hE (Ycc (L := L) h) fun fr' H' keep r => .inr ⟨(by intro h; cases h), .inl ⟨rfl, ?_, L, j, keep, r⟩⟩
      rw [i3, show s.drop j = [] from List.drop_eq_nil_of_le (by omega)]; rfl
  · show _ = Zi8 [] 0 _
    cases X8 (s.drop 1) <;> simp [Zi8]
theorem Ydh (hE : EnvOk Yb P I) (hI : Carried I) {s : List UInt8} (h1 : 1 ≤ s.length) (hs : s.length < 4294967296) : Yk Yb P I ro K3.body (Z8 K3 [.str s]) (Zs 8 []) fun e fr H => (e = .normal ∨ e = .ret) ∧ fr.df = [] ∧ ∃ l, Xm Yb fr.t H K3.results = some l ∧ Vf (Ja l) = .tup [.str (Y9 s).1, .int .i64 (.ofNat (Y9 s).2.1), .int .i64 (.ofNat (Y9 s).2.2)] := by
  refine Z0 _ ?_
  rw [Zxr]
  refine Zg.leafX hE hI (Yb5 s) (by decide) rfl rfl Y3 (.inl ⟨rfl, ?_⟩)
  refine Yk.mono (Yk.block (Q := fun e fr H => (e = .normal ∧ X8 (s.drop 1) = none ∧ ∃ L j keep, Ren 8 keep fr H (Zd 59 txS (txV s L j)) (Zs 8 (tO L))) ∨ (e = .ret ∧ fr.df = [] ∧ Xm Yb fr.t H K3.results = some [.str (Y9 s).1, .int .i64 (.ofNat (Y9 s).2.1), .int .i64 (.ofNat (Y9 s).2.2)])) ((Z5v hE hI h1 hs).mono ?_)) ?_
  · rintro e fr H (⟨rfl, h⟩ | ⟨rfl, h⟩)
    · exact .inl ⟨rfl, h⟩
    · exact .inr ⟨rfl, h⟩
  · rintro e fr H (⟨rfl, hn, L, j, keep, r⟩ | ⟨rfl, h2, h3⟩)
    · refine .inl ⟨rfl, Zg.ren hI r ?_⟩
      have fin : ∀ fr' H', Ren 8 [0, 1, 2, 3, 4, 5, 6, 7] fr' H' (Zd 59 [2, 3, 4] [.str [], .int .i64 (.ofNat 0), .int .i64 (.ofNat 12)]) (Zs 8 []) → (AExit.ret = .normal ∨ AExit.ret = .ret) ∧ fr'.df = [] ∧ ∃ l, Xm Yb fr'.t H' K3.results = some l ∧ Vf (Ja l) = .tup [.str (Y9 s).1, .int .i64 (.ofNat (Y9 s).2.1), .int .i64 (.ofNat (Y9 s).2.2)] := fun fr' H' r => ⟨.inr rfl, r.df.1, _, by rw [Zjd]; exact Va r (l := [.str [], .int .i64 (.ofNat 0), .int .i64 (.ofNat 12)]) rfl rfl, by unfold Y9; rw [hn]; rfl⟩
      cases L with
      | nil => exact Zg.leafE hE (Ybu s j) (by decide) rfl rfl Y3 fin
      | cons c L => exact Zg.leafE hE (Ycv s j _ _) (by decide) rfl rfl Y3 fin
    · exact .inr ⟨(by intro h; cases h), .inr rfl, h2, _, h3, rfl⟩
end
def Zjp : Nat → List AV → Option AV := fun g args => match args with
  | [.str s] => bif Nat.beq g 34 && (Nat.ble 1 (Zb s) && Nat.blt (Zb s) 4294967296) then some (.tup [.str (Y9 s).1, .int .i64 (.ofNat (Y9 s).2.1), .int .i64 (.ofNat (Y9 s).2.2)]) else none
  | _ => none
theorem Z85 : Qm Tryd.prog gl (Zx Zjp) := Km fun g args v h => by
  unfold Zjp at h
  split at h
  case h_2 => cases h
  rename_i s
  rw [Bool.cond_eq_ite] at h
  split at h
  case isFalse => cases h
  rename_i hb
  simp only [Bool.and_eq_true, Nat.beq_eq, Nat.blt_eq, Nat.ble_eq] at hb
  obtain ⟨rfl, h1, hs⟩ := hb
  simp only [Option.some.injEq] at h
  subst h
  exact ⟨Yb, K3, Ql, Wl, Z6a, Z2 rfl, Ji rfl, fun w hw => Ydh (Ql w hw) (Zt hw) h1 hs⟩
end
end Go.Proofs.YtdpkmhnpbbapcaaDoor
