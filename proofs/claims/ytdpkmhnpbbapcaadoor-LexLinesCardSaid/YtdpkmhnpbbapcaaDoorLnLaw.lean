/- LexLines: the walk. -/
import Derived.Test.YtdpkmhnpbbapcaaDoorLnSm
import Derived.Test.YtdpkmhnpbbapcaaDoorLxSame
import Derived.Test.YtdpkmhnpbbapcaaDoorVaiFrame3
import Derived.KernelRfl
namespace Go.Proofs.YtdpkmhnpbbapcaaDoor
open Go Go.Vai
noncomputable section
set_option maxRecDepth 100000
def Zvj (s : List UInt8) : Bool := Nat.blt (Zb s) 1048576 && (Wa s).isSome
def Zxi (s : List UInt8) : Bool := Nat.blt (Zb s) 1048576 && (Wa s).isNone
def lnA (s : List UInt8) : Nat := ((Wa s).getD (0, 0, 0)).1
def lnB (s : List UInt8) : Nat := ((Wa s).getD (0, 0, 0)).2.1
def lnC (s : List UInt8) : Nat := ((Wa s).getD (0, 0, 0)).2.2
def lnN (s : List UInt8) : Nat := (Za7 s).length
def Zcn (s : List UInt8) (H : AHeap) : AHeap := news H (lnO H.next (Za7 s))
def Z8r {α : Type} (args : List AV) (H : AHeap) (k : AV → AHeap → Option α) : Option α := match args with
  | [.str s] => bc (Zvj s) (k (.tup [.nils, .int .i64 (.ofNat (lnA s)), .int .i64 (.ofNat (lnB s)), .int .i64 (.ofNat (lnC s))]) H) none
  | _ => none
def Z7c {α : Type} (args : List AV) (H : AHeap) (k : AV → AHeap → Option α) : Option α := match args with
  | [.str s] => bc (Zxi s) (k (.tup [.sl H.next 0 (lnN s) none, .int .i64 (.ofNat 0), .int .i64 (.ofNat 0), .int .i64 (.ofNat 0)]) (Zcn s H)) none
  | _ => none
theorem Zmd (f : Nat) {α : Type} {args : List AV} {H : AHeap} {k : AV → AHeap → Option α} {r : α} (h : Z8r args H k = some r) : ∃ v H', Qe f f args H = some (v, H') ∧ k v H' = some r := by
  unfold Z8r at h
  split at h
  case h_2 => cases h
  rename_i s
  obtain ⟨h1, h⟩ := Zr h
  unfold Zvj at h1
  rw [Bool.and_eq_true] at h1
  refine ⟨_, _, ?_, h⟩
  unfold Qe Z6l lnA lnB lnC
  cases hF : Wa s with
  | none => rw [hF] at h1; cases h1.2
  | some x =>
    obtain ⟨a, b, c⟩ := x
    simp only [hF, Nat.beq_refl, h1.1, Bool.and_self, cond_true, Option.getD_some]
theorem Zmt (f : Nat) {α : Type} {args : List AV} {H : AHeap} {k : AV → AHeap → Option α} {r : α} (h : Z7c args H k = some r) : ∃ v H', Qe f f args H = some (v, H') ∧ k v H' = some r := by
  unfold Z7c at h
  split at h
  case h_2 => cases h
  rename_i s
  obtain ⟨h1, h⟩ := Zr h
  unfold Zxi at h1
  rw [Bool.and_eq_true] at h1
  refine ⟨_, _, ?_, h⟩
  unfold Qe Z6l lnN Zcn
  cases hF : Wa s with
  | some x => rw [hF] at h1; cases h1.2
  | none => simp only [hF, Nat.beq_refl, h1.1, Bool.and_self, cond_true]
def sqT (a o : Nat) (c : Option Nat) (b o2 : Nat) (c2 : Option Nat) : Bool := Nat.beq a 10 && (Nat.beq b 11 && (Nat.beq o 0 && (Nat.beq o2 0 && (c.isNone && c2.isNone))))
def Z6o {α : Type} (args : List AV) (H : AHeap) (k : AV → AHeap → Option α) : Option α := match args with
  | [.nils, .nils] => k (.bool true) H
  | [.sl a o m c, .sl b o2 m2 c2] => bc (sqT a o c b o2 c2) (match H.get 10, H.get 11 with
    | some (.cells n T _ _ _ _ _), some (.cells n2 T2 _ _ _ _ _) => bc (Ztm m n T m2 n2 T2) (k (.bool true) H) none
    | _, _ => none) none
  | _ => none
theorem Zmp {α : Type} {args : List AV} {H : AHeap} {k : AV → AHeap → Option α} {r : α} (h : Z6o args H k = some r) : ∃ v H', Zjr 8 args H = some (v, H') ∧ k v H' = some r := by
  unfold Z6o at h
  split at h
  · exact ⟨_, _, rfl, h⟩
  · rename_i a o m c b o2 m2 c2
    obtain ⟨h0, h5⟩ := Zr h
    clear h
    unfold sqT at h0
    simp only [Bool.and_eq_true, Nat.beq_eq, Option.isNone_iff_eq_none] at h0
    obtain ⟨rfl, rfl, rfl, rfl, rfl, rfl⟩ := h0
    split at h5
    case h_2 => cases h5
    rename_i hga hgb
    obtain ⟨h1, h6⟩ := Zr h5
    refine ⟨_, _, ?_, h6⟩
    unfold Zjr
    simp only [hga, hgb, h1, Nat.beq_refl, Bool.and_self, cond_true]
  · cases h
theorem Zgl {g : Nat} (h : g ≠ 5) (args : List AV) (H : AHeap) : Zqt 5 true g args H = none := by
  unfold Zqt
  split
  · rw [Znf h]; rfl
  · rfl
theorem Zbh {f g : Nat} (h : g ≠ f) (args : List AV) (H : AHeap) : Qe f g args H = none := by
  unfold Qe
  split
  · rw [Znf h]; rfl
  · rfl
theorem W4 {a b : Sm} {f : Nat} {args : List AV} {H : AHeap} {r : AV × AHeap} (h : a f args H = none) (h2 : b f args H = some r) : Wv a b f args H = some r := (Za0 h).trans h2
def Vb : Env := V3 Tryd.prog 8 [5, 6, 7, 8] (Wv (Zqt 5 true) (Wv (Qe 6) (Wv (Qe 7) Zjr)))
theorem Z1n (w : World) (hw : Yf gl w) : EnvOk Vb Tryd.prog (Kept gl w) := Vp (by kernel_rfl) ((Zyr Zvy).or (Yga.or (Yhx.or Z75))) W1 (fun _ _ _ h => h.1) (Zt hw).ext
def Za2 {α : Type} : Smk α := fun f args H k => bif Nat.beq f 6 then Z8r args H k else bif Nat.beq f 7 then Z8r args H k else bif Nat.beq f 8 then Z6o args H k else smC Vb f args H k
theorem Z8d {α : Type} : Vj (α := α) Vb Za2 := by
  intro f args H k r h
  unfold Za2 at h
  simp only [Bool.cond_eq_ite, Nat.beq_eq] at h
  split at h
  · rename_i e
    subst e
    obtain ⟨u, H', h1, h2⟩ := Zmd 6 h
    exact ⟨u, H', W4 (Zgl (by decide) args H) (Q0 h1), h2⟩
  split at h
  · rename_i e
    subst e
    obtain ⟨u, H', h1, h2⟩ := Zmd 7 h
    exact ⟨u, H', W4 (Zgl (by decide) args H) (W4 (Zbh (by decide) args H) (Q0 h1)), h2⟩
  split at h
  · rename_i e
    subst e
    obtain ⟨u, H', h1, h2⟩ := Zmp h
    exact ⟨u, H', W4 (Zgl (by decide) args H) (W4 (Zbh (by decide) args H) (W4 (Zbh (by decide) args H) h1)), h2⟩
  · exact Vr _ _ _ _ _ _ h
theorem W7 {α : Type} : POk (α := α) (Zk Vb Za2 Zn 9) (run Vb 9) := Xs Vb Z8d Zn 9
def Z6p {α : Type} : Smk α := fun f args H k => bif Nat.beq f 6 then Z7c args H k else bif Nat.beq f 7 then Z7c args H k else bif Nat.beq f 8 then Z6o args H k else smC Vb f args H k
theorem Z7s {α : Type} : Vj (α := α) Vb Z6p := by
  intro f args H k r h
  unfold Z6p at h
  simp only [Bool.cond_eq_ite, Nat.beq_eq] at h
  split at h
  · rename_i e
    subst e
    obtain ⟨u, H', h1, h2⟩ := Zmt 6 h
    exact ⟨u, H', W4 (Zgl (by decide) args H) (Q0 h1), h2⟩
  split at h
  · rename_i e
    subst e
    obtain ⟨u, H', h1, h2⟩ := Zmt 7 h
    exact ⟨u, H', W4 (Zgl (by decide) args H) (W4 (Zbh (by decide) args H) (Q0 h1)), h2⟩
  split at h
  · rename_i e
    subst e
    obtain ⟨u, H', h1, h2⟩ := Zmp h
    exact ⟨u, H', W4 (Zgl (by decide) args H) (W4 (Zbh (by decide) args H) (W4 (Zbh (by decide) args H) h1)), h2⟩
  · exact Vr _ _ _ _ _ _ h
theorem Ydv {α : Type} : POk (α := α) (Zk Vb Z6p Zn 9) (run Vb 9) := Xs Vb Z7s Zn 9
def Qw : AFunc := (Vb.fn 3).getD default
theorem Yed : Vb.fn 3 = some Qw := by kernel_rfl
theorem Z86 : Qw.results = [2].map .tmp := by kernel_rfl
theorem Zzw : flat Qw.body = (flat Qw.body).take 6 ++ .block 0 (.loop (Zc [6, 0] Qw.body)) :: ((flat Qw.body).take 9).drop 7 := by kernel_rfl
theorem Zwh : flat (Zc [6, 0] Qw.body) = ((flat (Zc [6, 0] Qw.body)).take 2).drop 0 ++ .block 1 (Zc [6, 0, 2] Qw.body) :: ((flat (Zc [6, 0] Qw.body)).take 4).drop 3 := by kernel_rfl
theorem Zw1 : flat (Zc [6, 0, 2] Qw.body) = ((flat (Zc [6, 0, 2] Qw.body)).take 2).drop 0 ++ (((flat (Zc [6, 0, 2] Qw.body)).take 5).drop 2 ++ [.block 2 (.loop (Zc [6, 0, 2, 5, 0] Qw.body))]) := by kernel_rfl
theorem Zml : flat (Zc [6, 0, 2, 5, 0] Qw.body) = ((flat (Zc [6, 0, 2, 5, 0] Qw.body)).take 2).drop 0 ++ .block 3 (Zc [6, 0, 2, 5, 0, 2] Qw.body) :: ((flat (Zc [6, 0, 2, 5, 0] Qw.body)).take 4).drop 3 := by kernel_rfl
theorem Zwe : flat (Zc [6, 0, 2, 5, 0, 2] Qw.body) = ((flat (Zc [6, 0, 2, 5, 0, 2] Qw.body)).take 3).drop 0 ++ [.block 4 (.loop (Zc [6, 0, 2, 5, 0, 2, 3, 0] Qw.body))] := by kernel_rfl
theorem Z9h (s : List UInt8) (i : Nat) : Zh Vb (Zk Vb Za2 Zn 9) (((flat (Zc [6, 0, 2] Qw.body)).take 2).drop 0) (Ya [0, 3, 4, 5, 6, 7, 8, 9, 10, 11] []) (Zd 89 [0, 3] [.str s, .int .i64 (.ofNat i)]) (Xl 8 [] 0) (pO 0 0) = bc (Zvj s) (bc (Zvj s) (lg .normal 89 8 ([.str s, .int .i64 (.ofNat i), .nils, .int .i64 (.ofNat (lnA s)), .int .i64 (.ofNat (lnB s)), .int .i64 (.ofNat (lnC s)), .nils, .int .i64 (.ofNat (lnA s)), .int .i64 (.ofNat (lnB s)), .int .i64 (.ofNat (lnC s))].map some) []) none) none := by kernel_rfl
theorem Z7r (s : List UInt8) (i : Nat) : Zh Vb (Zk Vb Z6p Zn 9) (((flat (Zc [6, 0, 2] Qw.body)).take 2).drop 0) (leafW [0, 3, 4, 5, 6, 7, 8, 9, 10, 11]) (Zd 89 [0, 3] [.str s, .int .i64 (.ofNat i)]) (Zs 8 []) (pO 0 0) = bc (Zxi s) (bc (Zxi s) (lw .normal 89 ([.str s, .int .i64 (.ofNat i), .sl 8 0 (lnN s) none, .int .i64 (.ofNat 0), .int .i64 (.ofNat 0), .int .i64 (.ofNat 0), .sl (Zcn s (Zs 8 [])).next 0 (lnN s) none, .int .i64 (.ofNat 0), .int .i64 (.ofNat 0), .int .i64 (.ofNat 0)].map some) (Zcn s (Zcn s (Zs 8 [])))) none) none := by kernel_rfl
theorem Ybh (s : List UInt8) : Zh Vb (Zk Vb Za2 Zn 9) ((flat Qw.body).take 5) (Ya [2] []) (Z8 Qw [.str s]) (Xl 8 [] 0) (pO 2 2) = bc (Nat.blt 262154 (Zb s)) (lg .ret 89 8 ([.bool true].map some) []) (none) := by kernel_rfl
theorem Yb4 (s : List UInt8) : Zh Vb (Zk Vb Za2 Zn 9) ((flat Qw.body).take 6) (Ya [0, 3] []) (Z8 Qw [.str s]) (Xl 8 [] 0) (pO 2 0) = bc (Nat.blt 262154 (Zb s)) (none) (lg .normal 89 8 ([.str s, .int .i64 (.ofNat 0)].map some) []) := by kernel_rfl
theorem Z6r (s : List UInt8) (i : Nat) : Zh Vb (Zk Vb Za2 Zn 9) (((flat (Zc [6, 0] Qw.body)).take 2).drop 0) (Ya [0, 3] []) (Zd 89 [0, 3] [.str s, .int .i64 (.ofNat i)]) (Xl 8 [] 0) (pO 1 1) = bc (Nat.blt i 2) (lg .normal 89 8 ([.str s, .int .i64 (.ofNat i)].map some) []) (none) := by kernel_rfl
theorem Z6b (s : List UInt8) (i : Nat) : Zh Vb (Zk Vb Za2 Zn 9) (((flat (Zc [6, 0] Qw.body)).take 2).drop 0) (Ya [0, 3] []) (Zd 89 [0, 3] [.str s, .int .i64 (.ofNat i)]) (Xl 8 [] 0) (pO 1 0) = bc (Nat.blt i 2) (none) (lg (.exit 0) 89 8 ([.str s, .int .i64 (.ofNat i)].map some) []) := by kernel_rfl
theorem Ybe (s : List UInt8) (i : Nat) : Zh Vb (Zk Vb Za2 Zn 9) (((flat (Zc [6, 0] Qw.body)).take 4).drop 3) (Ya [0, 3] []) (Zd 89 [0, 3] [.str s, .int .i64 (.ofNat i)]) (Xl 8 [] 0) (pO 0 0) = lg .normal 89 8 ([.str s, .int .i64 (up i)].map some) [] := by kernel_rfl
theorem Ycu  : Zh Vb (Zk Vb Za2 Zn 9) (((flat Qw.body).take 9).drop 7) (Ya [2] []) (Zd 89 [] []) (Xl 8 [] 0) (pO 0 0) = lg .ret 89 8 ([.bool true].map some) [] := by kernel_rfl
theorem Yco (s : List UInt8) (i a b c : Nat) : Zh Vb (Zk Vb Za2 Zn 9) (((flat (Zc [6, 0, 2] Qw.body)).take 5).drop 2) (Ya [0, 3, 4, 8, 12] []) (Zd 89 [0, 3, 4, 5, 6, 7, 8, 9, 10, 11] [.str s, .int .i64 (.ofNat i), .nils, .int .i64 (.ofNat a), .int .i64 (.ofNat b), .int .i64 (.ofNat c), .nils, .int .i64 (.ofNat a), .int .i64 (.ofNat b), .int .i64 (.ofNat c)]) (Xl 8 [] 0) (pO 12 0) = bc (!(Nat.beq a a)) (none) (bc (!(Nat.beq b b)) (none) (bc (!(Nat.beq c c)) (none) (lg .normal 89 8 ([.str s, .int .i64 (.ofNat i), .nils, .nils, .int .i64 (.ofNat 0)].map some) []))) := by kernel_rfl
theorem Ydz (s : List UInt8) (i N : Nat) : Zh Vb (Zk Vb Za2 Zn 9) (((flat (Zc [6, 0, 2] Qw.body)).take 5).drop 2) (Ya [0, 3, 4, 8, 12] []) (Zd 89 [0, 3, 4, 5, 6, 7, 8, 9, 10, 11] [.str s, .int .i64 (.ofNat i), .sl 8 0 N none, .int .i64 (.ofNat 0), .int .i64 (.ofNat 0), .int .i64 (.ofNat 0), .sl 9 0 N none, .int .i64 (.ofNat 0), .int .i64 (.ofNat 0), .int .i64 (.ofNat 0)]) (Xl 8 [] 2) (pO 12 0) = bc (!(Nat.beq N N)) (none) (lg .normal 89 10 ([.str s, .int .i64 (.ofNat i), .sl 8 0 N none, .sl 9 0 N none, .int .i64 (.ofNat 0)].map some) []) := by kernel_rfl
theorem Z7t (s : List UInt8) (i : Nat) : Zh Vb (Zk Vb Za2 Zn 9) (((flat (Zc [6, 0, 2, 5, 0] Qw.body)).take 2).drop 0) (Ya [0, 3] []) (Zd 89 [0, 3, 4, 8, 12] [.str s, .int .i64 (.ofNat i), .nils, .nils, .int .i64 (.ofNat 0)]) (Xl 8 [] 0) (pO 1 0) = lg (.exit 2) 89 8 ([.str s, .int .i64 (.ofNat i)].map some) [] := by kernel_rfl
theorem Z73 (s : List UInt8) (i N j : Nat) : Zh Vb (Zk Vb Za2 Zn 9) (((flat (Zc [6, 0, 2, 5, 0] Qw.body)).take 2).drop 0) (Ya [0, 3, 4, 8, 12] []) (Zd 89 [0, 3, 4, 8, 12] [.str s, .int .i64 (.ofNat i), .sl 8 0 N none, .sl 9 0 N none, .int .i64 (.ofNat j)]) (Xl 8 [] 2) (pO 1 1) = bc (Nat.blt j N) (lg .normal 89 10 ([.str s, .int .i64 (.ofNat i), .sl 8 0 N none, .sl 9 0 N none, .int .i64 (.ofNat j)].map some) []) (none) := by kernel_rfl
theorem Z6s (s : List UInt8) (i N j : Nat) : Zh Vb (Zk Vb Za2 Zn 9) (((flat (Zc [6, 0, 2, 5, 0] Qw.body)).take 2).drop 0) (Ya [0, 3] []) (Zd 89 [0, 3, 4, 8, 12] [.str s, .int .i64 (.ofNat i), .sl 8 0 N none, .sl 9 0 N none, .int .i64 (.ofNat j)]) (Xl 8 [] 2) (pO 1 0) = bc (Nat.blt j N) (none) (lg (.exit 2) 89 10 ([.str s, .int .i64 (.ofNat i)].map some) []) := by kernel_rfl
theorem Z9e (s : List UInt8) (i N j : Nat) (T T2 : Tr AV) : Zh Vb (Zk Vb Za2 Zn 9) (((flat (Zc [6, 0, 2, 5, 0, 2] Qw.body)).take 3).drop 0) (Ya [0, 3, 4, 8, 12, 13] []) (Zd 89 [0, 3, 4, 8, 12] [.str s, .int .i64 (.ofNat i), .sl 8 0 N none, .sl 9 0 N none, .int .i64 (.ofNat j)]) (Xl 8 [.cells N T 28 (some 1) 0 true false, .cells N T2 28 (some 1) 0 true false] 0) (pO 1 0) = bc (Nat.blt j N) (bc (Za9 (Tr.get T (Yl j))) (bc (Nat.blt j N) (bc (Za9 (Tr.get T2 (Yl j))) (bc (sqT (slI (Tr.get T (Yl j))) (slO (Tr.get T (Yl j))) (slC (Tr.get T (Yl j))) (slI (Tr.get T2 (Yl j))) (slO (Tr.get T2 (Yl j))) (slC (Tr.get T2 (Yl j)))) (none) (none)) (bc (isN (Tr.get T2 (Yl j))) (none) (bc (isZ (Tr.get T2 (Yl j))) (none) (none)))) (none)) (bc (isN (Tr.get T (Yl j))) (bc (Nat.blt j N) (bc (Za9 (Tr.get T2 (Yl j))) (none) (bc (isN (Tr.get T2 (Yl j))) (lg .normal 89 10 ([.str s, .int .i64 (.ofNat i), .sl 8 0 N none, .sl 9 0 N none, .int .i64 (.ofNat j), .int .i64 (.ofNat 0)].map some) []) (bc (isZ (Tr.get T2 (Yl j))) (none) (none)))) (none)) (bc (isZ (Tr.get T (Yl j))) (bc (Nat.blt j N) (bc (Za9 (Tr.get T2 (Yl j))) (none) (bc (isN (Tr.get T2 (Yl j))) (none) (bc (isZ (Tr.get T2 (Yl j))) (none) (none)))) (none)) (none)))) (none) := by kernel_rfl
theorem Z5n (s : List UInt8) (i N j m m2 : Nat) (T T2 R R2 : Tr AV) : Zh Vb (Zk Vb Za2 Zn 9) (((flat (Zc [6, 0, 2, 5, 0, 2] Qw.body)).take 3).drop 0) (Ya [0, 3, 4, 8, 12, 13] []) (Zd 89 [0, 3, 4, 8, 12] [.str s, .int .i64 (.ofNat i), .sl 8 0 N none, .sl 9 0 N none, .int .i64 (.ofNat j)]) (Xl 8 [.cells N T 28 (some 1) 0 true false, .cells N T2 28 (some 1) 0 true false, .cells m R 31 (some 4) 0 true false, .cells m2 R2 31 (some 4) 0 true false] 0) (pO 1 0) = bc (Nat.blt j N) (bc (Za9 (Tr.get T (Yl j))) (bc (Nat.blt j N) (bc (Za9 (Tr.get T2 (Yl j))) (bc (sqT (slI (Tr.get T (Yl j))) (slO (Tr.get T (Yl j))) (slC (Tr.get T (Yl j))) (slI (Tr.get T2 (Yl j))) (slO (Tr.get T2 (Yl j))) (slC (Tr.get T2 (Yl j)))) (bc (Ztm (slN (Tr.get T (Yl j))) m R (slN (Tr.get T2 (Yl j))) m2 R2) (lg .normal 89 12 ([.str s, .int .i64 (.ofNat i), .sl 8 0 N none, .sl 9 0 N none, .int .i64 (.ofNat j), .int .i64 (.ofNat 0)].map some) []) (none)) (none)) (bc (isN (Tr.get T2 (Yl j))) (none) (bc (isZ (Tr.get T2 (Yl j))) (none) (none)))) (none)) (bc (isN (Tr.get T (Yl j))) (bc (Nat.blt j N) (bc (Za9 (Tr.get T2 (Yl j))) (none) (bc (isN (Tr.get T2 (Yl j))) (lg .normal 89 12 ([.str s, .int .i64 (.ofNat i), .sl 8 0 N none, .sl 9 0 N none, .int .i64 (.ofNat j), .int .i64 (.ofNat 0)].map some) []) (bc (isZ (Tr.get T2 (Yl j))) (none) (none)))) (none)) (bc (isZ (Tr.get T (Yl j))) (bc (Nat.blt j N) (bc (Za9 (Tr.get T2 (Yl j))) (none) (bc (isN (Tr.get T2 (Yl j))) (none) (bc (isZ (Tr.get T2 (Yl j))) (none) (none)))) (none)) (none)))) (none) := by kernel_rfl
theorem Yem (s : List UInt8) (i N j : Nat) (T : Tr AV) : Zh Vb (Zk Vb Za2 Zn 9) (flat (Zc [6, 0, 2, 5, 0, 2, 3, 0] Qw.body)) (Ya [0, 3, 4, 8, 12] []) (Zd 89 [0, 3, 4, 8, 12, 13] [.str s, .int .i64 (.ofNat i), .sl 8 0 N none, .sl 9 0 N none, .int .i64 (.ofNat j), .int .i64 (.ofNat 0)]) (Xl 8 [.cells N T 28 (some 1) 0 true false] 1) (pO 1 0) = bc (Nat.blt j N) (bc (Za9 (Tr.get T (Yl j))) (bc (Nat.blt 0 (slN (Tr.get T (Yl j)))) (none) (lg (.exit 4) 89 10 ([.str s, .int .i64 (.ofNat i), .sl 8 0 N none, .sl 9 0 N none, .int .i64 (.ofNat j)].map some) [])) (bc (isN (Tr.get T (Yl j))) (lg (.exit 4) 89 10 ([.str s, .int .i64 (.ofNat i), .sl 8 0 N none, .sl 9 0 N none, .int .i64 (.ofNat j)].map some) []) (bc (isZ (Tr.get T (Yl j))) (lg (.exit 4) 89 10 ([.str s, .int .i64 (.ofNat i), .sl 8 0 N none, .sl 9 0 N none, .int .i64 (.ofNat j)].map some) []) (none)))) (none) := by kernel_rfl
theorem Ydy (s : List UInt8) (i N j q : Nat) (T : Tr AV) : Zd8 Vb (Yhw [(77, 9), (85, 9)]) (Zk Vb Za2 Zn 9) (flat (Zc [6, 0, 2, 5, 0, 2, 3, 0] Qw.body)) (Ya [0, 3, 4, 8, 12] []) (Zd 89 [0, 3, 4, 8, 12, 13] [.str s, .int .i64 (.ofNat i), .sl 8 0 N none, .sl 10 0 N none, .int .i64 (.ofNat j), .int .i64 (.ofNat q)]) (Xl 8 [.cells N T 28 (some 1) 0 true false] 2) (pO 1 0) = bc (Nat.blt j N) (bc (Za9 (Tr.get T (Yl j))) (bc (Nat.beq (slI (Tr.get T (Yl j))) 9) (bc (Nat.beq (slO (Tr.get T (Yl j))) 0) (bc (Nat.blt q (slN (Tr.get T (Yl j)))) (none) (lg (.exit 4) 89 11 ([.str s, .int .i64 (.ofNat i), .sl 8 0 N none, .sl 10 0 N none, .int .i64 (.ofNat j)].map some) [])) (none)) (none)) (bc (isN (Tr.get T (Yl j))) (none) (bc (isZ (Tr.get T (Yl j))) (none) (none)))) (none) := by kernel_rfl
theorem Ycy (s : List UInt8) (i N j q m : Nat) (T R : Tr AV) : Zd8 Vb (Yhw [(77, 9), (85, 9)]) (Zk Vb Za2 Zn 9) (flat (Zc [6, 0, 2, 5, 0, 2, 3, 0] Qw.body)) (Ya [0, 3, 4, 8, 12, 13] [9]) (Zd 89 [0, 3, 4, 8, 12, 13] [.str s, .int .i64 (.ofNat i), .sl 8 0 N none, .sl 10 0 N none, .int .i64 (.ofNat j), .int .i64 (.ofNat q)]) (Xl 8 [.cells N T 28 (some 1) 0 true false, .cells m R 31 (some 4) 0 false false] 1) (pO 1 1) = bc (Nat.blt j N) (bc (Za9 (Tr.get T (Yl j))) (bc (Nat.beq (slI (Tr.get T (Yl j))) 9) (bc (Nat.beq (slO (Tr.get T (Yl j))) 0) (bc (Nat.blt q (slN (Tr.get T (Yl j)))) (bc (Nat.blt j N) (bc (Za9 (Tr.get T (Yl j))) (bc (Nat.beq (slI (Tr.get T (Yl j))) 9) (bc (Nat.beq (slO (Tr.get T (Yl j))) 0) (bc (Nat.blt q (slN (Tr.get T (Yl j)))) (bc (Nat.ble (Nat.succ (Nat.succ (Nat.add 0 (Nat.mul q 4)))) m) (lg .normal 89 11 ([.str s, .int .i64 (.ofNat i), .sl 8 0 N none, .sl 10 0 N none, .int .i64 (.ofNat j), .int .i64 (up q)].map some) [some (.cells m (Tr.putAll R (Nat.succ (Nat.add 0 (Nat.mul q 4))) [.str [115, 112, 111, 105, 108, 116]]) 31 (some 4) 0 false false)]) (none)) (none)) (none)) (none)) (bc (isN (Tr.get T (Yl j))) (none) (bc (isZ (Tr.get T (Yl j))) (none) (none)))) (none)) (none)) (none)) (none)) (bc (isN (Tr.get T (Yl j))) (none) (bc (isZ (Tr.get T (Yl j))) (none) (none)))) (none) := by kernel_rfl
theorem Ydg (s : List UInt8) (i N j : Nat) : Zh Vb (Zk Vb Za2 Zn 9) (((flat (Zc [6, 0, 2, 5, 0] Qw.body)).take 4).drop 3) (Ya [0, 3, 4, 8, 12] []) (Zd 89 [0, 3, 4, 8, 12] [.str s, .int .i64 (.ofNat i), .sl 8 0 N none, .sl 9 0 N none, .int .i64 (.ofNat j)]) (Xl 8 [] 2) (pO 0 0) = lg .normal 89 10 ([.str s, .int .i64 (.ofNat i), .sl 8 0 N none, .sl 9 0 N none, .int .i64 (up j)].map some) [] := by kernel_rfl
structure Two (H : AHeap) (oB : Nat) (ia ib : List (Option Nat)) (ls : List WL) : Prop where
  a : LI H 8 ia ls
  b : LI H oB ib ls
  sep : ∀ i, i ∈ 8 :: ia.filterMap id → i ∈ oB :: ib.filterMap id → False
theorem Zpf (k : Nat) : (Zs 8 []).get k = none := rfl
theorem Zzo {ls : List WL} (hl : ls.length ≤ 16384) : Two (news (news (Zs 8 []) (lnO (Zs 8 []).next ls)) (lnO (news (Zs 8 []) (lnO (Zs 8 []).next ls)).next ls)) (news (Zs 8 []) (lnO (Zs 8 []).next ls)).next (Vm 9 ls) (Vm ((news (Zs 8 []) (lnO (Zs 8 []).next ls)).next + 1) ls) ls := by
  have hc := Zof ls
  have h0 : (Zs 8 []).next = 8 := rfl
  have e1 : LI (news (Zs 8 []) (lnO (Zs 8 []).next ls)) 8 (Vm 9 ls) ls := LI.fresh (H := Zs 8 []) (Nat.le_refl _) (by rw [h0]; omega) fun k _ => Zpf k
  have hat : ∀ k, (news (Zs 8 []) (lnO (Zs 8 []).next ls)).get k = if k < (Zs 8 []).next then (Zs 8 []).get k else (lnO (Zs 8 []).next ls)[k - (Zs 8 []).next]? := fun k => Zik _ _ _ (by rw [Zcl, h0]; omega) fun k _ => Zpf k
  have hn : (news (Zs 8 []) (lnO (Zs 8 []).next ls)).next = 8 + (cnt ls + 1) := by rw [Jm, Zcl]; rfl
  have hfr : ∀ k, (news (Zs 8 []) (lnO (Zs 8 []).next ls)).next ≤ k → (news (Zs 8 []) (lnO (Zs 8 []).next ls)).get k = none := fun k hk => by
    rw [hat, h0, if_neg (by omega)]
    exact List.getElem?_eq_none (by rw [Zcl]; omega)
  generalize (news (Zs 8 []) (lnO (Zs 8 []).next ls)) = H1 at e1 hn hfr
  have e2 := LI.fresh (H := H1) (ls := ls) (by omega) (by omega) hfr
  have hat2 : ∀ k, (news H1 (lnO H1.next ls)).get k = if k < H1.next then H1.get k else (lnO H1.next ls)[k - H1.next]? := fun k => Zik _ _ _ (by rw [Zcl]; omega) hfr
  refine ⟨e1.mono (fun id u hu => ?_) (by rw [Jm]; omega), e2, fun i hi hi2 => ?_⟩
  · rw [hat2]
    by_cases h : id < H1.next
    · rw [if_pos h]; exact hu
    · rw [hfr id (by omega)] at hu; cases hu
  · have h1 := (e1.lt i hi).2
    rw [Zd0] at hi2
    rcases List.mem_cons.1 hi2 with rfl | h2
    · omega
    · have := (List.mem_range'_1.1 h2).1
      omega
theorem Zne : ∀ {ids : List (Option Nat)} {q j i : Nat}, (ids.filterMap id).Nodup → ids[q]? = some (some i) → ids[j]? = some (some i) → q = j
  | [], _, _, _, _, h, _ => by simp at h
  | none :: r, 0, _, _, _, h, _ => by cases h
  | none :: r, _ + 1, 0, _, _, _, h => by cases h
  | none :: r, q + 1, j + 1, i, hn, h1, h2 => by rw [Zne (ids := r) hn h1 h2]
  | some k :: r, 0, 0, _, _, _, _ => rfl
  | some k :: r, 0, j + 1, i, hn, h1, h2 => by
    cases h1
    exact absurd (Zcf (ids := r) h2) (List.nodup_cons.1 hn).1
  | some k :: r, q + 1, 0, i, hn, h1, h2 => by
    cases h2
    exact absurd (Zcf (ids := r) h1) (List.nodup_cons.1 hn).1
  | some k :: r, q + 1, j + 1, i, hn, h1, h2 => by rw [Zne (ids := r) (List.nodup_cons.1 hn).2 h1 h2]
def W2 (H0 : AHeap) (ia : List (Option Nat)) (j : Nat) (H : AHeap) : Prop := H0.next ≤ H.next ∧ ∀ id u, H0.get id = some u → (∀ q, q < j → ia[q]? ≠ some (some id)) → H.get id = some u
def S5 : List Nat := [0, 3, 4, 8, 12]
def wF (s : List UInt8) (i N o j : Nat) : List AV := [.str s, .int .i64 (.ofNat i), .sl 8 0 N none, .sl o 0 N none, .int .i64 (.ofNat j)]
def wG (s : List UInt8) (i N o j q : Nat) : List AV := [.str s, .int .i64 (.ofNat i), .sl 8 0 N none, .sl o 0 N none, .int .i64 (.ofNat j), .int .i64 (.ofNat q)]
def vw (j : Nat) (y : AV) : Tr AV := Tr.nil.putAll j [y]
theorem Zl0 {j : Nat} {y : AV} (hj : j < 1048576) : Tr.get (vw j y) (Yl j) = some y := by
  unfold vw
  rw [Zrs, Ws _ _ _ _ (by simp only [List.length_cons, List.length_nil]; omega), if_pos (by simp only [List.length_cons, List.length_nil]; omega), Nat.sub_self]; rfl
section
variable {D : Nat → Prop} {pl : Nat → Nat × Nat} {τ : Nat → AV} {θ : Nat → Tag} {K : List Nat}
theorem Zb5 {id N j : Nat} {T : Tr AV} {x y : AV} (hx : T.get j = some x) (hr : X0 0 K x = some y) : Jc K D pl τ θ id (.cells N T 28 (some 1) 0 false false) (.cells N (vw j y) 28 (some 1) 0 true false) := by
  refine .inr (.inr ⟨_, _, _, _, _, _, _, _, _, _, _, _, rfl, rfl, .inr rfl, fun i z hz => ?_⟩)
  rcases Tr.get_putAll _ hz with ⟨q, rfl, hq⟩ | ⟨_, hu⟩
  · match q, hq with
    | 0, hq => cases hq; exact ⟨x, hx, .inl hr⟩
    | q + 1, hq => simp at hq
  · simp [Tr.get_nil] at hu
theorem Zox {id : Nat} (ws : WL) : Jc K D pl τ θ id (J6 ws) (.cells (ws.length * 4) (WT ws) 31 (some 4) 0 true false) :=
  .inr (.inr ⟨_, _, _, _, _, _, _, _, _, _, _, _, rfl, rfl, .inr rfl, fun _ y hy => ⟨y, hy, .inl (Zg4 y (wNo ws _ y hy))⟩⟩)
end
theorem Zuh {ks xs : List Nat} {H : AHeap} (hk : FrK 8 ks xs H) {i k : Nat} (h : (kN 8 ks xs)[k]? = some i) (n : Nat) : X0 0 (kN 8 ks xs) (.sl i 0 n none) = some (.sl k 0 n none) := by
  simp only [X0, Jy hk.all h, Nat.zero_add]
section
variable {P : Program} {I : List MEnt → AHeap → World → Prop} {ro : Option Nat}
theorem Wb (hE : EnvOk Vb P I) (hI : Carried I) {pn : Pin} {l m : List Code} {orc : Wh} {H : AHeap} {fr fr' : AFr} {os : List AObj} {ks xs : List Nat} {e : AExit} {nx : Nat} {S2 : List Nat} {vs : List AV} {Q : TQ} {cl : PCl LeafG} (hc : POk cl (Go.Vai.run Vb 9)) (hk : FrK 8 ks xs H) (hfr : FrIn (kN 8 ks xs) fr fr') (hl : os.length = ks.length) (hro : ∀ u ∈ os, u.isRo = true)
    (hos : ∀ (j : Nat) u, os[j]? = some u → ∃ i o, ks[j]? = some i ∧ H.get i = some o ∧ Jc (kN 8 ks xs) (fun _ => False) (fun _ => (0, 0)) (fun _ => .nils) (fun _ => (0, 0, 0, 0, 0)) i o u)
    (heq : Zd8 Vb pn cl l (Ya S2 []) fr' (Xl 8 os xs.length) orc = lg e 89 nx (vs.map some) []) (hp : ∀ v, e ≠ .panic v) (hx : Zbi vs = true)
    (hq : ∀ Hb, (∀ id u, H.get id = some u → Hb.get id = some u) → Hb.next = H.next + (nx - (8 + (ks.length + xs.length))) → (e = .normal ∧ Yd Vb P I ro m (Zd 89 S2 (vs.map (V2 (Q9 (kN 8 ks xs) H.next) (fun _ => .nils)))) Hb Q) ∨ (e ≠ .normal ∧ Q e (Zd 89 S2 (vs.map (V2 (Q9 (kN 8 ks xs) H.next) (fun _ => .nils)))) Hb)) : Yd Vb P I ro (l ++ m) fr H Q :=
  Yd.framePn hE hI hc (D := fun _ => False) (pl := fun _ => (0, 0)) (τ := fun _ => .nils) (os := fun _ => os) (os2 := fun _ => []) (fun _ => heq) hk hfr (fun _ => hl) (fun j hj => hj.elim) (fun θ j u hj => by
    obtain ⟨i, o, a1, a2, a3⟩ := hos j u hj
    refine ⟨i, o, a1, a2, ?_⟩
    rcases a3 with a3 | ⟨n, t, e, g, fz, ro, mk, t', b1, b2, b3⟩ | ⟨n, t, e, g, fz, ro, mk, e', g', fz', mk', t', b1, b2, b4, b3⟩
    · exact .inl a3
    · exact .inr (.inl ⟨n, t, e, g, fz, ro, mk, t', b1, b2, fun i y hy => by
        obtain ⟨x, c1, c2⟩ := b3 i y hy
        exact ⟨x, c1, c2.elim .inl fun ⟨j, _, hj, _⟩ => hj.elim⟩⟩)
    · exact .inr (.inr ⟨n, t, e, g, fz, ro, mk, e', g', fz', mk', t', b1, b2, b4, fun i y hy => by
        obtain ⟨x, c1, c2⟩ := b3 i y hy
        exact ⟨x, c1, c2.elim .inl fun ⟨j, _, hj, _⟩ => hj.elim⟩⟩)) hp hx (fun θ j u hj => by simp at hj) fun θ Hb out => hq Hb (fun id u hu => out.old id u hu fun j u2 _ h2 => hro u2 (List.mem_of_getElem? h2)) out.next
theorem Zby {ks : List Nat} {K : List Nat} {H : AHeap} : ∀ (j : Nat) u, ([] : List AObj)[j]? = some u → ∃ i o, ks[j]? = some i ∧ H.get i = some o ∧ Jc K (fun _ => False) (fun _ => (0, 0)) (fun _ => .nils) (fun _ => (0, 0, 0, 0, 0)) i o u := fun j u hj => by simp at hj
theorem Zbe : ∀ u ∈ ([] : List AObj), u.isRo = true := fun u hu => by cases hu
structure KS (H : AHeap) (N o j ra n : Nat) : Prop where
  n8 : 8 ≤ H.next
  k2 : FrK 8 [8, ra] [o] H
  a : ∃ T, H.get 8 = some (.cells N T 28 (some 1) 0 false false) ∧ T.get j = some (.sl ra 0 n none)
  j : j < N
  N : N < 1048576
  n : n < 1048576
theorem Z4y (hE : EnvOk Vb P I) (hI : Carried I) {s : List UInt8} {i N o j ra n q : Nat} {R : Tr AV} {H : AHeap} (h : KS H N o j ra n) (hR : noT R) (hr : H.get ra = some (.cells (n * 4) R 31 (some 4) 0 false false)) (hq : q < n) {Q : TQ}
    (hQ : ∀ Hb R2, noT R2 → Hb.get ra = some (.cells (n * 4) R2 31 (some 4) 0 false false) → Hb.next = H.next → (∀ id u, H.get id = some u → id ≠ ra → Hb.get id = some u) → Q .normal (Zd 89 [0, 3, 4, 8, 12, 13] (wG s i N o j (q + 1))) Hb) :
    Yd Vb P I ro (flat (Zc [6, 0, 2, 5, 0, 2, 3, 0] Qw.body)) (Zd 89 [0, 3, 4, 8, 12, 13] (wG s i N o j q)) H Q := by
  have hj := h.j
  have hN := h.N
  have hn := h.n
  obtain ⟨T, g1, g2⟩ := h.a
  have f1 : Nat.blt j N = true := Zm h.j
  have f2 : Tr.get (vw j (.sl 9 0 n none)) (Yl j) = some (.sl 9 0 n none) := Zl0 (by omega)
  have f3 : Nat.blt q n = true := Zm hq
  have f4 : Nat.ble (Nat.succ (Nat.succ (Nat.add 0 (Nat.mul q 4)))) (n * 4) = true := Yn (by show 0 + q * 4 + 1 + 1 ≤ n * 4; omega)
  have f5 := Yv (k := q) (by omega)
  have f6 : Za9 (some (AV.sl 9 0 n none)) = true := rfl
  have f7 : slI (some (AV.sl 9 0 n none)) = 9 := rfl
  have f8 : slO (some (AV.sl 9 0 n none)) = 0 := rfl
  have f9 : slN (some (AV.sl 9 0 n none)) = n := rfl
  have hR2 : noT (Tr.putAll R (Nat.succ (Nat.add 0 (Nat.mul q 4))) [.str [115, 112, 111, 105, 108, 116]]) := Ze7 hR fun v hv => by
    obtain rfl := List.mem_singleton.1 hv
    rfl
  rw [← List.append_nil (flat (Zc [6, 0, 2, 5, 0, 2, 3, 0] Qw.body))]
  refine Yd.framePn hE hI W7 (ks := [8, ra]) (xs := [o]) (D := fun _ => False) (pl := fun _ => (0, 0)) (τ := fun _ => .nils) (os := fun _ => [.cells N (vw j (.sl 9 0 n none)) 28 (some 1) 0 true false, .cells (n * 4) R 31 (some 4) 0 false false]) (names := [9]) (next := 11) (vs := wG s i N 10 j (q + 1))
    (os2 := fun _ => [some (.cells (n * 4) (Tr.putAll R (Nat.succ (Nat.add 0 (Nat.mul q 4))) [.str [115, 112, 111, 105, 108, 116]]) 31 (some 4) 0 false false)]) (fun _ => (Ycy s i N j q (n * 4) (vw j (.sl 9 0 n none)) R).trans (by rw [f1, f2, f6, f7, f8, f9, f3, f4, f5]; rfl)) h.k2 (FrIn.mk' (K := kN 8 [8, ra] [o]) (τ := fun _ => .nils) (nx := H.next) (vs := wG s i N 10 j q) h.k2.all rfl) (fun _ => rfl) (fun j hj => hj.elim) (fun θ j2 u hj2 => ?_) (fun v e => by cases e) rfl (fun θ j2 u hj2 => ?_) fun θ Hb out => .inl ⟨rfl, Yd.nil ?_⟩
  · match j2, hj2 with
    | 0, hj2 => cases hj2; exact ⟨8, _, rfl, g1, Zb5 g2 (Zuh h.k2 rfl n)⟩
    | 1, hj2 => cases hj2; exact ⟨ra, _, rfl, hr, .inl ⟨_, rfl, fun z y hy => ⟨y, hy, Zg4 y (hR z y hy)⟩⟩⟩
    | j2 + 2, hj2 => simp at hj2
  · match j2, hj2 with
    | 0, hj2 => cases hj2; exact Zi5 hR2
    | j2 + 1, hj2 => simp at hj2
  · have g9 := out.new 0 9 _ rfl rfl rfl
    rw [Zfc hR2] at g9
    exact hQ Hb _ hR2 g9 out.next fun id u hu hne => out.old id u hu fun j2 u2 h1 h2 => by
      match j2, h1, h2 with
      | 0, _, h2 => cases h2; rfl
      | 1, h1, _ => cases h1; exact absurd rfl hne
      | j2 + 2, h1, _ => simp at h1
theorem Ybl (hE : EnvOk Vb P I) (hI : Carried I) {s : List UInt8} {i N o j ra n : Nat} {H : AHeap} (h : KS H N o j ra n) {Q : TQ}
    (hQ : ∀ Hb, Hb.next = H.next → (∀ id u, H.get id = some u → Hb.get id = some u) → Q (.exit 4) (Zd 89 S5 (wF s i N o j)) Hb) :
    Yd Vb P I ro (flat (Zc [6, 0, 2, 5, 0, 2, 3, 0] Qw.body)) (Zd 89 [0, 3, 4, 8, 12, 13] (wG s i N o j n)) H Q := by
  have hj := h.j
  have hN := h.N
  obtain ⟨T, g1, g2⟩ := h.a
  have f1 : Nat.blt j N = true := Zm h.j
  have f2 : Tr.get (vw j (.sl 9 0 n none)) (Yl j) = some (.sl 9 0 n none) := Zl0 (by omega)
  have f3 : Nat.blt n n = false := Yg (Nat.lt_irrefl _)
  have f6 : Za9 (some (AV.sl 9 0 n none)) = true := rfl
  have f7 : slI (some (AV.sl 9 0 n none)) = 9 := rfl
  have f8 : slO (some (AV.sl 9 0 n none)) = 0 := rfl
  have f9 : slN (some (AV.sl 9 0 n none)) = n := rfl
  have hk : FrK 8 [8] [ra, o] H := ⟨h.k2.gl, h.k2.lt, h.k2.nodup⟩
  rw [← List.append_nil (flat (Zc [6, 0, 2, 5, 0, 2, 3, 0] Qw.body))]
  refine Wb hE hI W7 (nx := 11) (ks := [8]) (xs := [ra, o]) (os := [.cells N (vw j (.sl 9 0 n none)) 28 (some 1) 0 true false]) (vs := wF s i N 10 j) hk (FrIn.mk' (K := kN 8 [8] [ra, o]) (τ := fun _ => .nils) (nx := H.next) (vs := wG s i N 10 j n) hk.all rfl) rfl (fun u hu => by obtain rfl := List.mem_singleton.1 hu; rfl) (fun j2 u hj2 => ?_) ((Ydy s i N j n (vw j (.sl 9 0 n none))).trans (by rw [f1, f2, f6, f7, f8, f9, f3]; rfl)) (fun v e => by cases e) rfl fun Hb hb hnx => .inr ⟨(by intro h; cases h), hQ Hb hnx hb⟩
  match j2, hj2 with
  | 0, hj2 => cases hj2; exact ⟨8, _, rfl, g1, Zb5 g2 (Zuh hk rfl n)⟩
  | j2 + 1, hj2 => simp at hj2
theorem KS.next {H Hb : AHeap} {N o j ra n : Nat} (h : KS H N o j ra n) (hne : 8 ≠ ra) (hn : H.next ≤ Hb.next) (hb : ∀ id u, H.get id = some u → id ≠ ra → Hb.get id = some u) : KS Hb N o j ra n := by
  obtain ⟨T, g1, g2⟩ := h.a
  have h8 := h.n8
  refine ⟨by omega, ⟨by omega, fun i hi => ⟨(h.k2.lt i hi).1, Nat.lt_of_lt_of_le (h.k2.lt i hi).2 hn⟩, h.k2.nodup⟩, ⟨T, hb 8 _ g1 hne, g2⟩, h.j, h.N, h.n⟩
theorem Z80 (hE : EnvOk Vb P I) (hI : Carried I) {s : List UInt8} {i N o j ra n : Nat} {R : Tr AV} {H : AHeap} (h : KS H N o j ra n) (hR : noT R) (hr : H.get ra = some (.cells (n * 4) R 31 (some 4) 0 false false)) :
    Yk Vb P I ro (.loop (Zc [6, 0, 2, 5, 0, 2, 3, 0] Qw.body)) (Zd 89 [0, 3, 4, 8, 12, 13] (wG s i N o j 0)) H fun e fr Hb => e = .exit 4 ∧ fr = Zd 89 S5 (wF s i N o j) ∧ H.next ≤ Hb.next ∧ ∀ id u, H.get id = some u → id ≠ ra → Hb.get id = some u := by
  have hne : 8 ≠ ra := fun e => by
    have := h.k2.nodup
    subst e
    simp at this
  refine Yk.loopX (X := Nat × Tr AV × AHeap) (fr := fun x => Zd 89 [0, 3, 4, 8, 12, 13] (wG s i N o j x.1)) (H := fun x => x.2.2) (Inv := fun x => x.1 ≤ n ∧ noT x.2.1 ∧ x.2.2.get ra = some (.cells (n * 4) x.2.1 31 (some 4) 0 false false) ∧ H.next ≤ x.2.2.next ∧ ∀ id u, H.get id = some u → id ≠ ra → x.2.2.get id = some u) (fun x => n - x.1) ?_ (0, R, H) ⟨Nat.zero_le _, hR, hr, Nat.le_refl _, fun _ _ hu _ => hu⟩
  rintro ⟨q, R1, H1⟩ ⟨i1, i2, i3, i4, i5⟩
  simp only at i1 i2 i3 i4 i5
  refine Yd.tri ?_
  have h1 := h.next hne i4 i5
  by_cases hq : q < n
  · refine Z4y hE hI h1 i2 i3 hq fun Hb R2 a1 a2 a3 a4 => .inl ⟨rfl, (q + 1, R2, Hb), ⟨hq, a1, a2, by simp only; omega, fun id u hu hn => a4 id u (i5 id u hu hn) hn⟩, by simp only; omega, rfl, rfl⟩
  · obtain rfl : q = n := by omega
    refine Ybl hE hI h1 fun Hb a1 a2 => .inr ⟨(by intro h; cases h), rfl, rfl, a1 ▸ i4, fun id u hu hn => a2 id u (i5 id u hu hn)⟩
theorem Z7n (hE : EnvOk Vb P I) (hI : Carried I) {s : List UInt8} {i N o j : Nat} {T : Tr AV} {H : AHeap} (hk : FrK 8 [8] [o] H) (g1 : H.get 8 = some (.cells N T 28 (some 1) 0 false false)) (g2 : T.get j = some .nils) (hj : j < N) (hN : N < 1048576) :
    Yk Vb P I ro (.loop (Zc [6, 0, 2, 5, 0, 2, 3, 0] Qw.body)) (Zd 89 [0, 3, 4, 8, 12, 13] (wG s i N o j 0)) H fun e fr Hb => e = .exit 4 ∧ fr = Zd 89 S5 (wF s i N o j) ∧ H.next ≤ Hb.next ∧ ∀ id u, H.get id = some u → Hb.get id = some u := by
  refine Yk.loopX (X := Unit) (fr := fun _ => Zd 89 [0, 3, 4, 8, 12, 13] (wG s i N o j 0)) (H := fun _ => H) (Inv := fun _ => True) (fun _ => 0) (fun _ _ => ?_) () trivial
  refine Yd.tri ?_
  have f1 : Nat.blt j N = true := Zm hj
  have f2 : Tr.get (vw j .nils) (Yl j) = some .nils := Zl0 (by omega)
  have f3 : Za9 (some AV.nils) = false := rfl
  have f4 : isN (some AV.nils) = true := rfl
  rw [← List.append_nil (flat (Zc [6, 0, 2, 5, 0, 2, 3, 0] Qw.body))]
  refine Wb hE hI W7 (pn := Zn) (nx := 10) (ks := [8]) (xs := [o]) (os := [.cells N (vw j .nils) 28 (some 1) 0 true false]) (vs := wF s i N 9 j) hk (FrIn.mk' (K := kN 8 [8] [o]) (τ := fun _ => .nils) (nx := H.next) (vs := wG s i N 9 j 0) hk.all rfl) rfl (fun u hu => by obtain rfl := List.mem_singleton.1 hu; rfl) (fun j2 u hj2 => ?_) ((Yem s i N j (vw j .nils)).trans (by rw [f1, f2, f3, f4]; rfl)) (fun v e => by cases e) rfl fun Hb hb hnx => .inr ⟨(by intro h; cases h), .inr ⟨(by intro h; cases h), rfl, rfl, Nat.le_of_eq (show Hb.next = H.next from hnx).symm, hb⟩⟩
  match j2, hj2 with
  | 0, hj2 => cases hj2; exact ⟨8, _, rfl, g1, Zb5 g2 rfl⟩
  | j2 + 1, hj2 => simp at hj2
structure Ln (H0 : AHeap) (o : Nat) (ia ib : List (Option Nat)) (ls : List WL) (j : Nat) (H : AHeap) : Prop where
  two : Two H0 o ia ib ls
  len : ls.length ≤ 16384
  wl : ∀ ws ∈ ls, ws.length < 1048576
  w : W2 H0 ia j H
theorem Ln.frk {H0 : AHeap} {o : Nat} {ia ib : List (Option Nat)} {ls : List WL} {j : Nat} {H : AHeap} (h : Ln H0 o ia ib ls j H) {ks xs : List Nat} (hm : ∀ i ∈ ks ++ xs, i ∈ 8 :: ia.filterMap id ∨ i ∈ o :: ib.filterMap id) (hn : (ks ++ xs).Nodup) : FrK 8 ks xs H := by
  have h8 := h.two.a.lt 8 List.mem_cons_self
  have hw := h.w.1
  refine ⟨by omega, fun i hi => ?_, hn⟩
  rcases hm i hi with h1 | h1
  · have := h.two.a.lt i h1
    omega
  · have := h.two.b.lt i h1
    omega
theorem Yc9 (hE : EnvOk Vb P I) (hI : Carried I) {s : List UInt8} {i : Nat} {H0 : AHeap} {o : Nat} {ia ib : List (Option Nat)} {ls : List WL} {j : Nat} {H : AHeap} (h : Ln H0 o ia ib ls j H) (hj : j < ls.length) :
    Yd Vb P I ro (flat (Zc [6, 0, 2, 5, 0, 2] Qw.body)) (Zd 89 S5 (wF s i ls.length o j)) H fun e fr Hb => e = .normal ∧ fr = Zd 89 S5 (wF s i ls.length o j) ∧ Ln H0 o ia ib ls (j + 1) Hb := by
  have hlen := h.len
  have hw : ls[j]? = some ls[j] := List.getElem?_eq_getElem hj
  generalize ls[j] = ws at hw
  have hwl := h.wl ws (List.mem_of_getElem? hw)
  have hia : j < ia.length := by rw [h.two.a.len]; exact hj
  have hib : j < ib.length := by rw [h.two.b.len]; exact hj
  obtain ⟨TA, a1, a2⟩ := h.two.a.out
  obtain ⟨TB, b1, b2⟩ := h.two.b.out
  have keep : ∀ id u, H0.get id = some u → (∀ q, q < j → ia[q]? ≠ some (some id)) → H.get id = some u := h.w.2
  have k8 : H.get 8 = some (.cells ls.length TA 28 (some 1) 0 false false) := keep 8 _ a1 fun q _ e => (List.nodup_cons.1 h.two.a.nodup).1 (Zcf e)
  have kB : ∀ (y : Nat) u, y ∈ o :: ib.filterMap id → H0.get y = some u → H.get y = some u := fun y u hm hu => keep y u hu fun q _ e => h.two.sep y (List.mem_cons_of_mem _ (Zcf e)) hm
  have ko := kB o _ List.mem_cons_self b1
  have h8o : 8 ≠ o := fun e => h.two.sep 8 List.mem_cons_self (e ▸ List.mem_cons_self)
  have f1 : Nat.blt j ls.length = true := Zm hj
  rw [Zwe]
  have fin : ∀ {Hb : AHeap}, H.next ≤ Hb.next → (∀ id u, H.get id = some u → ia[j]? ≠ some (some id) → Hb.get id = some u) → Ln H0 o ia ib ls (j + 1) Hb := fun {Hb} c1 c2 => ⟨h.two, h.len, h.wl, Nat.le_trans h.w.1 c1, fun id u hu hq => c2 id u (keep id u hu fun q hqj => hq q (by omega)) (hq j (by omega))⟩
  rcases h.two.a.row j ws hw with ⟨hn, hia2⟩ | ⟨hn, ra, hia2, hra⟩
  · have hib2 : ib[j]? = some none := by
      rcases h.two.b.row j ws hw with ⟨_, h2⟩ | ⟨h2, _⟩
      · exact h2
      · exact absurd hn h2
    have cA : TA.get j = some .nils := a2 j _ _ hia2 hw
    have cB : TB.get j = some .nils := b2 j _ _ hib2 hw
    have f2 : Tr.get (vw j .nils) (Yl j) = some .nils := Zl0 (by omega)
    have f3 : Za9 (some AV.nils) = false := rfl
    have f4 : isN (some AV.nils) = true := rfl
    have hk : FrK 8 [8, o] [] H := h.frk (fun i hi => by
      simp only [List.append_nil, List.mem_cons, List.not_mem_nil, or_false] at hi
      rcases hi with rfl | rfl
      · exact .inl List.mem_cons_self
      · exact .inr List.mem_cons_self) (by simp [h8o])
    refine Wb hE hI W7 (pn := Zn) (nx := 10) (ks := [8, o]) (xs := []) (os := [.cells ls.length (vw j .nils) 28 (some 1) 0 true false, .cells ls.length (vw j .nils) 28 (some 1) 0 true false]) (vs := wG s i ls.length 9 j 0) hk (FrIn.mk' (K := kN 8 [8, o] []) (τ := fun _ => .nils) (nx := H.next) (vs := wF s i ls.length 9 j) hk.all rfl) rfl (fun u hu => by simp only [List.mem_cons, List.not_mem_nil, or_false, or_self] at hu; subst hu; rfl) (fun j2 u hj2 => ?_) ((Z9e s i ls.length j (vw j .nils) (vw j .nils)).trans (by rw [f1, f2, f3, f4]; rfl)) (fun v e => by cases e) rfl fun Hb hb hnx => .inl ⟨rfl, ?_⟩
    · match j2, hj2 with
      | 0, hj2 => cases hj2; exact ⟨8, _, rfl, k8, Zb5 cA rfl⟩
      | 1, hj2 => cases hj2; exact ⟨o, _, rfl, ko, Zb5 cB rfl⟩
      | j2 + 2, hj2 => simp at hj2
    · have hn2 : Hb.next = H.next := hnx
      have hk2 : FrK 8 [8] [o] Hb := ⟨by have := hk.gl; omega, fun i hi => by have := hk.lt i hi; omega, hk.nodup⟩
      refine Yd.cons (Yk.mono (Yk.block (Q := fun e fr H2 => e = .normal ∧ fr = Zd 89 S5 (wF s i ls.length o j) ∧ Hb.next ≤ H2.next ∧ ∀ id u, Hb.get id = some u → H2.get id = some u) ((Z7n hE hI hk2 (hb 8 _ k8) cA hj (by omega)).mono ?_)) ?_)
      · rintro e fr H2 ⟨rfl, c⟩
        exact ⟨rfl, c⟩
      · rintro e fr H2 ⟨rfl, rfl, c1, c2⟩
        exact .inl ⟨rfl, Yd.nil ⟨rfl, rfl, fin (by omega) fun id u hu _ => c2 id u (hb id u hu)⟩⟩
  · obtain ⟨rb, hib2, hrb⟩ : ∃ rb, ib[j]? = some (some rb) ∧ H0.get rb = some (J6 ws) := by
      rcases h.two.b.row j ws hw with ⟨h2, _⟩ | ⟨_, rb, h2, h3⟩
      · exact absurd h2 hn
      · exact ⟨rb, h2, h3⟩
    have cA : TA.get j = some (.sl ra 0 ws.length none) := a2 j _ _ hia2 hw
    have cB : TB.get j = some (.sl rb 0 ws.length none) := b2 j _ _ hib2 hw
    have ma := Zcf hia2
    have mb := Zcf hib2
    have n1 : 8 ≠ ra := fun e => (List.nodup_cons.1 h.two.a.nodup).1 (e ▸ ma)
    have n2 : o ≠ rb := fun e => (List.nodup_cons.1 h.two.b.nodup).1 (e ▸ mb)
    have n3 : 8 ≠ rb := fun e => h.two.sep 8 List.mem_cons_self (List.mem_cons_of_mem _ (e ▸ mb))
    have n4 : o ≠ ra := fun e => h.two.sep o (List.mem_cons_of_mem _ (e ▸ ma)) List.mem_cons_self
    have n5 : ra ≠ rb := fun e => h.two.sep ra (List.mem_cons_of_mem _ ma) (List.mem_cons_of_mem _ (e ▸ mb))
    have kra : H.get ra = some (J6 ws) := keep ra _ hra fun q hq e => by
      have := Zne (List.nodup_cons.1 h.two.a.nodup).2 e hia2
      omega
    have krb := kB rb _ (List.mem_cons_of_mem _ mb) hrb
    have f2 : Tr.get (vw j (.sl 10 0 ws.length none)) (Yl j) = some (.sl 10 0 ws.length none) := Zl0 (by omega)
    have f2' : Tr.get (vw j (.sl 11 0 ws.length none)) (Yl j) = some (.sl 11 0 ws.length none) := Zl0 (by omega)
    have f3 : Za9 (some (AV.sl 10 0 ws.length none)) = true := rfl
    have f3' : Za9 (some (AV.sl 11 0 ws.length none)) = true := rfl
    have f4 : sqT (slI (some (AV.sl 10 0 ws.length none))) (slO (some (AV.sl 10 0 ws.length none))) (slC (some (AV.sl 10 0 ws.length none))) (slI (some (AV.sl 11 0 ws.length none))) (slO (some (AV.sl 11 0 ws.length none))) (slC (some (AV.sl 11 0 ws.length none))) = true := rfl
    have f5 : slN (some (AV.sl 10 0 ws.length none)) = ws.length := rfl
    have f5' : slN (some (AV.sl 11 0 ws.length none)) = ws.length := rfl
    have f6 := Z3t (ws := ws) (by omega)
    have hk : FrK 8 [8, o, ra, rb] [] H := h.frk (fun i hi => by
      simp only [List.append_nil, List.mem_cons, List.not_mem_nil, or_false] at hi
      rcases hi with rfl | rfl | rfl | rfl
      · exact .inl List.mem_cons_self
      · exact .inr List.mem_cons_self
      · exact .inl (List.mem_cons_of_mem _ ma)
      · exact .inr (List.mem_cons_of_mem _ mb)) (by simp [h8o, n1, n2, n3, n4, n5])
    refine Wb hE hI W7 (pn := Zn) (nx := 12) (ks := [8, o, ra, rb]) (xs := []) (os := [.cells ls.length (vw j (.sl 10 0 ws.length none)) 28 (some 1) 0 true false, .cells ls.length (vw j (.sl 11 0 ws.length none)) 28 (some 1) 0 true false, .cells (ws.length * 4) (WT ws) 31 (some 4) 0 true false, .cells (ws.length * 4) (WT ws) 31 (some 4) 0 true false]) (vs := wG s i ls.length 9 j 0) hk (FrIn.mk' (K := kN 8 [8, o, ra, rb] []) (τ := fun _ => .nils) (nx := H.next) (vs := wF s i ls.length 9 j) hk.all rfl) rfl (fun u hu => by simp only [List.mem_cons, List.not_mem_nil, or_false, or_self] at hu; rcases hu with rfl | rfl | rfl <;> rfl) (fun j2 u hj2 => ?_) ((Z5n s i ls.length j (ws.length * 4) (ws.length * 4) (vw j (.sl 10 0 ws.length none)) (vw j (.sl 11 0 ws.length none)) (WT ws) (WT ws)).trans (by rw [f1, f2, f2', f3, f3', f4, f5, f5', f6]; rfl)) (fun v e => by cases e) rfl fun Hb hb hnx => .inl ⟨rfl, ?_⟩
    · match j2, hj2 with
      | 0, hj2 => cases hj2; exact ⟨8, _, rfl, k8, Zb5 cA (Zuh hk rfl _)⟩
      | 1, hj2 => cases hj2; exact ⟨o, _, rfl, ko, Zb5 cB (Zuh hk rfl _)⟩
      | 2, hj2 => cases hj2; exact ⟨ra, _, rfl, kra, Zox ws⟩
      | 3, hj2 => cases hj2; exact ⟨rb, _, rfl, krb, Zox ws⟩
      | j2 + 4, hj2 => simp at hj2
    · have hn2 : Hb.next = H.next := hnx
      have hgl := hk.gl
      have hk2 : FrK 8 [8, ra] [o] Hb := ⟨by omega, fun i hi => by
        have := hk.lt i (by
          simp only [List.cons_append, List.nil_append, List.append_nil, List.mem_cons, List.not_mem_nil, or_false] at hi ⊢
          rcases hi with rfl | rfl | rfl <;> simp)
        omega, by simp [h8o, n1, Ne.symm n4]⟩
      have ks : KS Hb ls.length o j ra ws.length := ⟨by omega, hk2, ⟨TA, hb 8 _ k8, cA⟩, hj, by omega, hwl⟩
      refine Yd.cons (Yk.mono (Yk.block (Q := fun e fr H2 => e = .normal ∧ fr = Zd 89 S5 (wF s i ls.length o j) ∧ Hb.next ≤ H2.next ∧ ∀ id u, Hb.get id = some u → id ≠ ra → H2.get id = some u) ((Z80 hE hI ks (wNo ws) (hb ra _ kra)).mono ?_)) ?_)
      · rintro e fr H2 ⟨rfl, c⟩
        exact ⟨rfl, c⟩
      · rintro e fr H2 ⟨rfl, rfl, c1, c2⟩
        exact .inl ⟨rfl, Yd.nil ⟨rfl, rfl, fin (by omega) fun id u hu hne => c2 id u (hb id u hu) fun e => hne (by rw [e]; exact hia2)⟩⟩
theorem Z5h (hE : EnvOk Vb P I) (hI : Carried I) {s : List UInt8} {i : Nat} {H0 : AHeap} {o : Nat} {ia ib : List (Option Nat)} {ls : List WL} (h : Ln H0 o ia ib ls 0 H0) :
    Yk Vb P I ro (.loop (Zc [6, 0, 2, 5, 0] Qw.body)) (Zd 89 S5 (wF s i ls.length o 0)) H0 fun e fr Hb => e = .exit 2 ∧ fr = Zd 89 [0, 3] [.str s, .int .i64 (.ofNat i)] ∧ 8 ≤ Hb.next := by
  refine Yk.loopX (X := Nat × AHeap) (fr := fun x => Zd 89 S5 (wF s i ls.length o x.1)) (H := fun x => x.2) (Inv := fun x => x.1 ≤ ls.length ∧ Ln H0 o ia ib ls x.1 x.2) (fun x => ls.length - x.1) ?_ (0, H0) ⟨Nat.zero_le _, h⟩
  rintro ⟨j, H⟩ ⟨i1, i2⟩
  simp only at i1 i2
  refine Yd.tri ?_
  have hlen := i2.len
  have h8o : 8 ≠ o := fun e => i2.two.sep 8 List.mem_cons_self (e ▸ List.mem_cons_self)
  have hk : ∀ {j H}, Ln H0 o ia ib ls j H → FrK 8 [] [8, o] H := fun h => h.frk (fun i hi => by
      simp only [List.nil_append, List.mem_cons, List.not_mem_nil, or_false] at hi
      rcases hi with rfl | rfl
      · exact .inl List.mem_cons_self
      · exact .inr List.mem_cons_self) (by simp [h8o])
  rw [Zml]
  have hkk := hk i2
  by_cases hj : j < ls.length
  · have f1 : Nat.blt j ls.length = true := Zm hj
    refine Wb hE hI W7 (pn := Zn) (nx := 10) (ks := []) (xs := [8, o]) (os := []) (vs := wF s i ls.length 9 j) hkk (FrIn.mk' (K := kN 8 [] [8, o]) (τ := fun _ => .nils) (nx := H.next) (vs := wF s i ls.length 9 j) hkk.all rfl) rfl Zbe Zby ((Z73 s i ls.length j).trans (by rw [f1]; rfl)) (fun v e => by cases e) rfl fun Hb hb hnx => .inl ⟨rfl, ?_⟩
    have hn2 : Hb.next = H.next := hnx
    have i3 : Ln H0 o ia ib ls j Hb := ⟨i2.two, i2.len, i2.wl, by rw [hn2]; exact i2.w.1, fun id u hu hq => hb id u (i2.w.2 id u hu hq)⟩
    refine Yd.cons (Yk.mono (Yk.block (Q := fun e fr H2 => e = .normal ∧ fr = Zd 89 S5 (wF s i ls.length o j) ∧ Ln H0 o ia ib ls (j + 1) H2) ((Yd.tri (Yc9 hE hI i3 hj)).mono ?_)) ?_)
    · rintro e fr H2 ⟨rfl, c⟩
      exact ⟨rfl, c⟩
    · rintro e fr H2 ⟨rfl, rfl, c⟩
      refine .inl ⟨rfl, ?_⟩
      have hk3 := hk c
      have f5 := Yv (k := j) (by omega)
      rw [← List.append_nil (((flat (Zc [6, 0, 2, 5, 0] Qw.body)).take 4).drop 3)]
      exact Wb hE hI W7 (pn := Zn) (nx := 10) (ks := []) (xs := [8, o]) (os := []) (vs := wF s i ls.length 9 (j + 1)) hk3 (FrIn.mk' (K := kN 8 [] [8, o]) (τ := fun _ => .nils) (nx := H2.next) (vs := wF s i ls.length 9 j) hk3.all rfl) rfl Zbe Zby ((Ydg s i ls.length j).trans (by rw [f5]; rfl)) (fun v e => by cases e) rfl fun Hb3 hb3 hnx3 => .inl ⟨rfl, Yd.nil (.inl ⟨rfl, (j + 1, Hb3), ⟨hj, c.two, c.len, c.wl, by rw [show Hb3.next = H2.next from hnx3]; exact c.w.1, fun id u hu hq => hb3 id u (c.w.2 id u hu hq)⟩, by simp only; omega, rfl, rfl⟩)⟩
  · have f1 : Nat.blt j ls.length = false := Yg hj
    refine Wb hE hI W7 (pn := Zn) (nx := 10) (ks := []) (xs := [8, o]) (os := []) (vs := [.str s, .int .i64 (.ofNat i)]) hkk (FrIn.mk' (K := kN 8 [] [8, o]) (τ := fun _ => .nils) (nx := H.next) (vs := wF s i ls.length 9 j) hkk.all rfl) rfl Zbe Zby ((Z6s s i ls.length j).trans (by rw [f1]; rfl)) (fun v e => by cases e) rfl fun Hb hb hnx => .inr ⟨(by intro h; cases h), .inr ⟨(by intro h; cases h), rfl, rfl, by rw [show Hb.next = H.next from hnx]; exact hkk.gl⟩⟩
theorem Z6e (x : Wd × Nat) (r : List (Wd × Nat) × Nat × Nat) : (Zc4 [x] r).1.length ≤ r.1.length + 1 := by
  unfold Zc4
  cases Nat.beq r.2.2 0 with
  | true => simp
  | false => simp
theorem Zom : ∀ (n : Nat) (s : List UInt8) (j : Nat), (Vx n s j).1.length ≤ n
  | 0, _, _ => Nat.le_refl _
  | n + 1, s, j => by
    unfold Vx
    cases (!(Nat.blt j s.length) || Nat.beq (Za s j).toNat 35) with
    | true => exact Nat.zero_le _
    | false =>
      simp only [cond_false]
      cases blP (Za s j) with
      | true => exact Nat.le_succ_of_le (Zom n s (j + 1))
      | false =>
        simp only [cond_false]
        cases Nat.beq (Z3 (s.drop j)).2.2 0 with
        | true => exact Nat.le_trans (Z6e _ _) (Nat.succ_le_succ (Zom n s _))
        | false => exact Nat.zero_le _
theorem Zus {s : List UInt8} (hs : s.length ≤ 262154) : ∀ ws ∈ Za7 s, ws.length < 1048576 := fun ws hw => by
  unfold Za7 Wi at hw
  obtain ⟨p, hp, rfl⟩ := List.mem_map.1 hw
  have h1 := Zf6 10 s p (List.mem_of_mem_take hp)
  have h2 := Zom (p.length + 1) p 0
  show (Ye p).1.length < _
  unfold Ye
  omega
theorem Zsp {s : List UInt8} (h : Wa s = none) : ¬ Zbo s := fun hl => by
  unfold Wa at h
  rw [if_pos hl] at h
  cases h
theorem Zsm {H : AHeap} (h : 8 ≤ H.next) : FrK 8 [] [] H := ⟨h, fun i hi => by simp at hi, List.nodup_nil⟩
theorem Z0s (hE : EnvOk Vb P I) (hI : Carried I) {s : List UInt8} (hs : s.length ≤ 262154) (i : Nat) : Yd Vb P I ro (flat (Zc [6, 0, 2] Qw.body)) (Zd 89 [0, 3] [.str s, .int .i64 (.ofNat i)]) (Zs 8 []) fun e fr Hb => e = .normal ∧ fr = Zd 89 [0, 3] [.str s, .int .i64 (.ofNat i)] ∧ 8 ≤ Hb.next := by
  have c1 : Nat.blt (Zb s) 1048576 = true := Zm (show s.length < _ by omega)
  have bb : ∀ x, Nat.beq x x = true := fun x => Nat.beq_refl x
  have hk0 : FrK 8 [] [] (Zs 8 []) := Zsm (Nat.le_refl _)
  rw [Zw1]
  cases hF : Wa s with
  | some x =>
    have c2 : Zvj s = true := by unfold Zvj; rw [c1, hF]; rfl
    refine Wb hE hI W7 (pn := Zn) (nx := 8) (ks := []) (xs := []) (os := []) (vs := [.str s, .int .i64 (.ofNat i), .nils, .int .i64 (.ofNat (lnA s)), .int .i64 (.ofNat (lnB s)), .int .i64 (.ofNat (lnC s)), .nils, .int .i64 (.ofNat (lnA s)), .int .i64 (.ofNat (lnB s)), .int .i64 (.ofNat (lnC s))]) hk0 (FrIn.mk' (K := kN 8 [] []) (τ := fun _ => .nils) (nx := 0) (vs := [.str s, .int .i64 (.ofNat i)]) hk0.all rfl) rfl Zbe Zby ((Z9h s i).trans (by rw [c2]; rfl)) (fun v e => by cases e) rfl fun H1 _ hn1 => .inl ⟨rfl, ?_⟩
    have h1 : 8 ≤ H1.next := Nat.le_of_eq (show H1.next = 8 from hn1).symm
    have hk1 := Zsm h1
    refine Wb hE hI W7 (pn := Zn) (nx := 8) (ks := []) (xs := []) (os := []) (vs := [.str s, .int .i64 (.ofNat i), .nils, .nils, .int .i64 (.ofNat 0)]) hk1 (FrIn.mk' (K := kN 8 [] []) (τ := fun _ => .nils) (nx := 0) (vs := [.str s, .int .i64 (.ofNat i), .nils, .int .i64 (.ofNat (lnA s)), .int .i64 (.ofNat (lnB s)), .int .i64 (.ofNat (lnC s)), .nils, .int .i64 (.ofNat (lnA s)), .int .i64 (.ofNat (lnB s)), .int .i64 (.ofNat (lnC s))]) hk1.all rfl) rfl Zbe Zby ((Yco s i (lnA s) (lnB s) (lnC s)).trans (by rw [bb, bb, bb]; rfl)) (fun v e => by cases e) rfl fun H2 _ hn2 => .inl ⟨rfl, ?_⟩
    have h2 : 8 ≤ H2.next := by rw [show H2.next = H1.next from hn2]; exact h1
    have hk2 := Zsm h2
    refine Yd.cons (Yk.mono (Yk.block (Q := fun e fr H => e = .normal ∧ fr = Zd 89 [0, 3] [.str s, .int .i64 (.ofNat i)] ∧ 8 ≤ H.next) (Yk.mono (Q := fun e fr H => e = .exit 2 ∧ fr = Zd 89 [0, 3] [.str s, .int .i64 (.ofNat i)] ∧ 8 ≤ H.next) ?_ ?_)) ?_)
    · refine Yk.loopX (X := Unit) (fr := fun _ => Zd 89 S5 [.str s, .int .i64 (.ofNat i), .nils, .nils, .int .i64 (.ofNat 0)]) (H := fun _ => H2) (Inv := fun _ => True) (fun _ => 0) (fun _ _ => ?_) () trivial
      refine Yd.tri ?_
      rw [Zml]
      exact Wb hE hI W7 (pn := Zn) (nx := 8) (ks := []) (xs := []) (os := []) (vs := [.str s, .int .i64 (.ofNat i)]) hk2 (FrIn.mk' (K := kN 8 [] []) (τ := fun _ => .nils) (nx := 0) (vs := [.str s, .int .i64 (.ofNat i), .nils, .nils, .int .i64 (.ofNat 0)]) hk2.all rfl) rfl Zbe Zby (Z7t s i) (fun v e => by cases e) rfl fun H3 _ hn3 => .inr ⟨(by intro h; cases h), .inr ⟨(by intro h; cases h), rfl, rfl, by rw [show H3.next = H2.next from hn3]; exact h2⟩⟩
    · rintro e fr H3 ⟨rfl, c⟩
      exact ⟨rfl, c⟩
    · rintro e fr H3 ⟨rfl, c⟩
      exact .inl ⟨rfl, Yd.nil ⟨rfl, c⟩⟩
  | none =>
    have c2 : Zxi s = true := by unfold Zxi; rw [c1, hF]; rfl
    have hl := Zor (Zsp hF)
    have two := Zzo hl
    refine Yd.leafW hE Ydv ((Z7r s i).trans (by rw [c2]; rfl)) (fun v e => by cases e) (.inl ⟨rfl, ?_⟩)
    have two2 : Two (Zcn s (Zcn s (Zs 8 []))) (Zcn s (Zs 8 [])).next (Vm 9 (Za7 s)) (Vm ((Zcn s (Zs 8 [])).next + 1) (Za7 s)) (Za7 s) := two
    clear two
    generalize Zcn s (Zcn s (Zs 8 [])) = H0 at two2
    generalize (Zcn s (Zs 8 [])).next = o at two2
    have ln : Ln H0 o (Vm 9 (Za7 s)) (Vm (o + 1) (Za7 s)) (Za7 s) 0 H0 := ⟨two2, hl, Zus hs, Nat.le_refl _, fun _ _ hu _ => hu⟩
    have h8o : 8 ≠ o := fun e => two2.sep 8 List.mem_cons_self (e ▸ List.mem_cons_self)
    have hk : FrK 8 [] [8, o] H0 := ln.frk (fun i hi => by
      simp only [List.nil_append, List.mem_cons, List.not_mem_nil, or_false] at hi
      rcases hi with rfl | rfl
      · exact .inl List.mem_cons_self
      · exact .inr List.mem_cons_self) (by simp [h8o])
    refine Wb hE hI W7 (pn := Zn) (nx := 10) (ks := []) (xs := [8, o]) (os := []) (vs := wF s i (lnN s) 9 0) hk (FrIn.mk' (K := kN 8 [] [8, o]) (τ := fun _ => .nils) (nx := H0.next) (vs := [.str s, .int .i64 (.ofNat i), .sl 8 0 (lnN s) none, .int .i64 (.ofNat 0), .int .i64 (.ofNat 0), .int .i64 (.ofNat 0), .sl 9 0 (lnN s) none, .int .i64 (.ofNat 0), .int .i64 (.ofNat 0), .int .i64 (.ofNat 0)]) hk.all rfl) rfl Zbe Zby ((Ydz s i (lnN s)).trans (by rw [bb]; rfl)) (fun v e => by cases e) rfl fun H1 hb hn1 => .inl ⟨rfl, ?_⟩
    have hn2 : H1.next = H0.next := hn1
    have two1 : Two H1 o (Vm 9 (Za7 s)) (Vm (o + 1) (Za7 s)) (Za7 s) := ⟨two2.a.mono hb (Nat.le_of_eq hn2.symm), two2.b.mono hb (Nat.le_of_eq hn2.symm), two2.sep⟩
    refine Yd.cons (Yk.mono (Yk.block (Q := fun e fr H => e = .normal ∧ fr = Zd 89 [0, 3] [.str s, .int .i64 (.ofNat i)] ∧ 8 ≤ H.next) ((Z5h hE hI (s := s) (i := i) ⟨two1, hl, Zus hs, Nat.le_refl _, fun _ _ hu _ => hu⟩).mono ?_)) ?_)
    · rintro e fr H3 ⟨rfl, c⟩
      exact ⟨rfl, c⟩
    · rintro e fr H3 ⟨rfl, c⟩
      exact .inl ⟨rfl, Yd.nil ⟨rfl, c⟩⟩
theorem Z6h (hE : EnvOk Vb P I) (hI : Carried I) {s : List UInt8} (hs : s.length ≤ 262154) {H : AHeap} (h8 : 8 ≤ H.next) : Yk Vb P I ro (.loop (Zc [6, 0] Qw.body)) (Zd 89 [0, 3] [.str s, .int .i64 (.ofNat 0)]) H fun e fr Hb => e = .exit 0 ∧ fr.df = [] ∧ fr.n = 89 ∧ fr.rd = false ∧ 8 ≤ Hb.next := by
  refine Yk.loopX (X := Nat × AHeap) (fr := fun x => Zd 89 [0, 3] [.str s, .int .i64 (.ofNat x.1)]) (H := fun x => x.2) (Inv := fun x => x.1 ≤ 2 ∧ 8 ≤ x.2.next) (fun x => 2 - x.1) ?_ (0, H) ⟨Nat.zero_le _, h8⟩
  rintro ⟨i, H⟩ ⟨i1, i2⟩
  simp only at i1 i2
  refine Yd.tri ?_
  have hk := Zsm i2
  rw [Zwh]
  by_cases h : i < 2
  · have f1 : Nat.blt i 2 = true := Zm h
    refine Wb hE hI W7 (pn := Zn) (nx := 8) (ks := []) (xs := []) (os := []) (vs := [.str s, .int .i64 (.ofNat i)]) hk (FrIn.mk' (K := kN 8 [] []) (τ := fun _ => .nils) (nx := 0) (vs := [.str s, .int .i64 (.ofNat i)]) hk.all rfl) rfl Zbe Zby ((Z6r s i).trans (by rw [f1]; rfl)) (fun v e => by cases e) rfl fun H1 _ hn1 => .inl ⟨rfl, ?_⟩
    have h1 : 8 ≤ H1.next := by rw [show H1.next = H.next from hn1]; exact i2
    refine Yd.cons (Yk.mono (Yk.block (Q := fun e fr H => e = .normal ∧ fr = Zd 89 [0, 3] [.str s, .int .i64 (.ofNat i)] ∧ 8 ≤ H.next) (Yk.mono (Yd.tri (Yd.ren hI (keep := List.range 8) (H' := Zs 8 []) (fr' := Zd 89 [0, 3] [.str s, .int .i64 (.ofNat i)]) ⟨fun g hg => by simp [show g < 8 from hg], fun i hi => ?_, List.nodup_range, rfl, fun k u hu => ?_, rfl, rfl, ⟨rfl, rfl⟩, fun i y hy => ⟨y, hy, ?_⟩⟩ (Z0s hE hI hs i))) ?_)) ?_)
    · rw [List.mem_range] at hi
      omega
    · obtain ⟨j, _, hj⟩ := Kh hu
      simp at hj
    · obtain ⟨j, _, hj⟩ := Ve hy
      have := List.mem_of_getElem? hj
      simp only [List.mem_cons, List.not_mem_nil, or_false] at this
      rcases this with rfl | rfl <;> rfl
    · rintro e fr H3 ⟨rfl, c⟩
      exact ⟨rfl, c⟩
    · rintro e fr H3 ⟨rfl, rfl, c⟩
      refine .inl ⟨rfl, ?_⟩
      have hk3 := Zsm c
      have f5 := Yv (k := i) (by omega)
      rw [← List.append_nil (((flat (Zc [6, 0] Qw.body)).take 4).drop 3)]
      exact Wb hE hI W7 (pn := Zn) (nx := 8) (ks := []) (xs := []) (os := []) (vs := [.str s, .int .i64 (.ofNat (i + 1))]) hk3 (FrIn.mk' (K := kN 8 [] []) (τ := fun _ => .nils) (nx := 0) (vs := [.str s, .int .i64 (.ofNat i)]) hk3.all rfl) rfl Zbe Zby ((Ybe s i).trans (by rw [f5])) (fun v e => by cases e) rfl fun H4 _ hn4 => .inl ⟨rfl, Yd.nil (.inl ⟨rfl, (i + 1, H4), ⟨h, by rw [show H4.next = H3.next from hn4]; exact c⟩, by simp only; omega, rfl, rfl⟩)⟩
  · have f1 : Nat.blt i 2 = false := Yg h
    exact Wb hE hI W7 (pn := Zn) (nx := 8) (ks := []) (xs := []) (os := []) (vs := [.str s, .int .i64 (.ofNat i)]) hk (FrIn.mk' (K := kN 8 [] []) (τ := fun _ => .nils) (nx := 0) (vs := [.str s, .int .i64 (.ofNat i)]) hk.all rfl) rfl Zbe Zby ((Z6b s i).trans (by rw [f1]; rfl)) (fun v e => by cases e) rfl fun H1 _ hn1 => .inr ⟨(by intro h; cases h), .inr ⟨(by intro h; cases h), rfl, rfl, rfl, rfl, by rw [show H1.next = H.next from hn1]; exact i2⟩⟩
theorem Z48 (hE : EnvOk Vb P I) (hI : Carried I) (s : List UInt8) : Yk Vb P I ro Qw.body (Z8 Qw [.str s]) (Zs 8 []) fun e fr _ => (e = .normal ∨ e = .ret) ∧ fr.df = [] ∧ fr.t.get 2 = some (.bool true) := by
  have hp : ∀ v ∈ [AV.str s], Plain v := Z2 rfl
  have hk0 : FrK 8 [] [] (Zs 8 []) := Zsm (Nat.le_refl _)
  refine Yd.tri ?_
  by_cases h : 262154 < s.length
  · have f1 : Nat.blt 262154 (Zb s) = true := Zm h
    rw [← List.take_append_drop 5 (flat Qw.body)]
    exact Wb hE hI W7 (pn := Zn) (nx := 8) (ks := []) (xs := []) (os := []) (vs := [.bool true]) hk0 (Qk hp) rfl Zbe Zby ((Ybh s).trans (by rw [f1]; rfl)) (fun v e => by cases e) rfl fun H1 _ _ => .inr ⟨(by intro h; cases h), .inr rfl, rfl, rfl⟩
  · have f1 : Nat.blt 262154 (Zb s) = false := Yg h
    rw [Zzw]
    refine Wb hE hI W7 (pn := Zn) (nx := 8) (ks := []) (xs := []) (os := []) (vs := [.str s, .int .i64 (.ofNat 0)]) hk0 (Qk hp) rfl Zbe Zby ((Yb4 s).trans (by rw [f1]; rfl)) (fun v e => by cases e) rfl fun H1 _ hn1 => .inl ⟨rfl, ?_⟩
    have h1 : 8 ≤ H1.next := Nat.le_of_eq (show H1.next = 8 from hn1).symm
    refine Yd.cons (Yk.mono (Yk.block (Q := fun e fr H => e = .normal ∧ fr.df = [] ∧ fr.n = 89 ∧ fr.rd = false ∧ 8 ≤ H.next) ((Z6h hE hI (by omega) h1).mono ?_)) ?_)
    · rintro e fr H3 ⟨rfl, c⟩
      exact ⟨rfl, c⟩
    · rintro e fr H3 ⟨rfl, d1, d2, d3, c⟩
      refine .inl ⟨rfl, ?_⟩
      rw [← List.append_nil (((flat Qw.body).take 9).drop 7)]
      exact Wb hE hI W7 (pn := Zn) (nx := 8) (ks := []) (xs := []) (os := []) (vs := [.bool true]) (Zsm c) (fr' := Zd 89 [] []) ⟨d2.symm, d3.symm, ⟨d1, rfl⟩, fun i y hy => by simp [Zd, Zcs, Tr.get_nil] at hy⟩ rfl Zbe Zby Ycu (fun v e => by cases e) rfl fun H4 _ _ => .inr ⟨(by intro h; cases h), .inr rfl, rfl, rfl⟩
end
theorem Zp7 {w : World} (hw : Yf gl w) (a : ByteArray) : Calls Tryd.prog 3 #[.string a] w fun e w' => e = .returned (.bool true) ∧ Keeps w w' :=
  Zsq (args := [.str a.data.toList]) (cargs := [.string a]) Z1n Wl Yed Z86 (fun v hv => by
    obtain rfl := List.mem_singleton.1 hv
    exact Zgp _) ⟨by simp [Zj], trivial⟩ (fun w hw => Z48 (Z1n w hw) (Zt hw) _) hw
end
end Go.Proofs.YtdpkmhnpbbapcaaDoor
