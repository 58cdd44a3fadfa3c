/- lex.number: a number at the front: its worth, how many bytes, or a fault. -/
import Derived.Test.YtdpkmhnpbbapcaaDoorLxSp
import Derived.KernelRfl
namespace Go.Proofs.YtdpkmhnpbbapcaaDoor
open Go Go.Vai
noncomputable section
set_option maxRecDepth 100000
def runT : AV → List UInt8 → Bool
  | .fn f [] [], s => Zz4 f s
  | _, _ => false
def Zee : AV → List UInt8 → Nat
  | .fn f [] [], s => Ygz f s
  | _, _ => 0
def Z9j {α : Type} (args : List AV) (H : AHeap) (k : AV → AHeap → Option α) : Option α := match args with
  | [.str s, a] => bc (runT a s) (k (.int .i64 (.ofNat (Zee a s))) H) none
  | _ => none
theorem Zlv {α : Type} {args : List AV} {H : AHeap} {k : AV → AHeap → Option α} {r : α} (h : Z9j args H k = some r) : ∃ v H', Zx Zh0 30 args H = some (v, H') ∧ k v H' = some r := by
  unfold Z9j at h
  split at h
  case h_2 => cases h
  rename_i s a
  obtain ⟨h1, h⟩ := Zr h
  refine ⟨_, _, ?_, h⟩
  unfold runT at h1
  split at h1
  · unfold Zx Zh0 Zee
    simp only [Nat.beq_refl, h1, Bool.and_self, cond_true]
  · cases h1
def spK {α : Type} (ok : Bool) (args : List AV) (H : AHeap) (k : AV → AHeap → Option α) : Option α := match args with
  | [.str s, .int .i64 b, .int .i64 (.ofNat 64)] => bc (Zh9 b s) (match ok with
    | true => bc (Nat.blt (Ym b.toNat s) 18446744073709551616) (k (.tup [.int .u64 (.ofNat (Ym b.toNat s)), .nili]) H) none
    | false => bc (Nat.blt (Ym b.toNat s) 18446744073709551616) none (k (.tup [.int .u64 (.ofNat 18446744073709551615), .iface 83 (.opq none)]) H)) none
  | _ => none
theorem Z19 {α : Type} {ok : Bool} {args : List AV} {H : AHeap} {k : AV → AHeap → Option α} {r : α} (h : spK ok args H k = some r) : ∃ v H', Zx Zqy 43 args H = some (v, H') ∧ k v H' = some r := by
  unfold spK at h
  split at h
  case h_2 => cases h
  rename_i s b
  obtain ⟨h1, h⟩ := Zr h
  have e : ∀ H, Zx Zqy 43 [.str s, .int .i64 b, .int .i64 (.ofNat 64)] H = some (spR b s, H) := fun H => by
    unfold Zx Zqy
    simp only [Nat.beq_refl, h1, Bool.and_self, cond_true]
  refine ⟨_, _, e H, ?_⟩
  unfold spR
  cases ok with
  | true =>
    obtain ⟨h2, h⟩ := Zr h
    rw [h2]; exact h
  | false =>
    obtain ⟨h2, h⟩ := Zps h
    rw [h2]; exact h
def ENu : Env := V3 Tryd.prog 8 [43, 30, 29, 32, 24, 19, 20, 44, 51, 42, 31, 28] (Wv (Za1 kinds) (Wv (Zx Zqy) (Wv (Zx Zh0) (Wv (Zx FT0) (Zx FT1)))))
theorem Z36 (w : World) (hw : Yf gl w) : EnvOk ENu Tryd.prog (Kept gl w) := Vp (by kernel_rfl) ((Jt Zch).or (Yhu.or (Z10.or ((W3 Zgs).or (W3 Zkm))))) W1 (fun _ _ _ h => h.1) (Zt hw).ext
def Zia (ok : Bool) {α : Type} : Smk α := fun f args H k => bif Nat.beq f 43 then spK ok args H k else bif Nat.beq f 30 then Z9j args H k else smC ENu f args H k
theorem Yhv {g : Nat} (h : g ≠ 43) (args : List AV) : Zqy g args = none := by
  unfold Zqy
  split
  · rw [Znf h]; rfl
  · rfl
theorem Z5p (ok : Bool) {α : Type} : Vj (α := α) ENu (Zia ok) := by
  intro f args H k r h
  unfold Zia at h
  simp only [Bool.cond_eq_ite, Nat.beq_eq] at h
  split at h
  · rename_i e
    subst e
    obtain ⟨u, H', h1, h2⟩ := Z19 h
    exact ⟨u, H', (V5 (by kernel_rfl)).trans (Q8 h1), h2⟩
  split at h
  · rename_i e
    subst e
    obtain ⟨u, H', h1, h2⟩ := Zlv h
    exact ⟨u, H', (V5 (by kernel_rfl)).trans ((Zbs (Yhv (by decide) _)).trans (Q8 h1)), h2⟩
  · exact Vr _ _ _ _ _ _ h
theorem Jj (ok : Bool) {α : Type} : Zcr (α := α) (Xh ENu (Zia ok) 3) (run ENu 3) := Zed (α := α) ENu (Z5p ok) 3
def Zew (s : List UInt8) : Bool := Nat.ble 2 s.length && (leq (s.take 2) [48, 120] && Nat.blt 0 (Zi Z9 (s.drop 2)))
def Zbl (b fr most : Nat) (p : UInt8 → Bool) (s : List UInt8) : Nat × Nat × Nat :=
  bif (Nat.blt (fr + Zi p (s.drop fr)) s.length && Qq (Za s (fr + Zi p (s.drop fr)))) || (Nat.beq b 10 && (Nat.blt 1 (Zi p (s.drop fr)) && Nat.beq (Za s 0).toNat 48)) then (0, 0, 12) else
  bif Nat.blt most (Zi p (s.drop fr)) then (0, 0, 3) else
  bif Nat.blt (Ym b ((s.drop fr).take (Zi p (s.drop fr)))) 18446744073709551616 then (Ym b ((s.drop fr).take (Zi p (s.drop fr))), fr + Zi p (s.drop fr), 0) else (0, 0, 3)
def Qy (s : List UInt8) : Nat × Nat × Nat := bif Zew s then Zbl 16 2 16 Z9 s else Zbl 10 0 20 Z1 s
def Zkx (x : Nat × Nat × Nat) : AV := .tup [.int .u64 (.ofNat x.1), .int .i64 (.ofNat x.2.1), .int .i64 (.ofNat x.2.2)]
theorem Znl {b : Nat} {q : UInt8 → Bool} (hq : ∀ c, q c = true → dv c.toNat < b) : ∀ (l : List UInt8) (m k : Nat), l.all q = true → m < b ^ k → l.foldl (fun m c => m * b + dv c.toNat) m < b ^ (k + l.length)
  | [], m, k, _, h => h
  | c :: l, m, k, ha, h => by
    simp only [List.all_cons, Bool.and_eq_true] at ha
    have h1 := hq c ha.1
    have h2 : m * b + dv c.toNat < b ^ (k + 1) := by
      have h3 : (m + 1) * b ≤ b ^ k * b := Nat.mul_le_mul_right b h
      rw [Nat.pow_succ]
      rw [Nat.add_mul, Nat.one_mul] at h3
      omega
    have := Znl hq l _ (k + 1) ha.2 h2
    rw [List.length_cons, show k + (l.length + 1) = k + 1 + l.length by omega]
    exact this
theorem Ycw (c : UInt8) (h : Z1 c = true) : dv c.toNat < 10 := (Jv (Ztn h)).2.2.2.2
theorem Zsf (c : UInt8) (h : Z9 c = true) : dv c.toNat < 16 := by
  rcases Zuo h with h | h
  · have := (Jv h).2.2.2.2; omega
  · exact (Zfs h).2.2.2.2.2.2
theorem Zm8 (p : UInt8 → Bool) : ∀ s : List UInt8, (s.take (Zi p s)).all p = true
  | [] => rfl
  | c :: s => by
    unfold Zi
    cases hc : p c with
    | false => rfl
    | true =>
      simp only [cond_true, List.take_succ_cons, List.all_cons, hc, Bool.true_and]
      exact Zm8 p s
theorem Zth (p : UInt8 → Bool) (s : List UInt8) : (s.take (Zi p s)).length = Zi p s := by
  rw [List.length_take]
  exact Nat.min_eq_left (X4 p s)
theorem Yfn (A G M Z R : Bool) (x12 x3 xn : Option Leaf) : bc A (bc A (bc G x12 (bc M (bc true (bc Z x12 (bc R x3 xn)) none) (bc R x3 xn))) none) (bc M (bc true (bc Z x12 (bc R x3 xn)) none) (bc R x3 xn)) = bc ((A && G) || (M && Z)) x12 (bc R x3 xn) := by
  cases A <;> cases G <;> cases M <;> cases Z <;> rfl
theorem Yf3 (A G R : Bool) (x12 x3 xn : Option Leaf) : bc A (bc A (bc G x12 (bc R x3 xn)) none) (bc R x3 xn) = bc (A && G) x12 (bc R x3 xn) := by
  cases A <;> cases G <;> rfl
def W0 : AFunc := (ENu.fn 33).getD default
theorem Z7f : ENu.fn 33 = some W0 := by kernel_rfl
theorem Zvt : flat W0.body = (flat W0.body).take 4 ++ (((flat W0.body).drop 4).take 2 ++ (((flat W0.body).drop 6).take 1 ++ (flat W0.body).drop 7)) := by kernel_rfl
theorem Zo4 : W0.results = [2, 3, 4].map .tmp := by kernel_rfl
theorem Ydi (s : List UInt8) : Zu ENu (Xh ENu (Zia true) 3) ((flat W0.body).take 4) (Yj 8 [0, 2, 3, 4, 5, 6, 7, 8] [0, 1, 2, 3, 4, 5, 6, 7]) (Z8 W0 [.str s]) (Zs 8 []) = bc (!(Nat.blt (Zb s) 2)) (bc (Nat.ble 2 (Zb s)) (bc (leq (List.take 2 (List.drop 0 s)) [48, 120]) (bc (Nat.ble 2 (Zb s)) (bc (runT (.fn 42 [] []) (List.drop 2 s)) (bc (Nat.blt 0 (Zee (.fn 42 [] []) (List.drop 2 s))) (lf .normal 70 ([.str s, .int .u64 (.ofNat 0), .int .i64 (.ofNat 0), .int .i64 (.ofNat 0), .int .i64 (.ofNat 16), .int .i64 (.ofNat 2), .int .i64 (.ofNat 16), .fn 42 [] []].map some) ([].map some)) (lf .normal 70 ([.str s, .int .u64 (.ofNat 0), .int .i64 (.ofNat 0), .int .i64 (.ofNat 0), .int .i64 (.ofNat 10), .int .i64 (.ofNat 0), .int .i64 (.ofNat 20), .fn 32 [] []].map some) ([].map some))) (none)) (none)) (lf .normal 70 ([.str s, .int .u64 (.ofNat 0), .int .i64 (.ofNat 0), .int .i64 (.ofNat 0), .int .i64 (.ofNat 10), .int .i64 (.ofNat 0), .int .i64 (.ofNat 20), .fn 32 [] []].map some) ([].map some))) (none)) (lf .normal 70 ([.str s, .int .u64 (.ofNat 0), .int .i64 (.ofNat 0), .int .i64 (.ofNat 0), .int .i64 (.ofNat 10), .int .i64 (.ofNat 0), .int .i64 (.ofNat 20), .fn 32 [] []].map some) ([].map some)) := by kernel_rfl
theorem Z6g (s : List UInt8) : Zu ENu (Xh ENu (Zia true) 3) (((flat W0.body).drop 4).take 2) (Yj 8 [0, 2, 3, 4, 5, 6, 7, 9, 10] [0, 1, 2, 3, 4, 5, 6, 7]) (Zd 70 [0, 2, 3, 4, 5, 6, 7, 8] [.str s, .int .u64 (.ofNat 0), .int .i64 (.ofNat 0), .int .i64 (.ofNat 0), .int .i64 (.ofNat 10), .int .i64 (.ofNat 0), .int .i64 (.ofNat 20), .fn 32 [] []]) (Zs 8 []) = bc (runT (.fn 32 [] []) (List.drop 0 s)) (lf .normal 70 ([.str s, .int .u64 (.ofNat 0), .int .i64 (.ofNat 0), .int .i64 (.ofNat 0), .int .i64 (.ofNat 10), .int .i64 (.ofNat 0), .int .i64 (.ofNat 20), .int .i64 (.ofNat (Zee (.fn 32 [] []) (List.drop 0 s))), .int .i64 (Zf .i64 (.ofNat (Nat.add 0 (Zee (.fn 32 [] []) (List.drop 0 s)))))].map some) ([].map some)) (none) := by kernel_rfl
theorem Z8t (s : List UInt8) (m e : Nat) : Zu ENu (Xh ENu (Zia true) 3) (((flat W0.body).drop 6).take 1) (Yj 8 [0, 2, 3, 4, 5, 6, 7, 9, 10] [0, 1, 2, 3, 4, 5, 6, 7]) (Zd 70 [0, 2, 3, 4, 5, 6, 7, 9, 10] [.str s, .int .u64 (.ofNat 0), .int .i64 (.ofNat 0), .int .i64 (.ofNat 0), .int .i64 (.ofNat 10), .int .i64 (.ofNat 0), .int .i64 (.ofNat 20), .int .i64 (.ofNat m), .int .i64 (.ofNat e)]) (Zs 8 []) = bc (Nat.blt e (Zb s)) (bc (Nat.blt e (Zb s)) (bc (Zfe (.ofNat (UInt8.toNat (Za s e)))) (lf .ret 70 ([.str s, .int .u64 (.ofNat 0), .int .i64 (.ofNat 0), .int .i64 (.ofNat 12), .int .i64 (.ofNat 10), .int .i64 (.ofNat 0), .int .i64 (.ofNat 20), .int .i64 (.ofNat m), .int .i64 (.ofNat e)].map some) ([].map some)) (bc (Nat.blt 1 m) (bc (Nat.blt 0 (Zb s)) (bc (Nat.beq (UInt8.toNat (Za s 0)) 48) (lf .ret 70 ([.str s, .int .u64 (.ofNat 0), .int .i64 (.ofNat 0), .int .i64 (.ofNat 12), .int .i64 (.ofNat 10), .int .i64 (.ofNat 0), .int .i64 (.ofNat 20), .int .i64 (.ofNat m), .int .i64 (.ofNat e)].map some) ([].map some)) (bc (Nat.blt 20 m) (lf .ret 70 ([.str s, .int .u64 (.ofNat 0), .int .i64 (.ofNat 0), .int .i64 (.ofNat 3), .int .i64 (.ofNat 10), .int .i64 (.ofNat 0), .int .i64 (.ofNat 20), .int .i64 (.ofNat m), .int .i64 (.ofNat e)].map some) ([].map some)) (lf .normal 70 ([.str s, .int .u64 (.ofNat 0), .int .i64 (.ofNat 0), .int .i64 (.ofNat 0), .int .i64 (.ofNat 10), .int .i64 (.ofNat 0), .int .i64 (.ofNat 20), .int .i64 (.ofNat m), .int .i64 (.ofNat e)].map some) ([].map some)))) (none)) (bc (Nat.blt 20 m) (lf .ret 70 ([.str s, .int .u64 (.ofNat 0), .int .i64 (.ofNat 0), .int .i64 (.ofNat 3), .int .i64 (.ofNat 10), .int .i64 (.ofNat 0), .int .i64 (.ofNat 20), .int .i64 (.ofNat m), .int .i64 (.ofNat e)].map some) ([].map some)) (lf .normal 70 ([.str s, .int .u64 (.ofNat 0), .int .i64 (.ofNat 0), .int .i64 (.ofNat 0), .int .i64 (.ofNat 10), .int .i64 (.ofNat 0), .int .i64 (.ofNat 20), .int .i64 (.ofNat m), .int .i64 (.ofNat e)].map some) ([].map some))))) (none)) (bc (Nat.blt 1 m) (bc (Nat.blt 0 (Zb s)) (bc (Nat.beq (UInt8.toNat (Za s 0)) 48) (lf .ret 70 ([.str s, .int .u64 (.ofNat 0), .int .i64 (.ofNat 0), .int .i64 (.ofNat 12), .int .i64 (.ofNat 10), .int .i64 (.ofNat 0), .int .i64 (.ofNat 20), .int .i64 (.ofNat m), .int .i64 (.ofNat e)].map some) ([].map some)) (bc (Nat.blt 20 m) (lf .ret 70 ([.str s, .int .u64 (.ofNat 0), .int .i64 (.ofNat 0), .int .i64 (.ofNat 3), .int .i64 (.ofNat 10), .int .i64 (.ofNat 0), .int .i64 (.ofNat 20), .int .i64 (.ofNat m), .int .i64 (.ofNat e)].map some) ([].map some)) (lf .normal 70 ([.str s, .int .u64 (.ofNat 0), .int .i64 (.ofNat 0), .int .i64 (.ofNat 0), .int .i64 (.ofNat 10), .int .i64 (.ofNat 0), .int .i64 (.ofNat 20), .int .i64 (.ofNat m), .int .i64 (.ofNat e)].map some) ([].map some)))) (none)) (bc (Nat.blt 20 m) (lf .ret 70 ([.str s, .int .u64 (.ofNat 0), .int .i64 (.ofNat 0), .int .i64 (.ofNat 3), .int .i64 (.ofNat 10), .int .i64 (.ofNat 0), .int .i64 (.ofNat 20), .int .i64 (.ofNat m), .int .i64 (.ofNat e)].map some) ([].map some)) (lf .normal 70 ([.str s, .int .u64 (.ofNat 0), .int .i64 (.ofNat 0), .int .i64 (.ofNat 0), .int .i64 (.ofNat 10), .int .i64 (.ofNat 0), .int .i64 (.ofNat 20), .int .i64 (.ofNat m), .int .i64 (.ofNat e)].map some) ([].map some)))) := by kernel_rfl
theorem Z8p (s : List UInt8) (m e : Nat) : Zu ENu (Xh ENu (Zia true) 3) ((flat W0.body).drop 7) (Yj 8 [2, 3, 4] [0, 1, 2, 3, 4, 5, 6, 7]) (Zd 70 [0, 2, 3, 4, 5, 6, 7, 9, 10] [.str s, .int .u64 (.ofNat 0), .int .i64 (.ofNat 0), .int .i64 (.ofNat 0), .int .i64 (.ofNat 10), .int .i64 (.ofNat 0), .int .i64 (.ofNat 20), .int .i64 (.ofNat m), .int .i64 (.ofNat e)]) (Zs 8 []) = bc (Nat.ble e (Zb s)) (bc (Zh9 (.ofNat 10) (List.take e (List.drop 0 s))) (bc (Nat.blt (Ym (Int.toNat (.ofNat 10)) (List.take e (List.drop 0 s))) 18446744073709551616) (lf .ret 70 ([.int .u64 (.ofNat (Ym (Int.toNat (.ofNat 10)) (List.take e (List.drop 0 s)))), .int .i64 (.ofNat e), .int .i64 (.ofNat 0)].map some) ([].map some)) (none)) (none)) (none) := by kernel_rfl
theorem Z8j (s : List UInt8) : Zu ENu (Xh ENu (Zia true) 3) (((flat W0.body).drop 4).take 2) (Yj 8 [0, 2, 3, 4, 5, 6, 7, 9, 10] [0, 1, 2, 3, 4, 5, 6, 7]) (Zd 70 [0, 2, 3, 4, 5, 6, 7, 8] [.str s, .int .u64 (.ofNat 0), .int .i64 (.ofNat 0), .int .i64 (.ofNat 0), .int .i64 (.ofNat 16), .int .i64 (.ofNat 2), .int .i64 (.ofNat 16), .fn 42 [] []]) (Zs 8 []) = bc (Nat.ble 2 (Zb s)) (bc (runT (.fn 42 [] []) (List.drop 2 s)) (lf .normal 70 ([.str s, .int .u64 (.ofNat 0), .int .i64 (.ofNat 0), .int .i64 (.ofNat 0), .int .i64 (.ofNat 16), .int .i64 (.ofNat 2), .int .i64 (.ofNat 16), .int .i64 (.ofNat (Zee (.fn 42 [] []) (List.drop 2 s))), .int .i64 (Zf .i64 (.ofNat (Nat.add 2 (Zee (.fn 42 [] []) (List.drop 2 s)))))].map some) ([].map some)) (none)) (none) := by kernel_rfl
theorem Z5f (s : List UInt8) (m e : Nat) : Zu ENu (Xh ENu (Zia true) 3) (((flat W0.body).drop 6).take 1) (Yj 8 [0, 2, 3, 4, 5, 6, 7, 9, 10] [0, 1, 2, 3, 4, 5, 6, 7]) (Zd 70 [0, 2, 3, 4, 5, 6, 7, 9, 10] [.str s, .int .u64 (.ofNat 0), .int .i64 (.ofNat 0), .int .i64 (.ofNat 0), .int .i64 (.ofNat 16), .int .i64 (.ofNat 2), .int .i64 (.ofNat 16), .int .i64 (.ofNat m), .int .i64 (.ofNat e)]) (Zs 8 []) = bc (Nat.blt e (Zb s)) (bc (Nat.blt e (Zb s)) (bc (Zfe (.ofNat (UInt8.toNat (Za s e)))) (lf .ret 70 ([.str s, .int .u64 (.ofNat 0), .int .i64 (.ofNat 0), .int .i64 (.ofNat 12), .int .i64 (.ofNat 16), .int .i64 (.ofNat 2), .int .i64 (.ofNat 16), .int .i64 (.ofNat m), .int .i64 (.ofNat e)].map some) ([].map some)) (bc (Nat.blt 16 m) (lf .ret 70 ([.str s, .int .u64 (.ofNat 0), .int .i64 (.ofNat 0), .int .i64 (.ofNat 3), .int .i64 (.ofNat 16), .int .i64 (.ofNat 2), .int .i64 (.ofNat 16), .int .i64 (.ofNat m), .int .i64 (.ofNat e)].map some) ([].map some)) (lf .normal 70 ([.str s, .int .u64 (.ofNat 0), .int .i64 (.ofNat 0), .int .i64 (.ofNat 0), .int .i64 (.ofNat 16), .int .i64 (.ofNat 2), .int .i64 (.ofNat 16), .int .i64 (.ofNat m), .int .i64 (.ofNat e)].map some) ([].map some)))) (none)) (bc (Nat.blt 16 m) (lf .ret 70 ([.str s, .int .u64 (.ofNat 0), .int .i64 (.ofNat 0), .int .i64 (.ofNat 3), .int .i64 (.ofNat 16), .int .i64 (.ofNat 2), .int .i64 (.ofNat 16), .int .i64 (.ofNat m), .int .i64 (.ofNat e)].map some) ([].map some)) (lf .normal 70 ([.str s, .int .u64 (.ofNat 0), .int .i64 (.ofNat 0), .int .i64 (.ofNat 0), .int .i64 (.ofNat 16), .int .i64 (.ofNat 2), .int .i64 (.ofNat 16), .int .i64 (.ofNat m), .int .i64 (.ofNat e)].map some) ([].map some))) := by kernel_rfl
theorem Z8w (s : List UInt8) (m e : Nat) : Zu ENu (Xh ENu (Zia true) 3) ((flat W0.body).drop 7) (Yj 8 [2, 3, 4] [0, 1, 2, 3, 4, 5, 6, 7]) (Zd 70 [0, 2, 3, 4, 5, 6, 7, 9, 10] [.str s, .int .u64 (.ofNat 0), .int .i64 (.ofNat 0), .int .i64 (.ofNat 0), .int .i64 (.ofNat 16), .int .i64 (.ofNat 2), .int .i64 (.ofNat 16), .int .i64 (.ofNat m), .int .i64 (.ofNat e)]) (Zs 8 []) = bc (Nat.ble e (Zb s)) (bc (Nat.ble 2 e) (bc (Zh9 (.ofNat 16) (List.take (Nat.sub e 2) (List.drop 2 s))) (bc (Nat.blt (Ym (Int.toNat (.ofNat 16)) (List.take (Nat.sub e 2) (List.drop 2 s))) 18446744073709551616) (lf .ret 70 ([.int .u64 (.ofNat (Ym (Int.toNat (.ofNat 16)) (List.take (Nat.sub e 2) (List.drop 2 s)))), .int .i64 (.ofNat e), .int .i64 (.ofNat 0)].map some) ([].map some)) (none)) (none)) (none)) (none) := by kernel_rfl
def nuS : List Nat := [0, 2, 3, 4, 5, 6, 7, 9, 10]
def nuV (b fr most : Nat) (s : List UInt8) (x m e : Nat) : List AV := [.str s, .int .u64 (.ofNat 0), .int .i64 (.ofNat 0), .int .i64 (.ofNat x), .int .i64 (.ofNat b), .int .i64 (.ofNat fr), .int .i64 (.ofNat most), .int .i64 (.ofNat m), .int .i64 (.ofNat e)]
theorem Z7d (s : List UInt8) (m e : Nat) : Zu ENu (Xh ENu (Zia false) 3) ((flat W0.body).drop 7) (Yj 8 [2, 3, 4] [0, 1, 2, 3, 4, 5, 6, 7]) (Zd 70 nuS (nuV 10 0 20 s 0 m e)) (Zs 8 []) = bc (Nat.ble e (Zb s)) (bc (Zh9 (.ofNat 10) (List.take e (List.drop 0 s))) (bc (Nat.blt (Ym 10 (List.take e (List.drop 0 s))) 18446744073709551616) none (lf .ret 70 ([.int .u64 (.ofNat 0), .int .i64 (.ofNat 0), .int .i64 (.ofNat 3)].map some) ([].map some))) none) none := by kernel_rfl
section
variable {P : Program} {I : List MEnt → AHeap → World → Prop} {ro : Option Nat}
theorem Z9c (hE : EnvOk ENu P I) (hI : Carried I) {s : List UInt8} (h1 : 1 ≤ Zi Z1 (s.drop 0)) (h2 : 0 ≤ s.length) (hs : s.length < 4294967296) : Zg ENu P I ro (((flat W0.body).drop 4).take 2 ++ (((flat W0.body).drop 6).take 1 ++ (flat W0.body).drop 7)) (Zd 70 [0, 2, 3, 4, 5, 6, 7, 8] [.str s, .int .u64 (.ofNat 0), .int .i64 (.ofNat 0), .int .i64 (.ofNat 0), .int .i64 (.ofNat 10), .int .i64 (.ofNat 0), .int .i64 (.ofNat 20), .fn 32 [] []]) (Zs 8 []) fun e fr H => (e = .normal ∨ e = .ret) ∧ fr.df = [] ∧ ∃ l, Xm ENu fr.t H W0.results = some l ∧ Vf (Ja l) = Zkx (Zbl 10 0 20 Z1 s) := by
  have hl : Zb s = s.length := rfl
  have hle := X4 Z1 (s.drop 0)
  rw [List.length_drop] at hle
  have e1 : runT (.fn 32 [] []) (s.drop 0) = true := by
    show (true && Nat.blt (s.drop 0).length 4294967296) = true
    rw [List.length_drop, Zm (by omega)]; rfl
  have e2 : Zf .i64 (.ofNat (Nat.add 0 (Zee (.fn 32 [] []) (s.drop 0)))) = .ofNat (0 + Zi Z1 (s.drop 0)) := Vo (k := 0 + Zi Z1 (s.drop 0)) (by omega)
  refine Zg.leafXC hE hI (Jj true) (vs := nuV 10 0 20 s 0 (Zi Z1 (s.drop 0)) (0 + Zi Z1 (s.drop 0))) (os := []) (os2 := []) ((Z6g s).trans (by rw [e1, e2]; rfl)) (by decide) rfl rfl Y3 (.inl ⟨rfl, ?_⟩)
  have fin : ∀ (x : Nat × Nat × Nat), Zbl 10 0 20 Z1 s = x → ∀ fr' H' {n : Nat} {S : List Nat} {vs : List AV} {keep : List Nat} {H2 : AHeap}, Ren 8 keep fr' H' (Zd n S vs) H2 → [2, 3, 4].map (fun t => (Zd n S vs).t.get t) = [AV.int .u64 (.ofNat x.1), .int .i64 (.ofNat x.2.1), .int .i64 (.ofNat x.2.2)].map some → (AExit.ret = .normal ∨ AExit.ret = .ret) ∧ fr'.df = [] ∧ ∃ l, Xm ENu fr'.t H' W0.results = some l ∧ Vf (Ja l) = Zkx (Zbl 10 0 20 Z1 s) := fun x hx fr' H' n S vs keep H2 r e => ⟨.inr rfl, r.df.1, _, by rw [Zo4]; exact Va r e rfl, by rw [hx]; rfl⟩
  have et := Z8t s (Zi Z1 (s.drop 0)) (0 + Zi Z1 (s.drop 0))
  rw [show Nat.blt 0 (Zb s) = true from Zm (by omega)] at et
  have ht := et.trans (Yfn _ _ _ _ _ _ _ _)
  have hcond : Zbl 10 0 20 Z1 s = bif (Nat.blt (0 + Zi Z1 (s.drop 0)) (Zb s) && Zfe (.ofNat (UInt8.toNat (Za s (0 + Zi Z1 (s.drop 0)))))) || (Nat.blt 1 (Zi Z1 (s.drop 0)) && Nat.beq (UInt8.toNat (Za s 0)) 48) then (0, 0, 12) else bif Nat.blt 20 (Zi Z1 (s.drop 0)) then (0, 0, 3) else bif Nat.blt (Ym 10 ((s.drop 0).take (Zi Z1 (s.drop 0)))) 18446744073709551616 then (Ym 10 ((s.drop 0).take (Zi Z1 (s.drop 0))), 0 + Zi Z1 (s.drop 0), 0) else (0, 0, 3) := rfl
  generalize hx : ((Nat.blt (0 + Zi Z1 (s.drop 0)) (Zb s) && Zfe (.ofNat (UInt8.toNat (Za s (0 + Zi Z1 (s.drop 0)))))) || (Nat.blt 1 (Zi Z1 (s.drop 0)) && Nat.beq (UInt8.toNat (Za s 0)) 48)) = x at ht hcond
  cases x with
  | true => exact Zg.leafXC hE hI (Jj true) (vs := nuV 10 0 20 s 12 (Zi Z1 (s.drop 0)) (0 + Zi Z1 (s.drop 0))) (os := []) (os2 := []) ht (by decide) rfl rfl Y3 (.inr ⟨(by intro h; cases h), fun fr' H' r => fin (0, 0, 12) hcond fr' H' r rfl⟩)
  | false =>
    rw [Xo] at ht
    simp only [cond_false] at hcond
    cases hm : Nat.blt 20 (Zi Z1 (s.drop 0)) with
    | true =>
      rw [hm, Y8] at ht
      rw [hm] at hcond
      exact Zg.leafXC hE hI (Jj true) (vs := nuV 10 0 20 s 3 (Zi Z1 (s.drop 0)) (0 + Zi Z1 (s.drop 0))) (os := []) (os2 := []) ht (by decide) rfl rfl Y3 (.inr ⟨(by intro h; cases h), fun fr' H' r => fin (0, 0, 3) hcond fr' H' r rfl⟩)
    | false =>
      rw [hm, Xo] at ht
      rw [hm] at hcond
      simp only [cond_false] at hcond
      have hm2 : Zi Z1 (s.drop 0) ≤ 20 := by
        have : ¬ 20 < Zi Z1 (s.drop 0) := fun h => by rw [Zm h] at hm; cases hm
        omega
      refine Zg.leafXC hE hI (Jj true) (vs := nuV 10 0 20 s 0 (Zi Z1 (s.drop 0)) (0 + Zi Z1 (s.drop 0))) (os := []) (os2 := []) ht (by decide) rfl rfl Y3 (.inl ⟨rfl, ?_⟩)
      have et2 : List.take (0 + Zi Z1 (s.drop 0)) (List.drop 0 s) = ((s.drop 0).take (Zi Z1 (s.drop 0))) := by rw [List.drop_zero, Nat.zero_add]
      have ha := Zm8 Z1 (s.drop 0)
      have hn := Zth Z1 (s.drop 0)
      have hlt : Ym 10 ((s.drop 0).take (Zi Z1 (s.drop 0))) < 10 ^ Zi Z1 (s.drop 0) := by
        have := Znl (b := 10) (q := Z1) Ycw _ 0 0 ha (by decide)
        rw [hn, Nat.zero_add] at this
        exact this
      have hpow : 10 ^ Zi Z1 (s.drop 0) ≤ 10 ^ 20 := Nat.pow_le_pow_right (by decide) hm2
      have hok : Zk0 (.ofNat 10) ((s.drop 0).take (Zi Z1 (s.drop 0))) = true := by
        unfold Zk0 Z2h
        rw [show Zb ((s.drop 0).take (Zi Z1 (s.drop 0))) = Zi Z1 (s.drop 0) from hn, Yn h1, Zm (show Zi Z1 (s.drop 0) < 4294967296 by omega), ha]
        rfl
      cases hv : Nat.blt (Ym 10 ((s.drop 0).take (Zi Z1 (s.drop 0)))) 18446744073709551616 with
      | true =>
        rw [hv] at hcond
        have hsp : Zh9 (.ofNat 10) ((s.drop 0).take (Zi Z1 (s.drop 0))) = true := by unfold Zh9; rw [hok, show Int.toNat (.ofNat 10) = 10 from rfl, hv]; rfl
        refine Zg.leafC hE (Jj true) (os := []) (os2 := []) ((Z8p s (Zi Z1 (s.drop 0)) (0 + Zi Z1 (s.drop 0))).trans (by rw [et2, show Nat.ble (0 + Zi Z1 (s.drop 0)) (Zb s) = true from Yn (by omega), hsp, show Int.toNat (.ofNat 10) = 10 from rfl, hv]; rfl)) (by decide) rfl rfl Y3 fun fr' H' r => fin _ hcond fr' H' r rfl
      | false =>
        rw [hv] at hcond
        have hge : 18446744073709551616 ≤ Ym 10 ((s.drop 0).take (Zi Z1 (s.drop 0))) := Nat.le_of_not_lt fun h => by rw [Zm h] at hv; cases hv
        have h20 : Zi Z1 (s.drop 0) = 20 := by
          by_cases h : Zi Z1 (s.drop 0) < 20
          · have := Nat.pow_le_pow_right (n := 10) (by decide) (show Zi Z1 (s.drop 0) ≤ 19 by omega)
            have : (10 : Nat) ^ 19 = 10000000000000000000 := by decide
            omega
          · omega
        have hsp : Zh9 (.ofNat 10) ((s.drop 0).take (Zi Z1 (s.drop 0))) = true := by unfold Zh9; rw [hok, show Zb ((s.drop 0).take (Zi Z1 (s.drop 0))) = 20 from hn.trans h20, show Nat.beq 20 20 = true from rfl, Bool.or_true]; rfl
        refine Zg.leafC hE (Jj false) (os := []) (os2 := []) ((Z7d s (Zi Z1 (s.drop 0)) (0 + Zi Z1 (s.drop 0))).trans (by rw [et2, show Nat.ble (0 + Zi Z1 (s.drop 0)) (Zb s) = true from Yn (by omega), hsp, hv]; rfl)) (by decide) rfl rfl Y3 fun fr' H' r => fin (0, 0, 3) hcond fr' H' r rfl
end
section
variable {P : Program} {I : List MEnt → AHeap → World → Prop} {ro : Option Nat}
theorem Z8x (hE : EnvOk ENu P I) (hI : Carried I) {s : List UInt8} (h1 : 1 ≤ Zi Z9 (s.drop 2)) (h2 : 2 ≤ s.length) (hs : s.length < 4294967296) : Zg ENu P I ro (((flat W0.body).drop 4).take 2 ++ (((flat W0.body).drop 6).take 1 ++ (flat W0.body).drop 7)) (Zd 70 [0, 2, 3, 4, 5, 6, 7, 8] [.str s, .int .u64 (.ofNat 0), .int .i64 (.ofNat 0), .int .i64 (.ofNat 0), .int .i64 (.ofNat 16), .int .i64 (.ofNat 2), .int .i64 (.ofNat 16), .fn 42 [] []]) (Zs 8 []) fun e fr H => (e = .normal ∨ e = .ret) ∧ fr.df = [] ∧ ∃ l, Xm ENu fr.t H W0.results = some l ∧ Vf (Ja l) = Zkx (Zbl 16 2 16 Z9 s) := by
  have hl : Zb s = s.length := rfl
  have hle := X4 Z9 (s.drop 2)
  rw [List.length_drop] at hle
  have e1 : runT (.fn 42 [] []) (s.drop 2) = true := by
    show (true && Nat.blt (s.drop 2).length 4294967296) = true
    rw [List.length_drop, Zm (by omega)]; rfl
  have e2 : Zf .i64 (.ofNat (Nat.add 2 (Zee (.fn 42 [] []) (s.drop 2)))) = .ofNat (2 + Zi Z9 (s.drop 2)) := Vo (k := 2 + Zi Z9 (s.drop 2)) (by omega)
  refine Zg.leafXC hE hI (Jj true) (vs := nuV 16 2 16 s 0 (Zi Z9 (s.drop 2)) (2 + Zi Z9 (s.drop 2))) (os := []) (os2 := []) ((Z8j s).trans (by rw [show Nat.ble 2 (Zb s) = true from Yn h2, e1, e2]; rfl)) (by decide) rfl rfl Y3 (.inl ⟨rfl, ?_⟩)
  have fin : ∀ (x : Nat × Nat × Nat), Zbl 16 2 16 Z9 s = x → ∀ fr' H' {n : Nat} {S : List Nat} {vs : List AV} {keep : List Nat} {H2 : AHeap}, Ren 8 keep fr' H' (Zd n S vs) H2 → [2, 3, 4].map (fun t => (Zd n S vs).t.get t) = [AV.int .u64 (.ofNat x.1), .int .i64 (.ofNat x.2.1), .int .i64 (.ofNat x.2.2)].map some → (AExit.ret = .normal ∨ AExit.ret = .ret) ∧ fr'.df = [] ∧ ∃ l, Xm ENu fr'.t H' W0.results = some l ∧ Vf (Ja l) = Zkx (Zbl 16 2 16 Z9 s) := fun x hx fr' H' n S vs keep H2 r e => ⟨.inr rfl, r.df.1, _, by rw [Zo4]; exact Va r e rfl, by rw [hx]; rfl⟩
  have et := Z5f s (Zi Z9 (s.drop 2)) (2 + Zi Z9 (s.drop 2))
  have ht := et.trans (Yf3 _ _ _ _ _ _)
  have hcond : Zbl 16 2 16 Z9 s = bif (Nat.blt (2 + Zi Z9 (s.drop 2)) (Zb s) && Zfe (.ofNat (UInt8.toNat (Za s (2 + Zi Z9 (s.drop 2)))))) then (0, 0, 12) else bif Nat.blt 16 (Zi Z9 (s.drop 2)) then (0, 0, 3) else bif Nat.blt (Ym 16 ((s.drop 2).take (Zi Z9 (s.drop 2)))) 18446744073709551616 then (Ym 16 ((s.drop 2).take (Zi Z9 (s.drop 2))), 2 + Zi Z9 (s.drop 2), 0) else (0, 0, 3) := by
    unfold Zbl
    rw [show Nat.beq 16 10 = false from rfl, Bool.false_and, Bool.or_false]; rfl
  generalize hx : (Nat.blt (2 + Zi Z9 (s.drop 2)) (Zb s) && Zfe (.ofNat (UInt8.toNat (Za s (2 + Zi Z9 (s.drop 2)))))) = x at ht hcond
  cases x with
  | true => exact Zg.leafXC hE hI (Jj true) (vs := nuV 16 2 16 s 12 (Zi Z9 (s.drop 2)) (2 + Zi Z9 (s.drop 2))) (os := []) (os2 := []) ht (by decide) rfl rfl Y3 (.inr ⟨(by intro h; cases h), fun fr' H' r => fin (0, 0, 12) hcond fr' H' r rfl⟩)
  | false =>
    rw [Xo] at ht
    simp only [cond_false] at hcond
    cases hm : Nat.blt 16 (Zi Z9 (s.drop 2)) with
    | true =>
      rw [hm, Y8] at ht
      rw [hm] at hcond
      exact Zg.leafXC hE hI (Jj true) (vs := nuV 16 2 16 s 3 (Zi Z9 (s.drop 2)) (2 + Zi Z9 (s.drop 2))) (os := []) (os2 := []) ht (by decide) rfl rfl Y3 (.inr ⟨(by intro h; cases h), fun fr' H' r => fin (0, 0, 3) hcond fr' H' r rfl⟩)
    | false =>
      rw [hm, Xo] at ht
      rw [hm] at hcond
      simp only [cond_false] at hcond
      have hm2 : Zi Z9 (s.drop 2) ≤ 16 := by
        have : ¬ 16 < Zi Z9 (s.drop 2) := fun h => by rw [Zm h] at hm; cases hm
        omega
      refine Zg.leafXC hE hI (Jj true) (vs := nuV 16 2 16 s 0 (Zi Z9 (s.drop 2)) (2 + Zi Z9 (s.drop 2))) (os := []) (os2 := []) ht (by decide) rfl rfl Y3 (.inl ⟨rfl, ?_⟩)
      have et2 : List.take (Nat.sub (2 + Zi Z9 (s.drop 2)) 2) (List.drop 2 s) = ((s.drop 2).take (Zi Z9 (s.drop 2))) := by rw [show Nat.sub (2 + Zi Z9 (s.drop 2)) 2 = Zi Z9 (s.drop 2) from Nat.add_sub_cancel_left ..]
      have ha := Zm8 Z9 (s.drop 2)
      have hn := Zth Z9 (s.drop 2)
      have hlt : Ym 16 ((s.drop 2).take (Zi Z9 (s.drop 2))) < 16 ^ Zi Z9 (s.drop 2) := by
        have := Znl (b := 16) (q := Z9) Zsf _ 0 0 ha (by decide)
        rw [hn, Nat.zero_add] at this
        exact this
      have hpow : 16 ^ Zi Z9 (s.drop 2) ≤ 16 ^ 16 := Nat.pow_le_pow_right (by decide) hm2
      have hok : Zk0 (.ofNat 16) ((s.drop 2).take (Zi Z9 (s.drop 2))) = true := by
        unfold Zk0 Z2h
        rw [show Zb ((s.drop 2).take (Zi Z9 (s.drop 2))) = Zi Z9 (s.drop 2) from hn, Yn h1, Zm (show Zi Z9 (s.drop 2) < 4294967296 by omega), ha]
        rfl
      have hv : Nat.blt (Ym 16 ((s.drop 2).take (Zi Z9 (s.drop 2)))) 18446744073709551616 = true := Zm (by
        have : (16 : Nat) ^ 16 = 18446744073709551616 := by decide
        omega)
      rw [hv] at hcond
      have hsp : Zh9 (.ofNat 16) ((s.drop 2).take (Zi Z9 (s.drop 2))) = true := by unfold Zh9; rw [hok, show Int.toNat (.ofNat 16) = 16 from rfl, hv]; rfl
      refine Zg.leafC hE (Jj true) (os := []) (os2 := []) ((Z8w s (Zi Z9 (s.drop 2)) (2 + Zi Z9 (s.drop 2))).trans (by rw [et2, show Nat.ble (2 + Zi Z9 (s.drop 2)) (Zb s) = true from Yn (by omega), show Nat.ble 2 (2 + Zi Z9 (s.drop 2)) = true from Yn (by omega), hsp, show Int.toNat (.ofNat 16) = 16 from rfl, hv]; rfl)) (by decide) rfl rfl Y3 fun fr' H' r => fin _ hcond fr' H' r rfl
end
section
variable {P : Program} {I : List MEnt → AHeap → World → Prop} {ro : Option Nat}
theorem Ye2 (hE : EnvOk ENu P I) (hI : Carried I) {s : List UInt8} (h1 : 1 ≤ s.length) (hd : Z1 (Za s 0) = true) (hs : s.length < 4294967296) : Yk ENu P I ro W0.body (Z8 W0 [.str s]) (Zs 8 []) fun e fr H => (e = .normal ∨ e = .ret) ∧ fr.df = [] ∧ ∃ l, Xm ENu fr.t H W0.results = some l ∧ Vf (Ja l) = Zkx (Qy s) := by
  refine Z0 _ ?_
  rw [Zvt]
  have hD : 1 ≤ Zi Z1 (s.drop 0) := by
    rw [List.drop_zero]
    cases s with
    | nil => simp at h1
    | cons c s =>
      unfold Zi
      rw [show Z1 c = true from hd]
      exact Nat.le_add_left _ _
  have et := Ydi s
  have dec : Zew s = false → Zu ENu (Xh ENu (Zia true) 3) ((flat W0.body).take 4) (Yj 8 [0, 2, 3, 4, 5, 6, 7, 8] [0, 1, 2, 3, 4, 5, 6, 7]) (Z8 W0 [.str s]) (Zs 8 []) = lf .normal 70 ([.str s, .int .u64 (.ofNat 0), .int .i64 (.ofNat 0), .int .i64 (.ofNat 0), .int .i64 (.ofNat 10), .int .i64 (.ofNat 0), .int .i64 (.ofNat 20), .fn 32 [] []].map some) ([].map some) → Zg ENu P I ro ((flat W0.body).take 4 ++ (((flat W0.body).drop 4).take 2 ++ (((flat W0.body).drop 6).take 1 ++ (flat W0.body).drop 7))) (Z8 W0 [.str s]) (Zs 8 []) fun e fr H => (e = .normal ∨ e = .ret) ∧ fr.df = [] ∧ ∃ l, Xm ENu fr.t H W0.results = some l ∧ Vf (Ja l) = Zkx (Qy s) := fun hx e => by
    refine Zg.leafXC hE hI (Jj true) e (by decide) rfl rfl Y3 (.inl ⟨rfl, ?_⟩)
    unfold Qy
    rw [hx]
    exact Z9c hE hI hD (Nat.zero_le _) hs
  by_cases h2 : s.length < 2
  · rw [show Nat.blt (Zb s) 2 = true from Zm h2] at et
    refine dec ?_ et
    unfold Zew
    rw [Yab (by omega)]; rfl
  · rw [show Nat.blt (Zb s) 2 = false from Yg h2, show Nat.ble 2 (Zb s) = true from Yn (show 2 ≤ s.length by omega), List.drop_zero] at et
    cases hp : leq (s.take 2) [48, 120] with
    | false =>
      rw [hp] at et
      refine dec ?_ et
      unfold Zew
      rw [hp, Bool.false_and, Bool.and_false]
    | true =>
      have e1 : runT (.fn 42 [] []) (s.drop 2) = true := by
        show (true && Nat.blt (s.drop 2).length 4294967296) = true
        rw [List.length_drop, Zm (by omega)]; rfl
      rw [hp, e1] at et
      have ev : Zee (.fn 42 [] []) (s.drop 2) = Zi Z9 (s.drop 2) := rfl
      rw [ev] at et
      cases hr : Nat.blt 0 (Zi Z9 (s.drop 2)) with
      | false =>
        rw [hr] at et
        refine dec ?_ et
        unfold Zew
        rw [hp, hr, Yn (by omega)]; rfl
      | true =>
        rw [hr] at et
        refine Zg.leafXC hE hI (Jj true) et (by decide) rfl rfl Y3 (.inl ⟨rfl, ?_⟩)
        unfold Qy
        rw [show Zew s = true by unfold Zew; rw [hp, hr, Yn (show 2 ≤ s.length by omega)]; rfl]
        exact Z8x hE hI (by rw [Nat.blt_eq] at hr; exact hr) (by omega) hs
end
def Zju : Nat → List AV → Option AV := fun g args => match args with
  | [.str s] => bif Nat.beq g 33 && (Nat.ble 1 (Zb s) && (Z1 (Za s 0) && Nat.blt (Zb s) 4294967296)) then some (Zkx (Qy s)) else none
  | _ => none
theorem Yd7 : Qm Tryd.prog gl (Zx Zju) := Km fun g args v h => by
  unfold Zju at h
  split at h
  case h_2 => cases h
  rename_i s
  rw [Bool.cond_eq_ite] at h
  split at h
  case isFalse => cases h
  rename_i hb
  simp only [Bool.and_eq_true, Nat.beq_eq, Nat.blt_eq, Nat.ble_eq] at hb
  obtain ⟨rfl, h1, hd, hs⟩ := hb
  simp only [Option.some.injEq] at h
  subst h
  exact ⟨ENu, W0, Z36, Wl, Z7f, Z2 rfl, Ji rfl, fun w hw => Ye2 (Z36 w hw) (Zt hw) h1 hd hs⟩
end
end Go.Proofs.YtdpkmhnpbbapcaaDoor
