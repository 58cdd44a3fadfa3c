/- lex.Lines: the rows of a text's lines, or the first fault. -/
import Derived.Test.YtdpkmhnpbbapcaaDoorLnTest
import Derived.KernelRfl
namespace Go.Proofs.YtdpkmhnpbbapcaaDoor
open Go Go.Vai
noncomputable section
set_option maxRecDepth 100000
def Z2x {α : Type} (args : List AV) (H : AHeap) (k : AV → AHeap → Option α) : Option α := match args with
  | [.str a, .str [c]] => bc (Zqz a) (k (.int .i64 (.ofNat (a.count c))) H) none
  | _ => none
theorem Zgy {α : Type} {args : List AV} {H : AHeap} {k : AV → AHeap → Option α} {r : α} (h : Z2x args H k = some r) : ∃ v H', Zay 10 10 args H = some (v, H') ∧ k v H' = some r := by
  unfold Z2x at h
  split at h
  case h_2 => cases h
  obtain ⟨h1, h⟩ := Zr h
  refine ⟨_, _, ?_, h⟩
  unfold Zqz at h1
  unfold Zay
  simp only [Nat.beq_refl, h1, Bool.and_self, cond_true]
def Z0i {α : Type} (args : List AV) (H : AHeap) (k : AV → AHeap → Option α) : Option α := match args with
  | [.str a, .str [c]] => bc (Zqz a) (k (.sl H.next 0 (Zl c a).length (some (Zl c a).length)) (H.new (.cells (Zl c a).length (Ki (Zl c a)) 9 none 0 false false))) none
  | _ => none
theorem Zgv {α : Type} {args : List AV} {H : AHeap} {k : AV → AHeap → Option α} {r : α} (h : Z0i args H k = some r) : ∃ v H', Zaq 11 9 11 args H = some (v, H') ∧ k v H' = some r := by
  unfold Z0i at h
  split at h
  case h_2 => cases h
  obtain ⟨h1, h⟩ := Zr h
  refine ⟨_, _, ?_, h⟩
  unfold Zqz at h1
  unfold Zaq
  simp only [Nat.beq_refl, h1, Bool.and_self, cond_true, Xx, List.length_map]
  rfl
theorem Zbz {g : Nat} (h : g ≠ 10) (args : List AV) (H : AHeap) : Zay 10 g args H = none := by
  unfold Zay
  split
  · rw [Znf h]; rfl
  · rfl
theorem Zjb {g : Nat} (h : g ≠ 11) (args : List AV) (H : AHeap) : Zaq 11 9 g args H = none := by
  unfold Zaq
  split
  · rw [Znf h]; rfl
  · rfl
abbrev J4 : Env := EE [10, 11, 9] (Wv (Zay 10) (Wv (Zaq 11 9) Zkt))
theorem Z24 (w : World) (hw : Yf gl w) : EnvOk J4 Tryd.prog (Kept gl w) := Vp (by kernel_rfl) (Zwl.or (Zwa.or Z8v)) W1 (fun _ _ _ h => h.1) (Zt hw).ext
def Zp2 {α : Type} : Smk α := fun f args H k => bif Nat.beq f 10 then Z2x args H k else bif Nat.beq f 11 then Z0i args H k else bif Nat.beq f 9 then Zvc args H k else smC J4 f args H k
theorem Z3k {α : Type} : Vj (α := α) J4 Zp2 := by
  intro f args H k r h
  unfold Zp2 at h
  simp only [Bool.cond_eq_ite, Nat.beq_eq] at h
  split at h
  · rename_i e
    subst e
    obtain ⟨u, H', h1, h2⟩ := Zgy h
    exact ⟨u, H', (Q0 h1), h2⟩
  split at h
  · rename_i e
    subst e
    obtain ⟨u, H', h1, h2⟩ := Zgv h
    exact ⟨u, H', ((Za0 (Zbz (by decide) _ _)).trans (Q0 h1)), h2⟩
  split at h
  · rename_i e
    subst e
    obtain ⟨u, H', h1, h2⟩ := Zjj h
    exact ⟨u, H', ((Za0 (Zbz (by decide) _ _)).trans ((Za0 (Zjb (by decide) _ _)).trans ((Zhk _ _).trans h1))), h2⟩
  · exact Vr _ _ _ _ _ _ h
theorem Ya2 {α : Type} : POk (α := α) (Zk J4 Zp2 Zn 9) (run J4 9) := Xs J4 Z3k Zn 9
def Zp8 {α : Type} : Smk α := fun f args H k => bif Nat.beq f 10 then Z2x args H k else bif Nat.beq f 11 then Z0i args H k else bif Nat.beq f 9 then Zuq args H k else smC J4 f args H k
theorem Z0m {α : Type} : Vj (α := α) J4 Zp8 := by
  intro f args H k r h
  unfold Zp8 at h
  simp only [Bool.cond_eq_ite, Nat.beq_eq] at h
  split at h
  · rename_i e
    subst e
    obtain ⟨u, H', h1, h2⟩ := Zgy h
    exact ⟨u, H', (Q0 h1), h2⟩
  split at h
  · rename_i e
    subst e
    obtain ⟨u, H', h1, h2⟩ := Zgv h
    exact ⟨u, H', ((Za0 (Zbz (by decide) _ _)).trans (Q0 h1)), h2⟩
  split at h
  · rename_i e
    subst e
    obtain ⟨u, H', h1, h2⟩ := Zki h
    exact ⟨u, H', ((Za0 (Zbz (by decide) _ _)).trans ((Za0 (Zjb (by decide) _ _)).trans ((Zhk _ _).trans h1))), h2⟩
  · exact Vr _ _ _ _ _ _ h
theorem Z97 {α : Type} : POk (α := α) (Zk J4 Zp8 Zn 9) (run J4 9) := Xs J4 Z0m Zn 9
def Zel {α : Type} : Smk α := fun f args H k => bif Nat.beq f 10 then Z2x args H k else bif Nat.beq f 11 then Z0i args H k else bif Nat.beq f 9 then Zt0 args H k else smC J4 f args H k
theorem Z16 {α : Type} : Vj (α := α) J4 Zel := by
  intro f args H k r h
  unfold Zel at h
  simp only [Bool.cond_eq_ite, Nat.beq_eq] at h
  split at h
  · rename_i e
    subst e
    obtain ⟨u, H', h1, h2⟩ := Zgy h
    exact ⟨u, H', (Q0 h1), h2⟩
  split at h
  · rename_i e
    subst e
    obtain ⟨u, H', h1, h2⟩ := Zgv h
    exact ⟨u, H', ((Za0 (Zbz (by decide) _ _)).trans (Q0 h1)), h2⟩
  split at h
  · rename_i e
    subst e
    obtain ⟨u, H', h1, h2⟩ := Zjc h
    exact ⟨u, H', ((Za0 (Zbz (by decide) _ _)).trans ((Za0 (Zjb (by decide) _ _)).trans ((Zhk _ _).trans h1))), h2⟩
  · exact Vr _ _ _ _ _ _ h
theorem Zjl {α : Type} : POk (α := α) (Zk J4 Zel Zn 9) (run J4 9) := Xs J4 Z16 Zn 9
def fn6 : AFunc := (J4.fn 6).getD default
theorem Yd0 : J4.fn 6 = some fn6 := by kernel_rfl
theorem Zm1 : fn6.results = [2, 3, 4, 5].map .tmp := by kernel_rfl
theorem Zz2 : flat fn6.body = (flat fn6.body).take 5 ++ .block 0 (.loop (Zc [5, 0] fn6.body)) :: (flat fn6.body).drop 6 := by kernel_rfl
theorem Z8o (n i : Nat) (T : Tr AV) : Zh J4 (Zk J4 Zp2 Zn 9) (flat (Zc [5, 0] fn6.body)) (Ya [2, 3, 4, 5] []) (Zd 47 [6, 22, 23, 24] [.nils, .sl 8 0 n (some n), .int .i64 (.ofNat n), .int .i64 (.ofNat i)]) (Xl 8 [.cells n T 9 none 0 true false] 0) (pO 2 3) = bc (Nat.blt i n) (bc (Nat.blt i n) (bc (isS (Tr.get T (Yl i))) (bc (Zh1 (K5 (Tr.get T (Yl i)))) (bc (!(Nat.beq (Zg1 (K5 (Tr.get T (Yl i)))) 0)) (lg .ret 47 9 ([.nils, .int .i64 (up i), .int .i64 (.ofNat (Zs1 (K5 (Tr.get T (Yl i))))), .int .i64 (.ofNat (Zg1 (K5 (Tr.get T (Yl i)))))].map some) []) (none)) (none)) (none)) (none)) (none) := by kernel_rfl
theorem Z7z (n i q : Nat) (T : Tr AV) : Zh J4 (Zk J4 Zp2 Zn 9) (flat (Zc [5, 0] fn6.body)) (Ya [2, 3, 4, 5] []) (Zd 47 [6, 22, 23, 24] [.sl 9 0 q none, .sl 8 0 n (some n), .int .i64 (.ofNat n), .int .i64 (.ofNat i)]) (Xl 8 [.cells n T 9 none 0 true false] 1) (pO 2 3) = bc (Nat.blt i n) (bc (Nat.blt i n) (bc (isS (Tr.get T (Yl i))) (bc (Zh1 (K5 (Tr.get T (Yl i)))) (bc (!(Nat.beq (Zg1 (K5 (Tr.get T (Yl i)))) 0)) (lg .ret 47 10 ([.nils, .int .i64 (up i), .int .i64 (.ofNat (Zs1 (K5 (Tr.get T (Yl i))))), .int .i64 (.ofNat (Zg1 (K5 (Tr.get T (Yl i)))))].map some) []) (none)) (none)) (none)) (none)) (none) := by kernel_rfl
theorem Z6q (n i : Nat) (T : Tr AV) : Zh J4 (Zk J4 Zp8 Zn 9) (flat (Zc [5, 0] fn6.body)) (Ya [6, 22, 23, 24] [10]) (Zd 47 [6, 22, 23, 24] [.nils, .sl 8 0 n (some n), .int .i64 (.ofNat n), .int .i64 (.ofNat i)]) (Xl 8 [.cells n T 9 none 0 true false] 0) (pO 2 1) = bc (Nat.blt i n) (bc (Nat.blt i n) (bc (isS (Tr.get T (Yl i))) (bc (Zhs (K5 (Tr.get T (Yl i)))) (lg .normal 47 11 ([.sl 10 0 1 none, .sl 8 0 n (some n), .int .i64 (.ofNat n), .int .i64 (up i)].map some) [some (.cells 1 ((Tr.nil.putAll 0 [.nils])) 28 (some 1) 0 false false)]) (none)) (none)) (none)) (none) := by kernel_rfl
theorem Z6v (n i q : Nat) (T T2 : Tr AV) : Zh J4 (Zk J4 Zp8 Zn 9) (flat (Zc [5, 0] fn6.body)) (Ya [6, 22, 23, 24] [11]) (Zd 47 [6, 22, 23, 24] [.sl 9 0 q none, .sl 8 0 n (some n), .int .i64 (.ofNat n), .int .i64 (.ofNat i)]) (Xl 8 [.cells n T 9 none 0 true false, .cells q T2 28 (some 1) 0 false false] 0) (pO 2 1) = bc (Nat.blt i n) (bc (Nat.blt i n) (bc (isS (Tr.get T (Yl i))) (bc (Zhs (K5 (Tr.get T (Yl i)))) (bc (Nat.blt (Nat.mul q 1) q) (bc (Vl T2 0 (Nat.mul q 1)) (bc (Nat.beq (Nat.mul q 1) (Nat.mul q 1)) (bc (Zz (Nat.succ q) 24) (lg .normal 47 12 ([.sl 11 0 (Nat.succ q) none, .sl 8 0 n (some n), .int .i64 (.ofNat n), .int .i64 (up i)].map some) [some (.cells (Nat.succ (Nat.mul q 1)) (Tr.putAll (Tr.putAll Tr.nil 0 (Wo T2 0 (Nat.mul q 1))) (Nat.mul q 1) [.nils]) 28 (some 1) 0 false false)]) (none)) (none)) (none)) (bc (Nat.beq q (Nat.mul q 1)) (bc (Zz (Nat.succ q) 24) (lg .normal 47 12 ([.sl 11 0 (Nat.succ q) none, .sl 8 0 n (some n), .int .i64 (.ofNat n), .int .i64 (up i)].map some) [some (.cells (Nat.succ q) (Tr.putAll T2 q [.nils]) 28 (some 1) 0 false false)]) (none)) (none))) (none)) (none)) (none)) (none) := by kernel_rfl
theorem Z69 (s : List UInt8) : Zh J4 (Zk J4 Zel Zn 9) ((flat fn6.body).take 5) (Ya [2, 3, 4, 5] []) (Z8 fn6 [.str s]) (Xl 8 [] 0) (pO 5 31) = bc (Nat.blt 262144 (Zb s)) (lg .ret 47 8 ([.nils, .int .i64 (.ofNat 0), .int .i64 (.ofNat 0), .int .i64 (.ofNat 6)].map some) []) (none) := by kernel_rfl
theorem Z8a (s : List UInt8) : Zh J4 (Zk J4 Zel Zn 9) ((flat fn6.body).take 5) (Ya [2, 3, 4, 5] []) (Z8 fn6 [.str s]) (Xl 8 [] 0) (pO 5 16) = bc (Nat.blt 262144 (Zb s)) (none) (bc (Zqz s) (bc (Yc (.ofNat 16384) (up (List.count 10 s))) (lg .ret 47 8 ([.nils, .int .i64 (.ofNat 0), .int .i64 (.ofNat 0), .int .i64 (.ofNat 6)].map some) []) (none)) (none)) := by kernel_rfl
theorem Ybn (s : List UInt8) : Zh J4 (Zk J4 Zel Zn 9) ((flat fn6.body).take 5) (Ya [6, 22, 23, 24] [8]) (Z8 fn6 [.str s]) (Xl 8 [] 0) (pO 5 0) = bc (Nat.blt 262144 (Zb s)) (none) (bc (Zqz s) (bc (Yc (.ofNat 16384) (up (List.count 10 s))) (none) (bc (Zqz s) (lg .normal 47 9 ([.nils, .sl 8 0 (Zq1 s) (some (Zq1 s)), .int .i64 (.ofNat (Zq1 s)), .int .i64 (.ofNat 0)].map some) [some (.cells (Zq1 s) (Yct s) 9 none 0 false false)]) (none))) (none)) := by kernel_rfl
theorem Z88 (n i q : Nat) (T : Tr AV) : Zh J4 (Zk J4 Zel Zn 9) (flat (Zc [5, 0] fn6.body)) (Ya [6, 22, 23, 24] []) (Zd 47 [6, 22, 23, 24] [.sl 9 0 q none, .sl 8 0 n (some n), .int .i64 (.ofNat n), .int .i64 (.ofNat i)]) (Xl 8 [.cells n T 9 none 0 true false] 1) (pO 1 0) = bc (Nat.blt i n) (none) (lg (.exit 0) 47 10 ([.sl 9 0 q none, .sl 8 0 n (some n), .int .i64 (.ofNat n), .int .i64 (.ofNat i)].map some) []) := by kernel_rfl
theorem Ydl (q : Nat) : Zh J4 (Zk J4 Zel Zn 9) ((flat fn6.body).drop 6) (Ya [2, 3, 4, 5] []) (Zd 47 [6] [.sl 8 0 q none]) (Xl 8 [] 1) (pO 0 0) = lg .ret 47 9 ([.sl 8 0 q none, .int .i64 (.ofNat 0), .int .i64 (.ofNat 0), .int .i64 (.ofNat 0)].map some) [] := by kernel_rfl
theorem Z5t (n i : Nat) (T : Tr AV) : Zh J4 (Zk J4 Zel Zn 9) (flat (Zc [5, 0] fn6.body)) (Ya [6, 22, 23, 24] [9, 11]) (Zd 47 [6, 22, 23, 24] [.nils, .sl 8 0 n (some n), .int .i64 (.ofNat n), .int .i64 (.ofNat i)]) (Xl 8 [.cells n T 9 none 0 true false] 0) (pO 2 1) = bc (Nat.blt i n) (bc (Nat.blt i n) (bc (isS (Tr.get T (Yl i))) (bc (Zht (K5 (Tr.get T (Yl i)))) (lg .normal 47 12 ([.sl 11 0 1 none, .sl 8 0 n (some n), .int .i64 (.ofNat n), .int .i64 (up i)].map some) [some (.cells (Nat.mul (Zdh (K5 (Tr.get T (Yl i)))) 4) (Znu (K5 (Tr.get T (Yl i)))) 31 (some 4) 0 false false), some (.cells 1 ((Tr.nil.putAll 0 [.sl 9 0 (Zdh (K5 (Tr.get T (Yl i)))) none])) 28 (some 1) 0 false false)]) (none)) (none)) (none)) (none) := by kernel_rfl
theorem Z7v (n i q : Nat) (T T2 : Tr AV) : Zh J4 (Zk J4 Zel Zn 9) (flat (Zc [5, 0] fn6.body)) (Ya [6, 22, 23, 24] [10, 12]) (Zd 47 [6, 22, 23, 24] [.sl 9 0 q none, .sl 8 0 n (some n), .int .i64 (.ofNat n), .int .i64 (.ofNat i)]) (Xl 8 [.cells n T 9 none 0 true false, .cells q T2 28 (some 1) 0 false false] 0) (pO 2 1) = bc (Nat.blt i n) (bc (Nat.blt i n) (bc (isS (Tr.get T (Yl i))) (bc (Zht (K5 (Tr.get T (Yl i)))) (bc (Nat.blt (Nat.mul q 1) q) (bc (Vl T2 0 (Nat.mul q 1)) (bc (Nat.beq (Nat.mul q 1) (Nat.mul q 1)) (bc (Zz (Nat.succ q) 24) (lg .normal 47 13 ([.sl 12 0 (Nat.succ q) none, .sl 8 0 n (some n), .int .i64 (.ofNat n), .int .i64 (up i)].map some) [some (.cells (Nat.mul (Zdh (K5 (Tr.get T (Yl i)))) 4) (Znu (K5 (Tr.get T (Yl i)))) 31 (some 4) 0 false false), some (.cells (Nat.succ (Nat.mul q 1)) (Tr.putAll (Tr.putAll Tr.nil 0 (Wo T2 0 (Nat.mul q 1))) (Nat.mul q 1) [.sl 10 0 (Zdh (K5 (Tr.get T (Yl i)))) none]) 28 (some 1) 0 false false)]) (none)) (none)) (none)) (bc (Nat.beq q (Nat.mul q 1)) (bc (Zz (Nat.succ q) 24) (lg .normal 47 13 ([.sl 12 0 (Nat.succ q) none, .sl 8 0 n (some n), .int .i64 (.ofNat n), .int .i64 (up i)].map some) [some (.cells (Nat.mul (Zdh (K5 (Tr.get T (Yl i)))) 4) (Znu (K5 (Tr.get T (Yl i)))) 31 (some 4) 0 false false), some (.cells (Nat.succ q) (Tr.putAll T2 q [.sl 10 0 (Zdh (K5 (Tr.get T (Yl i)))) none]) 28 (some 1) 0 false false)]) (none)) (none))) (none)) (none)) (none)) (none) := by kernel_rfl
def lsF (n : Nat) (v : AV) (i : Nat) : List AV := [v, .sl 8 0 n (some n), .int .i64 (.ofNat n), .int .i64 (.ofNat i)]
theorem Zm6 (n : Nat) : FOk (lsF n) := by
  refine ⟨fun v j β τ h => ?_, fun v j b hb h => ?_, fun v j h => ?_⟩
  · simp only [lsF, List.map_cons, List.map_nil, V2, h]
  · have : Nat.blt 8 b = true := Zm (by omega)
    simp only [lsF, Zgt, ltV, h, this, Bool.and_self]
  · simp only [lsF, Zbi, noX, h, Bool.and_self]
def lsS : List Nat := [6, 22, 23, 24]
section
variable {P : Program} {I : List MEnt → AHeap → World → Prop} {ro : Option Nat}
theorem Zeb (hE : EnvOk J4 P I) (hI : Carried I) {l m : List Code} {orc : Wh} {H : AHeap} {fr fr' : AFr} {os : List AObj} {ks xs : List Nat} {e : AExit} {nx : Nat} {S2 : List Nat} {vs : List AV} {Q : TQ} {cl : PCl LeafG} (hc : POk cl (Go.Vai.run J4 9)) (hk : FrK 8 ks xs H) (hfr : FrIn (kN 8 ks xs) fr fr') (hl : os.length = ks.length) (hro : ∀ u ∈ os, u.isRo = true)
    (hos : ∀ (j : Nat) u, os[j]? = some u → ∃ i o, ks[j]? = some i ∧ H.get i = some o ∧ Jc (kN 8 ks xs) (fun _ => False) (fun _ => (0, 0)) (fun _ => .nils) (fun _ => (0, 0, 0, 0, 0)) i o u)
    (heq : Zh J4 cl l (Ya S2 []) fr' (Xl 8 os xs.length) orc = lg e 47 nx (vs.map some) []) (hp : ∀ v, e ≠ .panic v) (hx : Zbi vs = true)
    (hq : ∀ Hb, (∀ id u, H.get id = some u → Hb.get id = some u) → Hb.next = H.next + (nx - (8 + (ks.length + xs.length))) → (e = .normal ∧ Yd J4 P I ro m (Zd 47 S2 (vs.map (V2 (Q9 (kN 8 ks xs) H.next) (fun _ => .nils)))) Hb Q) ∨ (e ≠ .normal ∧ Q e (Zd 47 S2 (vs.map (V2 (Q9 (kN 8 ks xs) H.next) (fun _ => .nils)))) Hb)) : Yd J4 P I ro (l ++ m) fr H Q :=
  Yd.frameP hE hI hc (D := fun _ => False) (pl := fun _ => (0, 0)) (τ := fun _ => .nils) (os := fun _ => os) (os2 := fun _ => []) (fun _ => heq) hk hfr (fun _ => hl) (fun j hj => hj.elim) (fun θ j u hj => by
    obtain ⟨i, o, a1, a2, a3⟩ := hos j u hj
    refine ⟨i, o, a1, a2, ?_⟩
    rcases a3 with a3 | ⟨n, t, e, g, fz, ro, mk, t', b1, b2, b3⟩ | ⟨n, t, e, g, fz, ro, mk, e', g', fz', mk', t', b1, b2, b4, b3⟩
    · exact .inl a3
    · exact .inr (.inl ⟨n, t, e, g, fz, ro, mk, t', b1, b2, fun i y hy => by
        obtain ⟨x, c1, c2⟩ := b3 i y hy
        exact ⟨x, c1, c2.elim .inl fun ⟨j, _, hj, _⟩ => hj.elim⟩⟩)
    · exact .inr (.inr ⟨n, t, e, g, fz, ro, mk, e', g', fz', mk', t', b1, b2, b4, fun i y hy => by
        obtain ⟨x, c1, c2⟩ := b3 i y hy
        exact ⟨x, c1, c2.elim .inl fun ⟨j, _, hj, _⟩ => hj.elim⟩⟩)) hp hx (fun θ j u hj => by simp at hj) fun θ Hb out => hq Hb (fun id u hu => out.old id u hu fun j u2 _ h2 => hro u2 (List.mem_of_getElem? h2)) out.next
theorem Z3v {ks xs : List Nat} {n : Nat} {T : Tr AV} {H : AHeap} (hT : noT T) (hr : R8 H n T none) (hks : ks = [8]) : ∀ (j : Nat) u, ([.cells n T 9 none 0 true false] : List AObj)[j]? = some u → ∃ i o, ks[j]? = some i ∧ H.get i = some o ∧ Jc (kN 8 ks xs) (fun _ => False) (fun _ => (0, 0)) (fun _ => .nils) (fun _ => (0, 0, 0, 0, 0)) i o u := by
  subst hks
  intro j u hj
  match j, hj with
  | 0, hj => cases hj; exact ⟨8, _, rfl, hr.1, Zdy hT⟩
  | j + 1, hj => simp at hj
theorem Z2m {n : Nat} {T : Tr AV} : ∀ u ∈ ([.cells n T 9 none 0 true false] : List AObj), u.isRo = true := fun u hu => by
  obtain rfl := List.mem_singleton.1 hu
  rfl
def lsI (s : List UInt8) (x : Nat × Nat × List (Option Nat) × AHeap) : Prop := x.1 ≤ (Zl 10 s).length ∧ Zgc s x.1 ∧ R8 x.2.2.2 (Zl 10 s).length (Ki (Zl 10 s)) none ∧ (x.1 = 0 ∨ (0 < x.1 ∧ LI x.2.2.2 x.2.1 x.2.2.1 (Wi s x.1) ∧ 8 ∉ x.2.1 :: x.2.2.1.filterMap id))
def lsQ (s : List UInt8) : TQ := fun e fr H => (e = .exit 0 ∧ ∃ o ids, R8 H (Zl 10 s).length (Ki (Zl 10 s)) none ∧ LI H o ids (Wi s (Zl 10 s).length) ∧ Zgc s (Zl 10 s).length ∧ fr = Zd 47 lsS (lsF (Zl 10 s).length (.sl o 0 (Zl 10 s).length none) (Zl 10 s).length)) ∨
  (e = .ret ∧ ∃ k p, (Zl 10 s)[k]? = some p ∧ Zgc s k ∧ (Ye p).2.2 ≠ 0 ∧ fr = Zd 47 [2, 3, 4, 5] [.nils, .int .i64 (.ofNat (k + 1)), .int .i64 (.ofNat (Ye p).2.1), .int .i64 (.ofNat (Ye p).2.2)])
theorem Z7l (hE : EnvOk J4 P I) (hI : Carried I) {s : List UInt8} (hs : s.length < 1048576) (hn : (Zl 10 s).length ≤ 16384) {H : AHeap} (hr : R8 H (Zl 10 s).length (Ki (Zl 10 s)) none) : Yk J4 P I ro (.loop (Zc [5, 0] fn6.body)) (Zd 47 lsS (lsF (Zl 10 s).length .nils 0)) H (lsQ s) := by
  have hn1 : 1 ≤ (Zl 10 s).length := by rw [J0]; omega
  refine Yk.loopX (X := Nat × Nat × List (Option Nat) × AHeap) (fr := fun x => Zd 47 lsS (lsF (Zl 10 s).length (Zrv (Wi s x.1) x.2.1) x.1)) (H := fun x => x.2.2.2) (Inv := lsI s) (fun x => (Zl 10 s).length - x.1) ?_ (0, 0, [], H) ⟨Nat.zero_le _, fun j p hj => by omega, hr, .inl rfl⟩
  rintro ⟨k, o, ids, H⟩ ⟨i1, i2, i3, i4⟩
  simp only at i1 i2 i3 i4
  refine Yd.tri ?_
  by_cases h : k < (Zl 10 s).length
  · have hp : (Zl 10 s)[k]? = some ((Zl 10 s)[k]) := List.getElem?_eq_getElem h
    generalize (Zl 10 s)[k] = p at hp
    have hpl : p.length < 1048576 := by
      have := Zf6 10 s p (List.mem_of_getElem? hp)
      omega
    have f1 : Nat.blt k (Zl 10 s).length = true := Zm h
    have f2 : Tr.get (Ki (Zl 10 s)) (Yl k) = some (.str p) := Z4o (by omega) hp
    have f3 : K5 (some (AV.str p)) = p := rfl
    have f4 : isS (some (AV.str p)) = true := rfl
    have f5 := Yv (k := k) (by omega)
    have next : ∀ Hb o' ids', R8 Hb (Zl 10 s).length (Ki (Zl 10 s)) none → LI Hb o' ids' (Wi s k ++ [(Ye p).1]) → 8 ∉ o' :: ids'.filterMap id → (Ye p).2.2 = 0 → (AExit.normal = .normal ∧ ∃ x', lsI s x' ∧ (Zl 10 s).length - x'.1 < (Zl 10 s).length - k ∧ Zd 47 lsS (lsF (Zl 10 s).length (.sl o' 0 ((Wi s k).length + 1) none) (k + 1)) = Zd 47 lsS (lsF (Zl 10 s).length (Zrv (Wi s x'.1) x'.2.1) x'.1) ∧ Hb = x'.2.2.2) ∨ (AExit.normal ≠ .normal ∧ lsQ s .normal (Zd 47 lsS (lsF (Zl 10 s).length (.sl o' 0 ((Wi s k).length + 1) none) (k + 1))) Hb) := fun Hb o' ids' a1 a2 a3 a4 => by
      refine .inl ⟨rfl, (k + 1, o', ids', Hb), ⟨h, Zl3 hp i2 a4, a1, .inr ⟨Nat.succ_pos _, ?_, a3⟩⟩, by simp only; omega, ?_, rfl⟩
      · simp only; rw [Zd2 hp]; exact a2
      · simp only
        rw [Zd2 hp, Zak (by simp), List.length_append]; rfl
    have fault : ∀ {fr : AFr} {Hb : AHeap}, (Ye p).2.2 ≠ 0 → fr = Zd 47 [2, 3, 4, 5] [.nils, .int .i64 (.ofNat (k + 1)), .int .i64 (.ofNat (Ye p).2.1), .int .i64 (.ofNat (Ye p).2.2)] → (AExit.ret = .normal ∧ ∃ x', lsI s x' ∧ (Zl 10 s).length - x'.1 < (Zl 10 s).length - k ∧ fr = Zd 47 lsS (lsF (Zl 10 s).length (Zrv (Wi s x'.1) x'.2.1) x'.1) ∧ Hb = x'.2.2.2) ∨ (AExit.ret ≠ .normal ∧ lsQ s .ret fr Hb) := fun {fr Hb} h1 h2 => .inr ⟨(by intro h; cases h), .inr ⟨rfl, k, p, hp, i2, h1, h2⟩⟩
    by_cases he : (Ye p).2.2 = 0
    case neg =>
      have t0 := Zpi hpl he
      have t9 : Nat.beq (Zg1 p) 0 = false := J2 he
      rcases i4 with rfl | ⟨hk0, hLI, h8⟩
      · rw [← List.append_nil (flat (Zc [5, 0] fn6.body))]
        exact Zeb hE hI Ya2 (ks := [8]) (xs := []) (os := [.cells (Zl 10 s).length (Ki (Zl 10 s)) 9 none 0 true false]) (vs := [.nils, .int .i64 (.ofNat 1), .int .i64 (.ofNat (Ye p).2.1), .int .i64 (.ofNat (Ye p).2.2)]) (Zdw i3) (FrIn.mk' (K := kN 8 [8] []) (τ := fun _ => .nils) (nx := H.next) (vs := lsF (Zl 10 s).length .nils 0) (Zdw i3).all rfl) rfl Z2m (Z3v (W8 _) i3 rfl) ((Z8o (Zl 10 s).length 0 (Ki (Zl 10 s))).trans (by rw [f1, f2, f3, f4, t0, t9, f5]; rfl)) (fun v e => by cases e) rfl fun Hb _ _ => .inr ⟨(by intro h; cases h), (fault he rfl).elim (fun h => by cases h.1) fun h => .inr h⟩
      · have hne : Wi s k ≠ [] := fun e => by
          have := Wz i1
          rw [e] at this
          simp at this
          omega
        rw [Zak hne, ← List.append_nil (flat (Zc [5, 0] fn6.body))]
        exact Zeb hE hI Ya2 (ks := [8]) (xs := [o]) (os := [.cells (Zl 10 s).length (Ki (Zl 10 s)) 9 none 0 true false]) (vs := [.nils, .int .i64 (.ofNat (k + 1)), .int .i64 (.ofNat (Ye p).2.1), .int .i64 (.ofNat (Ye p).2.2)]) (Zhy i3 hLI h8) (FrIn.mk' (K := kN 8 [8] [o]) (τ := fun _ => .nils) (nx := H.next) (vs := lsF (Zl 10 s).length (.sl 9 0 (Wi s k).length none) k) (Zhy i3 hLI h8).all rfl) rfl Z2m (Z3v (W8 _) i3 rfl) ((Z7z (Zl 10 s).length k (Wi s k).length (Ki (Zl 10 s))).trans (by rw [f1, f2, f3, f4, t0, t9, f5]; rfl)) (fun v e => by cases e) rfl fun Hb _ _ => .inr ⟨(by intro h; cases h), fault he rfl⟩
    rcases i4 with rfl | ⟨hk0, hLI, h8⟩
    · by_cases w : (Ye p).1 = []
      · have t1 := Zgb hpl he w
        exact Zva hE hI Z97 (Zm6 _) (W8 _) i3 ((Z6q (Zl 10 s).length 0 (Ki (Zl 10 s))).trans (by rw [f1, f2, f3, f4, t1, f5]; rfl)) fun Hb o' ids' a1 a2 a3 => next Hb o' ids' a1 (by rw [w]; exact a2) a3 he
      · have t2 := Zfg hpl he w
        exact Zt9 hE hI Zjl (Zm6 _) (W8 _) i3 w ((Z5t (Zl 10 s).length 0 (Ki (Zl 10 s))).trans (by rw [f1, f2, f3, f4, t2, f5]; rfl)) fun Hb o' ids' a1 a2 a3 => next Hb o' ids' a1 a2 a3 he
    · have hne : Wi s k ≠ [] := fun e => by
        have := Wz i1
        rw [e] at this
        simp at this
        omega
      have hq : (Wi s k).length < 1048576 := by rw [Wz i1]; omega
      obtain ⟨r5, r6, r7⟩ := Zt3 hq
      rw [Zak hne]
      by_cases w : (Ye p).1 = []
      · have t1 := Zgb hpl he w
        exact Zvb hE hI Z97 (Zm6 _) (W8 _) i3 hLI h8 hq (fun T2 => (Z6v (Zl 10 s).length k (Wi s k).length (Ki (Zl 10 s)) T2).trans (by rw [f1, f2, f3, f4, t1, r5, r6, r7, f5]; rfl)) fun Hb o' ids' a1 a2 a3 => next Hb o' ids' a1 (by rw [w]; exact a2) a3 he
      · have t2 := Zfg hpl he w
        exact Zuy hE hI Zjl (Zm6 _) (W8 _) i3 hLI h8 hq w (fun T2 => (Z7v (Zl 10 s).length k (Wi s k).length (Ki (Zl 10 s)) T2).trans (by rw [f1, f2, f3, f4, t2, r5, r6, r7, f5]; rfl)) fun Hb o' ids' a1 a2 a3 => next Hb o' ids' a1 a2 a3 he
  · obtain rfl : k = (Zl 10 s).length := by omega
    rcases i4 with h0 | ⟨hk0, hLI, h8⟩
    · omega
    · have hne : Wi s (Zl 10 s).length ≠ [] := fun e => by
        have := Wz i1
        rw [e] at this
        simp at this
        omega
      have f1 : Nat.blt (Zl 10 s).length (Zl 10 s).length = false := Yg (Nat.lt_irrefl _)
      rw [Zak hne, Wz i1, ← List.append_nil (flat (Zc [5, 0] fn6.body))]
      refine Zeb hE hI Zjl (nx := 10) (ks := [8]) (xs := [o]) (os := [.cells (Zl 10 s).length (Ki (Zl 10 s)) 9 none 0 true false]) (vs := lsF (Zl 10 s).length (.sl 9 0 (Zl 10 s).length none) (Zl 10 s).length) (Zhy i3 hLI h8) (FrIn.mk' (K := kN 8 [8] [o]) (τ := fun _ => .nils) (nx := H.next) (vs := lsF (Zl 10 s).length (.sl 9 0 (Zl 10 s).length none) (Zl 10 s).length) (Zhy i3 hLI h8).all rfl) rfl Z2m (Z3v (W8 _) i3 rfl) ((Z88 (Zl 10 s).length (Zl 10 s).length (Zl 10 s).length (Ki (Zl 10 s))).trans (by rw [f1]; rfl)) (fun v e => by cases e) rfl fun Hb hb hnx => have hn2 : Hb.next = H.next := hnx; .inr ⟨(by intro h; cases h), .inr ⟨(by intro h; cases h), .inl ⟨rfl, o, ids, ⟨hb 8 _ i3.1, hn2 ▸ i3.2⟩, hLI.mono hb (Nat.le_of_eq hn2.symm), i2, rfl⟩⟩⟩
def lsE (s : List UInt8) : TQ := fun e fr H => (e = .normal ∨ e = .ret) ∧ fr.df = [] ∧ ∃ l, Xm J4 fr.t H fn6.results = some l ∧ Z6x s (Ja l) H
theorem Ycj (hE : EnvOk J4 P I) (hI : Carried I) {s : List UInt8} (hs : s.length < 1048576) (hlong : ¬ Zbo s) {H : AHeap} (hr : R8 H (Zl 10 s).length (Ki (Zl 10 s)) none) : Yd J4 P I ro (.block 0 (.loop (Zc [5, 0] fn6.body)) :: (flat fn6.body).drop 6) (Zd 47 lsS (lsF (Zl 10 s).length .nils 0)) H (lsE s) := by
  have hn : (Zl 10 s).length ≤ 16384 := by
    rw [J0]
    exact Nat.le_of_not_lt fun h => hlong (.inr h)
  refine Yd.cons (Yk.mono (Yk.block (Q := fun e fr H => (e = .normal ∧ ∃ o ids, R8 H (Zl 10 s).length (Ki (Zl 10 s)) none ∧ LI H o ids (Wi s (Zl 10 s).length) ∧ Zgc s (Zl 10 s).length ∧ fr = Zd 47 lsS (lsF (Zl 10 s).length (.sl o 0 (Zl 10 s).length none) (Zl 10 s).length)) ∨ (e = .ret ∧ ∃ k p, (Zl 10 s)[k]? = some p ∧ Zgc s k ∧ (Ye p).2.2 ≠ 0 ∧ fr = Zd 47 [2, 3, 4, 5] [.nils, .int .i64 (.ofNat (k + 1)), .int .i64 (.ofNat (Ye p).2.1), .int .i64 (.ofNat (Ye p).2.2)])) ((Z7l hE hI hs hn hr).mono ?_)) ?_)
  · rintro e fr H (⟨rfl, h⟩ | ⟨rfl, h⟩)
    · exact .inl ⟨rfl, h⟩
    · exact .inr ⟨rfl, h⟩
  · rintro e fr H (⟨rfl, o, ids, h1, h2, h3, rfl⟩ | ⟨rfl, k, p, h1, h2, h3, rfl⟩)
    · refine .inl ⟨rfl, ?_⟩
      rw [← List.append_nil ((flat fn6.body).drop 6)]
      have hfr : FrIn (kN 8 [] [o]) (Zd 47 lsS (lsF (Zl 10 s).length (.sl o 0 (Zl 10 s).length none) (Zl 10 s).length)) (Zd 47 [6] [.sl 8 0 (Zl 10 s).length none]) := by
        refine ⟨rfl, rfl, ⟨rfl, rfl⟩, fun i y hy => ?_⟩
        obtain ⟨j, a1, a2⟩ := Ve hy
        match j, a1, a2 with
        | 0, a1, a2 =>
          cases a1; cases a2
          refine ⟨.sl o 0 (Zl 10 s).length none, rfl, ?_⟩
          exact Zo1 (K := kN 8 [] [o]) (nx := 0) (τ := fun _ => .nils) (Zum h2).all (.sl 8 0 (Zl 10 s).length none) rfl
        | j + 1, a1, a2 => simp at a1
      exact Zeb hE hI Zjl (ks := []) (xs := [o]) (os := []) (vs := [.sl 8 0 (Zl 10 s).length none, .int .i64 (.ofNat 0), .int .i64 (.ofNat 0), .int .i64 (.ofNat 0)]) (Zum h2) hfr rfl (fun u hu => by cases hu) (fun j u hj => by simp at hj) (Ydl (Zl 10 s).length) (fun v e => by cases e) rfl fun Hb hb hnx => .inr ⟨(by intro h; cases h), .inr rfl, rfl, [.sl o 0 (Zl 10 s).length none, .int .i64 (.ofNat 0), .int .i64 (.ofNat 0), .int .i64 (.ofNat 0)], by rw [Zm1]; rfl, .inr (.inr ⟨hlong, h3, o, ids, h2.mono hb (Nat.le_of_eq (show Hb.next = H.next from hnx).symm), rfl⟩)⟩
    · exact .inr ⟨(by intro h; cases h), .inr rfl, rfl, [.nils, .int .i64 (.ofNat (k + 1)), .int .i64 (.ofNat (Ye p).2.1), .int .i64 (.ofNat (Ye p).2.2)], by rw [Zm1]; rfl, .inr (.inl ⟨hlong, k, p, h1, h2, h3, rfl⟩)⟩
theorem Yck (hE : EnvOk J4 P I) (hI : Carried I) {s : List UInt8} (hs : s.length < 1048576) : Yk J4 P I ro fn6.body (Z8 fn6 [.str s]) (Zs 8 []) (lsE s) := by
  have hp : ∀ v ∈ [AV.str s], Plain v := Z2 rfl
  have e0 : Zqz s = true := Zm (by omega)
  have hcl : s.count 10 ≤ s.length := List.count_le_length
  have e1 := Yv (k := s.count 10) (by omega)
  refine Yd.tri ?_
  rw [Zz2]
  have long : Zbo s → ∀ {Hb : AHeap}, lsE s .ret (Zd 47 [2, 3, 4, 5] [.nils, .int .i64 (.ofNat 0), .int .i64 (.ofNat 0), .int .i64 (.ofNat 6)]) Hb := fun h {Hb} => ⟨.inr rfl, rfl, [.nils, .int .i64 (.ofNat 0), .int .i64 (.ofNat 0), .int .i64 (.ofNat 6)], by rw [Zm1]; rfl, .inl ⟨h, rfl⟩⟩
  by_cases h1 : 262144 < s.length
  · have f1 : Nat.blt 262144 (Zb s) = true := Zm h1
    exact Zeb hE hI Zjl (ks := []) (xs := []) (os := []) (vs := [.nils, .int .i64 (.ofNat 0), .int .i64 (.ofNat 0), .int .i64 (.ofNat 6)]) Zf0 (Qk hp) rfl (fun u hu => by cases hu) (fun j u hj => by simp at hj) ((Z69 s).trans (by rw [f1]; rfl)) (fun v e => by cases e) rfl fun Hb hb hnx => .inr ⟨(by intro h; cases h), long (.inl h1)⟩
  have f1 : Nat.blt 262144 (Zb s) = false := Yg h1
  by_cases h2 : 16384 < s.count 10 + 1
  · have f2 : Yc (.ofNat 16384) (.ofNat (s.count 10 + 1)) = true := Zm h2
    exact Zeb hE hI Zjl (ks := []) (xs := []) (os := []) (vs := [.nils, .int .i64 (.ofNat 0), .int .i64 (.ofNat 0), .int .i64 (.ofNat 6)]) Zf0 (Qk hp) rfl (fun u hu => by cases hu) (fun j u hj => by simp at hj) ((Z8a s).trans (by rw [f1, e0, e1, f2]; rfl)) (fun v e => by cases e) rfl fun Hb hb hnx => .inr ⟨(by intro h; cases h), long (.inr h2)⟩
  have f2 : Yc (.ofNat 16384) (.ofNat (s.count 10 + 1)) = false := Yg h2
  have hlong : ¬ Zbo s := fun h => h.elim h1 h2
  refine Yd.frameP hE hI Zjl (ks := []) (xs := []) (D := fun _ => False) (pl := fun _ => (0, 0)) (τ := fun _ => .nils) (os := fun _ => []) (names := [8]) (next := 9) (vs := lsF (Zl 10 s).length .nils 0) (os2 := fun _ => [some (.cells (Zl 10 s).length (Ki (Zl 10 s)) 9 none 0 false false)]) (fun _ => (Ybn s).trans (by rw [f1, e0, e1, f2]; rfl)) Zf0 (Qk hp) (fun _ => rfl) (fun j hj => hj.elim) (fun θ j u hj => by simp at hj) (fun v e => by cases e) rfl (fun θ j u hj => ?_) fun θ Hb out => .inl ⟨rfl, ?_⟩
  · match j, hj with
    | 0, hj => cases hj; exact Zi5 (W8 _)
    | j + 1, hj => simp at hj
  · have g8 := out.new 0 8 _ rfl rfl rfl
    rw [Zfc (W8 _)] at g8
    have hn : Hb.next = 9 := out.next
    exact Ycj hE hI hs hlong ⟨g8, by omega⟩
end
end
end Go.Proofs.YtdpkmhnpbbapcaaDoor
