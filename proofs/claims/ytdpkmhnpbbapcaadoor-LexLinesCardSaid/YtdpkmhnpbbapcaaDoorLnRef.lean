/- The document's Lines: the rows of a text's lines, or the first fault. -/
import Derived.Test.YtdpkmhnpbbapcaaDoorLnTest
import Derived.KernelRfl
namespace Go.Proofs.YtdpkmhnpbbapcaaDoor
open Go Go.Vai
noncomputable section
set_option maxRecDepth 100000
def Z01 {α : Type} (args : List AV) (H : AHeap) (k : AV → AHeap → Option α) : Option α := match args with
  | [.str a] => bc (Zuv a) (k (.sl H.next 0 (Zq1 a) none) (H.new (.cells (Zq1 a) (Yct a) 9 (some 1) 0 false false))) none
  | _ => none
theorem Zhc {α : Type} {args : List AV} {H : AHeap} {k : AV → AHeap → Option α} {r : α} (h : Z01 args H k = some r) : ∃ v H', Zac 12 args H = some (v, H') ∧ k v H' = some r := by
  unfold Z01 at h
  split at h
  case h_2 => cases h
  obtain ⟨h1, h⟩ := Zr h
  refine ⟨_, _, ?_, h⟩
  unfold Zuv at h1
  unfold Zac
  simp only [Nat.beq_refl, h1, Bool.and_self, cond_true]
  rfl
theorem Zgw {g : Nat} (h : g ≠ 12) (args : List AV) (H : AHeap) : Zac g args H = none := by
  unfold Zac
  split
  · rw [Znf h]; rfl
  · rfl
abbrev Qc : Env := EE [12, 13] (Wv Zac Zbr)
theorem Z4r (w : World) (hw : Yf gl w) : EnvOk Qc Tryd.prog (Kept gl w) := Vp (by kernel_rfl) (Zwb.or Zr4) W1 (fun _ _ _ h => h.1) (Zt hw).ext
def Zqi {α : Type} : Smk α := fun f args H k => bif Nat.beq f 12 then Z01 args H k else bif Nat.beq f 13 then Zvc args H k else smC Qc f args H k
theorem Z2s {α : Type} : Vj (α := α) Qc Zqi := by
  intro f args H k r h
  unfold Zqi at h
  simp only [Bool.cond_eq_ite, Nat.beq_eq] at h
  split at h
  · rename_i e
    subst e
    obtain ⟨u, H', h1, h2⟩ := Zhc h
    exact ⟨u, H', (Q0 h1), h2⟩
  split at h
  · rename_i e
    subst e
    obtain ⟨u, H', h1, h2⟩ := Zjj h
    exact ⟨u, H', ((Za0 (Zgw (by decide) _ _)).trans ((Zka _ _).trans h1)), h2⟩
  · exact Vr _ _ _ _ _ _ h
theorem Yas {α : Type} : POk (α := α) (Zk Qc Zqi Zn 9) (run Qc 9) := Xs Qc Z2s Zn 9
def Zpo {α : Type} : Smk α := fun f args H k => bif Nat.beq f 12 then Z01 args H k else bif Nat.beq f 13 then Zuq args H k else smC Qc f args H k
theorem Z31 {α : Type} : Vj (α := α) Qc Zpo := by
  intro f args H k r h
  unfold Zpo at h
  simp only [Bool.cond_eq_ite, Nat.beq_eq] at h
  split at h
  · rename_i e
    subst e
    obtain ⟨u, H', h1, h2⟩ := Zhc h
    exact ⟨u, H', (Q0 h1), h2⟩
  split at h
  · rename_i e
    subst e
    obtain ⟨u, H', h1, h2⟩ := Zki h
    exact ⟨u, H', ((Za0 (Zgw (by decide) _ _)).trans ((Zka _ _).trans h1)), h2⟩
  · exact Vr _ _ _ _ _ _ h
theorem Ya7 {α : Type} : POk (α := α) (Zk Qc Zpo Zn 9) (run Qc 9) := Xs Qc Z31 Zn 9
def Zas {α : Type} : Smk α := fun f args H k => bif Nat.beq f 12 then Z01 args H k else bif Nat.beq f 13 then Zt0 args H k else smC Qc f args H k
theorem Z0l {α : Type} : Vj (α := α) Qc Zas := by
  intro f args H k r h
  unfold Zas at h
  simp only [Bool.cond_eq_ite, Nat.beq_eq] at h
  split at h
  · rename_i e
    subst e
    obtain ⟨u, H', h1, h2⟩ := Zhc h
    exact ⟨u, H', (Q0 h1), h2⟩
  split at h
  · rename_i e
    subst e
    obtain ⟨u, H', h1, h2⟩ := Zjc h
    exact ⟨u, H', ((Za0 (Zgw (by decide) _ _)).trans ((Zka _ _).trans h1)), h2⟩
  · exact Vr _ _ _ _ _ _ h
theorem Zdq {α : Type} : POk (α := α) (Zk Qc Zas Zn 9) (run Qc 9) := Xs Qc Z0l Zn 9
def fn7 : AFunc := (Qc.fn 7).getD default
theorem Ydn : Qc.fn 7 = some fn7 := by kernel_rfl
theorem Zok : fn7.results = [2, 3, 4, 5].map .tmp := by kernel_rfl
theorem Z14 : flat fn7.body = (flat fn7.body).take 5 ++ .block 0 (.loop (Zc [5, 0] fn7.body)) :: (((flat fn7.body).drop 6).take 5 ++ .block 2 (.loop (Zc [11, 0] fn7.body)) :: (flat fn7.body).drop 12) := by kernel_rfl
theorem Z71 (n i : Nat) (T : Tr AV) : Zh Qc (Zk Qc Zqi Zn 9) (flat (Zc [11, 0] fn7.body)) (Ya [2, 3, 4, 5] []) (Zd 59 [8, 9, 10] [.sl 8 0 n none, .nils, .int .i64 (.ofNat i)]) (Xl 8 [.cells n T 9 (some 1) 0 true false] 0) (pO 2 3) = bc (Nat.blt i n) (bc (Nat.blt i n) (bc (isS (Tr.get T (Yl i))) (bc (Zh1 (K5 (Tr.get T (Yl i)))) (bc (!(Nat.beq (Zg1 (K5 (Tr.get T (Yl i)))) 0)) (lg .ret 59 9 ([.nils, .int .i64 (up i), .int .i64 (.ofNat (Zs1 (K5 (Tr.get T (Yl i))))), .int .i64 (.ofNat (Zg1 (K5 (Tr.get T (Yl i)))))].map some) []) (none)) (none)) (none)) (none)) (none) := by kernel_rfl
theorem Z6t (n i q : Nat) (T : Tr AV) : Zh Qc (Zk Qc Zqi Zn 9) (flat (Zc [11, 0] fn7.body)) (Ya [2, 3, 4, 5] []) (Zd 59 [8, 9, 10] [.sl 8 0 n none, .sl 9 0 q none, .int .i64 (.ofNat i)]) (Xl 8 [.cells n T 9 (some 1) 0 true false] 1) (pO 2 3) = bc (Nat.blt i n) (bc (Nat.blt i n) (bc (isS (Tr.get T (Yl i))) (bc (Zh1 (K5 (Tr.get T (Yl i)))) (bc (!(Nat.beq (Zg1 (K5 (Tr.get T (Yl i)))) 0)) (lg .ret 59 10 ([.nils, .int .i64 (up i), .int .i64 (.ofNat (Zs1 (K5 (Tr.get T (Yl i))))), .int .i64 (.ofNat (Zg1 (K5 (Tr.get T (Yl i)))))].map some) []) (none)) (none)) (none)) (none)) (none) := by kernel_rfl
theorem Z6u (n i : Nat) (T : Tr AV) : Zh Qc (Zk Qc Zpo Zn 9) (flat (Zc [11, 0] fn7.body)) (Ya [8, 9, 10] [10]) (Zd 59 [8, 9, 10] [.sl 8 0 n none, .nils, .int .i64 (.ofNat i)]) (Xl 8 [.cells n T 9 (some 1) 0 true false] 0) (pO 2 1) = bc (Nat.blt i n) (bc (Nat.blt i n) (bc (isS (Tr.get T (Yl i))) (bc (Zhs (K5 (Tr.get T (Yl i)))) (lg .normal 59 11 ([.sl 8 0 n none, .sl 10 0 1 none, .int .i64 (up i)].map some) [some (.cells 1 ((Tr.nil.putAll 0 [.nils])) 28 (some 1) 0 false false)]) (none)) (none)) (none)) (none) := by kernel_rfl
theorem Z9a (n i q : Nat) (T T2 : Tr AV) : Zh Qc (Zk Qc Zpo Zn 9) (flat (Zc [11, 0] fn7.body)) (Ya [8, 9, 10] [11]) (Zd 59 [8, 9, 10] [.sl 8 0 n none, .sl 9 0 q none, .int .i64 (.ofNat i)]) (Xl 8 [.cells n T 9 (some 1) 0 true false, .cells q T2 28 (some 1) 0 false false] 0) (pO 2 1) = bc (Nat.blt i n) (bc (Nat.blt i n) (bc (isS (Tr.get T (Yl i))) (bc (Zhs (K5 (Tr.get T (Yl i)))) (bc (Nat.blt (Nat.mul q 1) q) (bc (Vl T2 0 (Nat.mul q 1)) (bc (Nat.beq (Nat.mul q 1) (Nat.mul q 1)) (bc (Zz (Nat.succ q) 24) (lg .normal 59 12 ([.sl 8 0 n none, .sl 11 0 (Nat.succ q) none, .int .i64 (up i)].map some) [some (.cells (Nat.succ (Nat.mul q 1)) (Tr.putAll (Tr.putAll Tr.nil 0 (Wo T2 0 (Nat.mul q 1))) (Nat.mul q 1) [.nils]) 28 (some 1) 0 false false)]) (none)) (none)) (none)) (bc (Nat.beq q (Nat.mul q 1)) (bc (Zz (Nat.succ q) 24) (lg .normal 59 12 ([.sl 8 0 n none, .sl 11 0 (Nat.succ q) none, .int .i64 (up i)].map some) [some (.cells (Nat.succ q) (Tr.putAll T2 q [.nils]) 28 (some 1) 0 false false)]) (none)) (none))) (none)) (none)) (none)) (none) := by kernel_rfl
theorem Z5x (s : List UInt8) : Zh Qc (Zk Qc Zas Zn 9) ((flat fn7.body).take 5) (Ya [2, 3, 4, 5] []) (Z8 fn7 [.str s]) (Xl 8 [] 0) (pO 1 1) = bc (Nat.blt 262144 (Zb s)) (lg .ret 59 8 ([.nils, .int .i64 (.ofNat 0), .int .i64 (.ofNat 0), .int .i64 (.ofNat 6)].map some) []) (none) := by kernel_rfl
theorem Ydj (s : List UInt8) : Zh Qc (Zk Qc Zas Zn 9) ((flat fn7.body).take 5) (Ya [0, 6, 7] []) (Z8 fn7 [.str s]) (Xl 8 [] 0) (pO 1 0) = bc (Nat.blt 262144 (Zb s)) (none) (lg .normal 59 8 ([.str s, .int .i64 (.ofNat 1), .int .i64 (.ofNat 0)].map some) []) := by kernel_rfl
theorem Z5g (s : List UInt8) (c j : Nat) : Zh Qc (Zk Qc Zas Zn 9) (flat (Zc [5, 0] fn7.body)) (Ya [0, 6, 7] []) (Zd 59 [0, 6, 7] [.str s, .int .i64 (.ofNat c), .int .i64 (.ofNat j)]) (Xl 8 [] 0) (pO 1 0) = bc (Nat.blt j (Zb s)) (none) (lg (.exit 0) 59 8 ([.str s, .int .i64 (.ofNat c), .int .i64 (.ofNat j)].map some) []) := by kernel_rfl
theorem Z8m (s : List UInt8) (c j : Nat) : Zh Qc (Zk Qc Zas Zn 9) (flat (Zc [5, 0] fn7.body)) (Ya [0, 6, 7] []) (Zd 59 [0, 6, 7] [.str s, .int .i64 (.ofNat c), .int .i64 (.ofNat j)]) (Xl 8 [] 0) (pO 2 3) = bc (Nat.blt j (Zb s)) (bc (Nat.blt j (Zb s)) (bc (Nat.beq (UInt8.toNat (Za s j)) 10) (lg .normal 59 8 ([.str s, .int .i64 (up c), .int .i64 (up j)].map some) []) (none)) (none)) (none) := by kernel_rfl
theorem Z7h (s : List UInt8) (c j : Nat) : Zh Qc (Zk Qc Zas Zn 9) (flat (Zc [5, 0] fn7.body)) (Ya [0, 6, 7] []) (Zd 59 [0, 6, 7] [.str s, .int .i64 (.ofNat c), .int .i64 (.ofNat j)]) (Xl 8 [] 0) (pO 2 1) = bc (Nat.blt j (Zb s)) (bc (Nat.blt j (Zb s)) (bc (Nat.beq (UInt8.toNat (Za s j)) 10) (none) (lg .normal 59 8 ([.str s, .int .i64 (.ofNat c), .int .i64 (up j)].map some) [])) (none)) (none) := by kernel_rfl
theorem Z54 (s : List UInt8) (c j : Nat) : Zh Qc (Zk Qc Zas Zn 9) (((flat fn7.body).drop 6).take 5) (Ya [2, 3, 4, 5] []) (Zd 59 [0, 6, 7] [.str s, .int .i64 (.ofNat c), .int .i64 (.ofNat j)]) (Xl 8 [] 0) (pO 1 1) = bc (Nat.blt 16384 c) (lg .ret 59 8 ([.nils, .int .i64 (.ofNat 0), .int .i64 (.ofNat 0), .int .i64 (.ofNat 6)].map some) []) (none) := by kernel_rfl
theorem Ybw (s : List UInt8) (c j : Nat) : Zh Qc (Zk Qc Zas Zn 9) (((flat fn7.body).drop 6).take 5) (Ya [8, 9, 10] [8]) (Zd 59 [0, 6, 7] [.str s, .int .i64 (.ofNat c), .int .i64 (.ofNat j)]) (Xl 8 [] 0) (pO 1 0) = bc (Nat.blt 16384 c) (none) (bc (Zuv s) (lg .normal 59 9 ([.sl 8 0 (Zq1 s) none, .nils, .int .i64 (.ofNat 0)].map some) [some (.cells (Zq1 s) (Yct s) 9 (some 1) 0 false false)]) (none)) := by kernel_rfl
theorem Z51 (n i q : Nat) (T : Tr AV) : Zh Qc (Zk Qc Zas Zn 9) (flat (Zc [11, 0] fn7.body)) (Ya [8, 9, 10] []) (Zd 59 [8, 9, 10] [.sl 8 0 n none, .sl 9 0 q none, .int .i64 (.ofNat i)]) (Xl 8 [.cells n T 9 (some 1) 0 true false] 1) (pO 1 0) = bc (Nat.blt i n) (none) (lg (.exit 2) 59 10 ([.sl 8 0 n none, .sl 9 0 q none, .int .i64 (.ofNat i)].map some) []) := by kernel_rfl
theorem Ycg (q : Nat) : Zh Qc (Zk Qc Zas Zn 9) ((flat fn7.body).drop 12) (Ya [2, 3, 4, 5] []) (Zd 59 [9] [.sl 8 0 q none]) (Xl 8 [] 1) (pO 0 0) = lg .ret 59 9 ([.sl 8 0 q none, .int .i64 (.ofNat 0), .int .i64 (.ofNat 0), .int .i64 (.ofNat 0)].map some) [] := by kernel_rfl
theorem Z58 (n i : Nat) (T : Tr AV) : Zh Qc (Zk Qc Zas Zn 9) (flat (Zc [11, 0] fn7.body)) (Ya [8, 9, 10] [9, 11]) (Zd 59 [8, 9, 10] [.sl 8 0 n none, .nils, .int .i64 (.ofNat i)]) (Xl 8 [.cells n T 9 (some 1) 0 true false] 0) (pO 2 1) = bc (Nat.blt i n) (bc (Nat.blt i n) (bc (isS (Tr.get T (Yl i))) (bc (Zht (K5 (Tr.get T (Yl i)))) (lg .normal 59 12 ([.sl 8 0 n none, .sl 11 0 1 none, .int .i64 (up i)].map some) [some (.cells (Nat.mul (Zdh (K5 (Tr.get T (Yl i)))) 4) (Znu (K5 (Tr.get T (Yl i)))) 31 (some 4) 0 false false), some (.cells 1 ((Tr.nil.putAll 0 [.sl 9 0 (Zdh (K5 (Tr.get T (Yl i)))) none])) 28 (some 1) 0 false false)]) (none)) (none)) (none)) (none) := by kernel_rfl
theorem Z6j (n i q : Nat) (T T2 : Tr AV) : Zh Qc (Zk Qc Zas Zn 9) (flat (Zc [11, 0] fn7.body)) (Ya [8, 9, 10] [10, 12]) (Zd 59 [8, 9, 10] [.sl 8 0 n none, .sl 9 0 q none, .int .i64 (.ofNat i)]) (Xl 8 [.cells n T 9 (some 1) 0 true false, .cells q T2 28 (some 1) 0 false false] 0) (pO 2 1) = bc (Nat.blt i n) (bc (Nat.blt i n) (bc (isS (Tr.get T (Yl i))) (bc (Zht (K5 (Tr.get T (Yl i)))) (bc (Nat.blt (Nat.mul q 1) q) (bc (Vl T2 0 (Nat.mul q 1)) (bc (Nat.beq (Nat.mul q 1) (Nat.mul q 1)) (bc (Zz (Nat.succ q) 24) (lg .normal 59 13 ([.sl 8 0 n none, .sl 12 0 (Nat.succ q) none, .int .i64 (up i)].map some) [some (.cells (Nat.mul (Zdh (K5 (Tr.get T (Yl i)))) 4) (Znu (K5 (Tr.get T (Yl i)))) 31 (some 4) 0 false false), some (.cells (Nat.succ (Nat.mul q 1)) (Tr.putAll (Tr.putAll Tr.nil 0 (Wo T2 0 (Nat.mul q 1))) (Nat.mul q 1) [.sl 10 0 (Zdh (K5 (Tr.get T (Yl i)))) none]) 28 (some 1) 0 false false)]) (none)) (none)) (none)) (bc (Nat.beq q (Nat.mul q 1)) (bc (Zz (Nat.succ q) 24) (lg .normal 59 13 ([.sl 8 0 n none, .sl 12 0 (Nat.succ q) none, .int .i64 (up i)].map some) [some (.cells (Nat.mul (Zdh (K5 (Tr.get T (Yl i)))) 4) (Znu (K5 (Tr.get T (Yl i)))) 31 (some 4) 0 false false), some (.cells (Nat.succ q) (Tr.putAll T2 q [.sl 10 0 (Zdh (K5 (Tr.get T (Yl i)))) none]) 28 (some 1) 0 false false)]) (none)) (none))) (none)) (none)) (none)) (none) := by kernel_rfl
def rsF (n : Nat) (v : AV) (i : Nat) : List AV := [.sl 8 0 n none, v, .int .i64 (.ofNat i)]
theorem Znp (n : Nat) : FOk (rsF n) := by
  refine ⟨fun v j β τ h => ?_, fun v j b hb h => ?_, fun v j h => ?_⟩
  · simp only [rsF, List.map_cons, List.map_nil, V2, h]
  · have : Nat.blt 8 b = true := Zm (by omega)
    simp only [rsF, Zgt, ltV, h, this, Bool.and_self]
  · simp only [rsF, Zbi, noX, h, Bool.and_self]
def rsS : List Nat := [8, 9, 10]
section
variable {P : Program} {I : List MEnt → AHeap → World → Prop} {ro : Option Nat}
theorem Js (hE : EnvOk Qc P I) (hI : Carried I) {l m : List Code} {orc : Wh} {H : AHeap} {fr fr' : AFr} {os : List AObj} {ks xs : List Nat} {e : AExit} {nx : Nat} {S2 : List Nat} {vs : List AV} {Q : TQ} {cl : PCl LeafG} (hc : POk cl (Go.Vai.run Qc 9)) (hk : FrK 8 ks xs H) (hfr : FrIn (kN 8 ks xs) fr fr') (hl : os.length = ks.length) (hro : ∀ u ∈ os, u.isRo = true)
    (hos : ∀ (j : Nat) u, os[j]? = some u → ∃ i o, ks[j]? = some i ∧ H.get i = some o ∧ Jc (kN 8 ks xs) (fun _ => False) (fun _ => (0, 0)) (fun _ => .nils) (fun _ => (0, 0, 0, 0, 0)) i o u)
    (heq : Zh Qc cl l (Ya S2 []) fr' (Xl 8 os xs.length) orc = lg e 59 nx (vs.map some) []) (hp : ∀ v, e ≠ .panic v) (hx : Zbi vs = true)
    (hq : ∀ Hb, (∀ id u, H.get id = some u → Hb.get id = some u) → Hb.next = H.next + (nx - (8 + (ks.length + xs.length))) → (e = .normal ∧ Yd Qc P I ro m (Zd 59 S2 (vs.map (V2 (Q9 (kN 8 ks xs) H.next) (fun _ => .nils)))) Hb Q) ∨ (e ≠ .normal ∧ Q e (Zd 59 S2 (vs.map (V2 (Q9 (kN 8 ks xs) H.next) (fun _ => .nils)))) Hb)) : Yd Qc P I ro (l ++ m) fr H Q :=
  Yd.frameP hE hI hc (D := fun _ => False) (pl := fun _ => (0, 0)) (τ := fun _ => .nils) (os := fun _ => os) (os2 := fun _ => []) (fun _ => heq) hk hfr (fun _ => hl) (fun j hj => hj.elim) (fun θ j u hj => by
    obtain ⟨i, o, a1, a2, a3⟩ := hos j u hj
    refine ⟨i, o, a1, a2, ?_⟩
    rcases a3 with a3 | ⟨n, t, e, g, fz, ro, mk, t', b1, b2, b3⟩ | ⟨n, t, e, g, fz, ro, mk, e', g', fz', mk', t', b1, b2, b4, b3⟩
    · exact .inl a3
    · exact .inr (.inl ⟨n, t, e, g, fz, ro, mk, t', b1, b2, fun i y hy => by
        obtain ⟨x, c1, c2⟩ := b3 i y hy
        exact ⟨x, c1, c2.elim .inl fun ⟨j, _, hj, _⟩ => hj.elim⟩⟩)
    · exact .inr (.inr ⟨n, t, e, g, fz, ro, mk, e', g', fz', mk', t', b1, b2, b4, fun i y hy => by
        obtain ⟨x, c1, c2⟩ := b3 i y hy
        exact ⟨x, c1, c2.elim .inl fun ⟨j, _, hj, _⟩ => hj.elim⟩⟩)) hp hx (fun θ j u hj => by simp at hj) fun θ Hb out => hq Hb (fun id u hu => out.old id u hu fun j u2 _ h2 => hro u2 (List.mem_of_getElem? h2)) out.next
theorem Z42 {ks xs : List Nat} {n : Nat} {T : Tr AV} {H : AHeap} (hT : noT T) (hr : R8 H n T (some 1)) (hks : ks = [8]) : ∀ (j : Nat) u, ([.cells n T 9 (some 1) 0 true false] : List AObj)[j]? = some u → ∃ i o, ks[j]? = some i ∧ H.get i = some o ∧ Jc (kN 8 ks xs) (fun _ => False) (fun _ => (0, 0)) (fun _ => .nils) (fun _ => (0, 0, 0, 0, 0)) i o u := by
  subst hks
  intro j u hj
  match j, hj with
  | 0, hj => cases hj; exact ⟨8, _, rfl, hr.1, Zdy hT⟩
  | j + 1, hj => simp at hj
theorem Zy6 {n : Nat} {T : Tr AV} : ∀ u ∈ ([.cells n T 9 (some 1) 0 true false] : List AObj), u.isRo = true := fun u hu => by
  obtain rfl := List.mem_singleton.1 hu
  rfl
def rsI (s : List UInt8) (x : Nat × Nat × List (Option Nat) × AHeap) : Prop := x.1 ≤ (Zl 10 s).length ∧ Zgc s x.1 ∧ R8 x.2.2.2 (Zl 10 s).length (Ki (Zl 10 s)) (some 1) ∧ (x.1 = 0 ∨ (0 < x.1 ∧ LI x.2.2.2 x.2.1 x.2.2.1 (Wi s x.1) ∧ 8 ∉ x.2.1 :: x.2.2.1.filterMap id))
def rsQ (s : List UInt8) : TQ := fun e fr H => (e = .exit 2 ∧ ∃ o ids, R8 H (Zl 10 s).length (Ki (Zl 10 s)) (some 1) ∧ LI H o ids (Wi s (Zl 10 s).length) ∧ Zgc s (Zl 10 s).length ∧ fr = Zd 59 rsS (rsF (Zl 10 s).length (.sl o 0 (Zl 10 s).length none) (Zl 10 s).length)) ∨
  (e = .ret ∧ ∃ k p, (Zl 10 s)[k]? = some p ∧ Zgc s k ∧ (Ye p).2.2 ≠ 0 ∧ fr = Zd 59 [2, 3, 4, 5] [.nils, .int .i64 (.ofNat (k + 1)), .int .i64 (.ofNat (Ye p).2.1), .int .i64 (.ofNat (Ye p).2.2)])
theorem Z9g (hE : EnvOk Qc P I) (hI : Carried I) {s : List UInt8} (hs : s.length < 1048576) (hn : (Zl 10 s).length ≤ 16384) {H : AHeap} (hr : R8 H (Zl 10 s).length (Ki (Zl 10 s)) (some 1)) : Yk Qc P I ro (.loop (Zc [11, 0] fn7.body)) (Zd 59 rsS (rsF (Zl 10 s).length .nils 0)) H (rsQ s) := by
  have hn1 : 1 ≤ (Zl 10 s).length := by rw [J0]; omega
  refine Yk.loopX (X := Nat × Nat × List (Option Nat) × AHeap) (fr := fun x => Zd 59 rsS (rsF (Zl 10 s).length (Zrv (Wi s x.1) x.2.1) x.1)) (H := fun x => x.2.2.2) (Inv := rsI s) (fun x => (Zl 10 s).length - x.1) ?_ (0, 0, [], H) ⟨Nat.zero_le _, fun j p hj => by omega, hr, .inl rfl⟩
  rintro ⟨k, o, ids, H⟩ ⟨i1, i2, i3, i4⟩
  simp only at i1 i2 i3 i4
  refine Yd.tri ?_
  by_cases h : k < (Zl 10 s).length
  · have hp : (Zl 10 s)[k]? = some ((Zl 10 s)[k]) := List.getElem?_eq_getElem h
    generalize (Zl 10 s)[k] = p at hp
    have hpl : p.length < 1048576 := by
      have := Zf6 10 s p (List.mem_of_getElem? hp)
      omega
    have f1 : Nat.blt k (Zl 10 s).length = true := Zm h
    have f2 : Tr.get (Ki (Zl 10 s)) (Yl k) = some (.str p) := Z4o (by omega) hp
    have f3 : K5 (some (AV.str p)) = p := rfl
    have f4 : isS (some (AV.str p)) = true := rfl
    have f5 := Yv (k := k) (by omega)
    have next : ∀ Hb o' ids', R8 Hb (Zl 10 s).length (Ki (Zl 10 s)) (some 1) → LI Hb o' ids' (Wi s k ++ [(Ye p).1]) → 8 ∉ o' :: ids'.filterMap id → (Ye p).2.2 = 0 → (AExit.normal = .normal ∧ ∃ x', rsI s x' ∧ (Zl 10 s).length - x'.1 < (Zl 10 s).length - k ∧ Zd 59 rsS (rsF (Zl 10 s).length (.sl o' 0 ((Wi s k).length + 1) none) (k + 1)) = Zd 59 rsS (rsF (Zl 10 s).length (Zrv (Wi s x'.1) x'.2.1) x'.1) ∧ Hb = x'.2.2.2) ∨ (AExit.normal ≠ .normal ∧ rsQ s .normal (Zd 59 rsS (rsF (Zl 10 s).length (.sl o' 0 ((Wi s k).length + 1) none) (k + 1))) Hb) := fun Hb o' ids' a1 a2 a3 a4 => by
      refine .inl ⟨rfl, (k + 1, o', ids', Hb), ⟨h, Zl3 hp i2 a4, a1, .inr ⟨Nat.succ_pos _, ?_, a3⟩⟩, by simp only; omega, ?_, rfl⟩
      · simp only; rw [Zd2 hp]; exact a2
      · simp only
        rw [Zd2 hp, Zak (by simp), List.length_append]; rfl
    have fault : ∀ {fr : AFr} {Hb : AHeap}, (Ye p).2.2 ≠ 0 → fr = Zd 59 [2, 3, 4, 5] [.nils, .int .i64 (.ofNat (k + 1)), .int .i64 (.ofNat (Ye p).2.1), .int .i64 (.ofNat (Ye p).2.2)] → (AExit.ret = .normal ∧ ∃ x', rsI s x' ∧ (Zl 10 s).length - x'.1 < (Zl 10 s).length - k ∧ fr = Zd 59 rsS (rsF (Zl 10 s).length (Zrv (Wi s x'.1) x'.2.1) x'.1) ∧ Hb = x'.2.2.2) ∨ (AExit.ret ≠ .normal ∧ rsQ s .ret fr Hb) := fun {fr Hb} h1 h2 => .inr ⟨(by intro h; cases h), .inr ⟨rfl, k, p, hp, i2, h1, h2⟩⟩
    by_cases he : (Ye p).2.2 = 0
    case neg =>
      have t0 := Zpi hpl he
      have t9 : Nat.beq (Zg1 p) 0 = false := J2 he
      rcases i4 with rfl | ⟨hk0, hLI, h8⟩
      · rw [← List.append_nil (flat (Zc [11, 0] fn7.body))]
        exact Js hE hI Yas (ks := [8]) (xs := []) (os := [.cells (Zl 10 s).length (Ki (Zl 10 s)) 9 (some 1) 0 true false]) (vs := [.nils, .int .i64 (.ofNat 1), .int .i64 (.ofNat (Ye p).2.1), .int .i64 (.ofNat (Ye p).2.2)]) (Zdw i3) (FrIn.mk' (K := kN 8 [8] []) (τ := fun _ => .nils) (nx := H.next) (vs := rsF (Zl 10 s).length .nils 0) (Zdw i3).all rfl) rfl Zy6 (Z42 (W8 _) i3 rfl) ((Z71 (Zl 10 s).length 0 (Ki (Zl 10 s))).trans (by rw [f1, f2, f3, f4, t0, t9, f5]; rfl)) (fun v e => by cases e) rfl fun Hb _ _ => .inr ⟨(by intro h; cases h), (fault he rfl).elim (fun h => by cases h.1) fun h => .inr h⟩
      · have hne : Wi s k ≠ [] := fun e => by
          have := Wz i1
          rw [e] at this
          simp at this
          omega
        rw [Zak hne, ← List.append_nil (flat (Zc [11, 0] fn7.body))]
        exact Js hE hI Yas (ks := [8]) (xs := [o]) (os := [.cells (Zl 10 s).length (Ki (Zl 10 s)) 9 (some 1) 0 true false]) (vs := [.nils, .int .i64 (.ofNat (k + 1)), .int .i64 (.ofNat (Ye p).2.1), .int .i64 (.ofNat (Ye p).2.2)]) (Zhy i3 hLI h8) (FrIn.mk' (K := kN 8 [8] [o]) (τ := fun _ => .nils) (nx := H.next) (vs := rsF (Zl 10 s).length (.sl 9 0 (Wi s k).length none) k) (Zhy i3 hLI h8).all rfl) rfl Zy6 (Z42 (W8 _) i3 rfl) ((Z6t (Zl 10 s).length k (Wi s k).length (Ki (Zl 10 s))).trans (by rw [f1, f2, f3, f4, t0, t9, f5]; rfl)) (fun v e => by cases e) rfl fun Hb _ _ => .inr ⟨(by intro h; cases h), fault he rfl⟩
    rcases i4 with rfl | ⟨hk0, hLI, h8⟩
    · by_cases w : (Ye p).1 = []
      · have t1 := Zgb hpl he w
        exact Zva hE hI Ya7 (Znp _) (W8 _) i3 ((Z6u (Zl 10 s).length 0 (Ki (Zl 10 s))).trans (by rw [f1, f2, f3, f4, t1, f5]; rfl)) fun Hb o' ids' a1 a2 a3 => next Hb o' ids' a1 (by rw [w]; exact a2) a3 he
      · have t2 := Zfg hpl he w
        exact Zt9 hE hI Zdq (Znp _) (W8 _) i3 w ((Z58 (Zl 10 s).length 0 (Ki (Zl 10 s))).trans (by rw [f1, f2, f3, f4, t2, f5]; rfl)) fun Hb o' ids' a1 a2 a3 => next Hb o' ids' a1 a2 a3 he
    · have hne : Wi s k ≠ [] := fun e => by
        have := Wz i1
        rw [e] at this
        simp at this
        omega
      have hq : (Wi s k).length < 1048576 := by rw [Wz i1]; omega
      obtain ⟨r5, r6, r7⟩ := Zt3 hq
      rw [Zak hne]
      by_cases w : (Ye p).1 = []
      · have t1 := Zgb hpl he w
        exact Zvb hE hI Ya7 (Znp _) (W8 _) i3 hLI h8 hq (fun T2 => (Z9a (Zl 10 s).length k (Wi s k).length (Ki (Zl 10 s)) T2).trans (by rw [f1, f2, f3, f4, t1, r5, r6, r7, f5]; rfl)) fun Hb o' ids' a1 a2 a3 => next Hb o' ids' a1 (by rw [w]; exact a2) a3 he
      · have t2 := Zfg hpl he w
        exact Zuy hE hI Zdq (Znp _) (W8 _) i3 hLI h8 hq w (fun T2 => (Z6j (Zl 10 s).length k (Wi s k).length (Ki (Zl 10 s)) T2).trans (by rw [f1, f2, f3, f4, t2, r5, r6, r7, f5]; rfl)) fun Hb o' ids' a1 a2 a3 => next Hb o' ids' a1 a2 a3 he
  · obtain rfl : k = (Zl 10 s).length := by omega
    rcases i4 with h0 | ⟨hk0, hLI, h8⟩
    · omega
    · have hne : Wi s (Zl 10 s).length ≠ [] := fun e => by
        have := Wz i1
        rw [e] at this
        simp at this
        omega
      have f1 : Nat.blt (Zl 10 s).length (Zl 10 s).length = false := Yg (Nat.lt_irrefl _)
      rw [Zak hne, Wz i1, ← List.append_nil (flat (Zc [11, 0] fn7.body))]
      refine Js hE hI Zdq (nx := 10) (ks := [8]) (xs := [o]) (os := [.cells (Zl 10 s).length (Ki (Zl 10 s)) 9 (some 1) 0 true false]) (vs := rsF (Zl 10 s).length (.sl 9 0 (Zl 10 s).length none) (Zl 10 s).length) (Zhy i3 hLI h8) (FrIn.mk' (K := kN 8 [8] [o]) (τ := fun _ => .nils) (nx := H.next) (vs := rsF (Zl 10 s).length (.sl 9 0 (Zl 10 s).length none) (Zl 10 s).length) (Zhy i3 hLI h8).all rfl) rfl Zy6 (Z42 (W8 _) i3 rfl) ((Z51 (Zl 10 s).length (Zl 10 s).length (Zl 10 s).length (Ki (Zl 10 s))).trans (by rw [f1]; rfl)) (fun v e => by cases e) rfl fun Hb hb hnx => have hn2 : Hb.next = H.next := hnx; .inr ⟨(by intro h; cases h), .inr ⟨(by intro h; cases h), .inl ⟨rfl, o, ids, ⟨hb 8 _ i3.1, hn2 ▸ i3.2⟩, hLI.mono hb (Nat.le_of_eq hn2.symm), i2, rfl⟩⟩⟩
def rsE (s : List UInt8) : TQ := fun e fr H => (e = .normal ∨ e = .ret) ∧ fr.df = [] ∧ ∃ l, Xm Qc fr.t H fn7.results = some l ∧ Z6x s (Ja l) H
theorem Yc1 (hE : EnvOk Qc P I) (hI : Carried I) {s : List UInt8} (hs : s.length < 1048576) (hlong : ¬ Zbo s) {H : AHeap} (hr : R8 H (Zl 10 s).length (Ki (Zl 10 s)) (some 1)) : Yd Qc P I ro (.block 2 (.loop (Zc [11, 0] fn7.body)) :: (flat fn7.body).drop 12) (Zd 59 rsS (rsF (Zl 10 s).length .nils 0)) H (rsE s) := by
  have hn : (Zl 10 s).length ≤ 16384 := by
    rw [J0]
    exact Nat.le_of_not_lt fun h => hlong (.inr h)
  refine Yd.cons (Yk.mono (Yk.block (Q := fun e fr H => (e = .normal ∧ ∃ o ids, R8 H (Zl 10 s).length (Ki (Zl 10 s)) (some 1) ∧ LI H o ids (Wi s (Zl 10 s).length) ∧ Zgc s (Zl 10 s).length ∧ fr = Zd 59 rsS (rsF (Zl 10 s).length (.sl o 0 (Zl 10 s).length none) (Zl 10 s).length)) ∨ (e = .ret ∧ ∃ k p, (Zl 10 s)[k]? = some p ∧ Zgc s k ∧ (Ye p).2.2 ≠ 0 ∧ fr = Zd 59 [2, 3, 4, 5] [.nils, .int .i64 (.ofNat (k + 1)), .int .i64 (.ofNat (Ye p).2.1), .int .i64 (.ofNat (Ye p).2.2)])) ((Z9g hE hI hs hn hr).mono ?_)) ?_)
  · rintro e fr H (⟨rfl, h⟩ | ⟨rfl, h⟩)
    · exact .inl ⟨rfl, h⟩
    · exact .inr ⟨rfl, h⟩
  · rintro e fr H (⟨rfl, o, ids, h1, h2, h3, rfl⟩ | ⟨rfl, k, p, h1, h2, h3, rfl⟩)
    · refine .inl ⟨rfl, ?_⟩
      rw [← List.append_nil ((flat fn7.body).drop 12)]
      have hfr : FrIn (kN 8 [] [o]) (Zd 59 rsS (rsF (Zl 10 s).length (.sl o 0 (Zl 10 s).length none) (Zl 10 s).length)) (Zd 59 [9] [.sl 8 0 (Zl 10 s).length none]) := by
        refine ⟨rfl, rfl, ⟨rfl, rfl⟩, fun i y hy => ?_⟩
        obtain ⟨j, a1, a2⟩ := Ve hy
        match j, a1, a2 with
        | 0, a1, a2 =>
          cases a1; cases a2
          refine ⟨.sl o 0 (Zl 10 s).length none, rfl, ?_⟩
          exact Zo1 (K := kN 8 [] [o]) (nx := 0) (τ := fun _ => .nils) (Zum h2).all (.sl 8 0 (Zl 10 s).length none) rfl
        | j + 1, a1, a2 => simp at a1
      exact Js hE hI Zdq (ks := []) (xs := [o]) (os := []) (vs := [.sl 8 0 (Zl 10 s).length none, .int .i64 (.ofNat 0), .int .i64 (.ofNat 0), .int .i64 (.ofNat 0)]) (Zum h2) hfr rfl (fun u hu => by cases hu) (fun j u hj => by simp at hj) (Ycg (Zl 10 s).length) (fun v e => by cases e) rfl fun Hb hb hnx => .inr ⟨(by intro h; cases h), .inr rfl, rfl, [.sl o 0 (Zl 10 s).length none, .int .i64 (.ofNat 0), .int .i64 (.ofNat 0), .int .i64 (.ofNat 0)], by rw [Zok]; rfl, .inr (.inr ⟨hlong, h3, o, ids, h2.mono hb (Nat.le_of_eq (show Hb.next = H.next from hnx).symm), rfl⟩)⟩
    · exact .inr ⟨(by intro h; cases h), .inr rfl, rfl, [.nils, .int .i64 (.ofNat (k + 1)), .int .i64 (.ofNat (Ye p).2.1), .int .i64 (.ofNat (Ye p).2.2)], by rw [Zok]; rfl, .inr (.inl ⟨hlong, k, p, h1, h2, h3, rfl⟩)⟩
theorem Zzz (hE : EnvOk Qc P I) (hI : Carried I) {s : List UInt8} (hs : s.length < 1048576) : Yk Qc P I ro (.loop (Zc [5, 0] fn7.body)) (Zd 59 [0, 6, 7] [.str s, .int .i64 (.ofNat 1), .int .i64 (.ofNat 0)]) (Zs 8 []) fun e fr H => e = .exit 0 ∧ fr = Zd 59 [0, 6, 7] [.str s, .int .i64 (.ofNat (s.count 10 + 1)), .int .i64 (.ofNat s.length)] ∧ H.next = 8 := by
  refine Yk.loopX (X := Nat × AHeap) (fr := fun x => Zd 59 [0, 6, 7] [.str s, .int .i64 (.ofNat ((s.take x.1).count 10 + 1)), .int .i64 (.ofNat x.1)]) (H := fun x => x.2) (Inv := fun x => x.1 ≤ s.length ∧ x.2.next = 8) (fun x => s.length - x.1) ?_ (0, Zs 8 []) ⟨Nat.zero_le _, rfl⟩
  rintro ⟨j, H⟩ ⟨i1, i2⟩
  simp only at i1 i2
  refine Yd.tri ?_
  have hk : FrK 8 [] [] H := ⟨by omega, fun i hi => by simp at hi, List.nodup_nil⟩
  have hfr : ∀ a b : Nat, FrIn (kN 8 [] []) (Zd 59 [0, 6, 7] [.str s, .int .i64 (.ofNat a), .int .i64 (.ofNat b)]) (Zd 59 [0, 6, 7] [.str s, .int .i64 (.ofNat a), .int .i64 (.ofNat b)]) := fun a b => FrIn.mk' (K := kN 8 [] []) (τ := fun _ => .nils) (nx := 0) (vs := [.str s, .int .i64 (.ofNat a), .int .i64 (.ofNat b)]) hk.all rfl
  have hcl : ((s.take j).count 10) ≤ (s.take j).length := List.count_le_length
  rw [List.length_take] at hcl
  rw [← List.append_nil (flat (Zc [5, 0] fn7.body))]
  by_cases h : j < s.length
  · have f1 : Nat.blt j (Zb s) = true := Zm h
    have f5 := Yv (k := j) (by omega)
    have f6 := Yv (k := (s.take j).count 10 + 1) (by omega)
    have hc : (s.take (j + 1)).count 10 = (s.take j).count 10 + if Nat.beq (Za s j).toNat 10 = true then 1 else 0 := by
      rw [List.take_add_one, List.getElem?_eq_getElem h, Zba h, List.count_append]
      congr 1
      by_cases e : s[j] = 10
      · rw [e]; rfl
      · have : ¬ Nat.beq (s[j]).toNat 10 = true := fun h2 => e (Zg2 h2)
        rw [if_neg this]
        simp [e]
    cases e : Nat.beq (Za s j).toNat 10 with
    | true =>
      rw [e, if_pos rfl] at hc
      refine Js hE hI Zdq (nx := 8) (ks := []) (xs := []) (os := []) (vs := [.str s, .int .i64 (.ofNat ((s.take j).count 10 + 1 + 1)), .int .i64 (.ofNat (j + 1))]) hk (hfr _ _) rfl (fun u hu => by cases hu) (fun q u hq => by simp at hq) ((Z8m s ((s.take j).count 10 + 1) j).trans (by rw [f1, e, f5, f6]; rfl)) (fun v e => by cases e) rfl fun Hb hb hnx => .inl ⟨rfl, Yd.nil (.inl ⟨rfl, (j + 1, Hb), ⟨h, (show Hb.next = H.next from hnx).trans i2⟩, by simp only; omega, ?_, rfl⟩)⟩
      simp only [List.map_cons, List.map_nil, V2, hc]
    | false =>
      rw [e, if_neg (by simp)] at hc
      refine Js hE hI Zdq (nx := 8) (ks := []) (xs := []) (os := []) (vs := [.str s, .int .i64 (.ofNat ((s.take j).count 10 + 1)), .int .i64 (.ofNat (j + 1))]) hk (hfr _ _) rfl (fun u hu => by cases hu) (fun q u hq => by simp at hq) ((Z7h s ((s.take j).count 10 + 1) j).trans (by rw [f1, e, f5]; rfl)) (fun v e => by cases e) rfl fun Hb hb hnx => .inl ⟨rfl, Yd.nil (.inl ⟨rfl, (j + 1, Hb), ⟨h, (show Hb.next = H.next from hnx).trans i2⟩, by simp only; omega, ?_, rfl⟩)⟩
      simp only [List.map_cons, List.map_nil, V2, hc, Nat.add_zero]
  · obtain rfl : j = s.length := by omega
    have f1 : Nat.blt s.length (Zb s) = false := Yg (Nat.lt_irrefl s.length)
    refine Js hE hI Zdq (nx := 8) (ks := []) (xs := []) (os := []) (vs := [.str s, .int .i64 (.ofNat ((s.take s.length).count 10 + 1)), .int .i64 (.ofNat s.length)]) hk (hfr _ _) rfl (fun u hu => by cases hu) (fun q u hq => by simp at hq) ((Z5g s ((s.take s.length).count 10 + 1) s.length).trans (by rw [f1]; rfl)) (fun v e => by cases e) rfl fun Hb hb hnx => .inr ⟨(by intro h; cases h), .inr ⟨(by intro h; cases h), rfl, ?_, (show Hb.next = H.next from hnx).trans i2⟩⟩
    simp only [List.map_cons, List.map_nil, V2, List.take_length]
theorem Yev (hE : EnvOk Qc P I) (hI : Carried I) {s : List UInt8} (hs : s.length < 1048576) : Yk Qc P I ro fn7.body (Z8 fn7 [.str s]) (Zs 8 []) (rsE s) := by
  have hp : ∀ v ∈ [AV.str s], Plain v := Z2 rfl
  have e0 : Zuv s = true := Zm (show s.length < _ by omega)
  refine Yd.tri ?_
  rw [Z14]
  have long : Zbo s → ∀ {Hb : AHeap}, rsE s .ret (Zd 59 [2, 3, 4, 5] [.nils, .int .i64 (.ofNat 0), .int .i64 (.ofNat 0), .int .i64 (.ofNat 6)]) Hb := fun h {Hb} => ⟨.inr rfl, rfl, [.nils, .int .i64 (.ofNat 0), .int .i64 (.ofNat 0), .int .i64 (.ofNat 6)], by rw [Zok]; rfl, .inl ⟨h, rfl⟩⟩
  by_cases h1 : 262144 < s.length
  · have f1 : Nat.blt 262144 (Zb s) = true := Zm h1
    exact Js hE hI Zdq (ks := []) (xs := []) (os := []) (vs := [.nils, .int .i64 (.ofNat 0), .int .i64 (.ofNat 0), .int .i64 (.ofNat 6)]) Zf0 (Qk hp) rfl (fun u hu => by cases hu) (fun j u hj => by simp at hj) ((Z5x s).trans (by rw [f1]; rfl)) (fun v e => by cases e) rfl fun Hb hb hnx => .inr ⟨(by intro h; cases h), long (.inl h1)⟩
  have f1 : Nat.blt 262144 (Zb s) = false := Yg h1
  refine Js hE hI Zdq (ks := []) (xs := []) (os := []) (vs := [.str s, .int .i64 (.ofNat 1), .int .i64 (.ofNat 0)]) Zf0 (Qk hp) rfl (fun u hu => by cases hu) (fun j u hj => by simp at hj) ((Ydj s).trans (by rw [f1]; rfl)) (fun v e => by cases e) rfl fun Hb hb hnx => .inl ⟨rfl, Yd.ren hI (keep := List.range 8) (H' := Zs 8 []) (fr' := Zd 59 [0, 6, 7] [.str s, .int .i64 (.ofNat 1), .int .i64 (.ofNat 0)]) ⟨fun g hg => by simp [show g < 8 from hg], fun i hi => ?_, List.nodup_range, rfl, fun k u hu => ?_, rfl, rfl, ⟨rfl, rfl⟩, fun i y hy => ⟨y, hy, ?_⟩⟩ ?_⟩
  · rw [List.mem_range] at hi
    have : Hb.next = 8 := hnx
    omega
  · obtain ⟨j, _, hj⟩ := Kh hu
    simp at hj
  · obtain ⟨j, _, hj⟩ := Ve hy
    have := List.mem_of_getElem? hj
    simp only [List.mem_cons, List.not_mem_nil, or_false] at this
    rcases this with rfl | rfl | rfl <;> rfl
  refine Yd.cons (Yk.mono (Yk.block (Q := fun e fr H => e = .normal ∧ fr = Zd 59 [0, 6, 7] [.str s, .int .i64 (.ofNat (s.count 10 + 1)), .int .i64 (.ofNat s.length)] ∧ H.next = 8) ((Zzz hE hI hs).mono ?_)) ?_)
  · rintro e fr H ⟨rfl, h⟩
    exact ⟨rfl, h⟩
  rintro e fr H ⟨rfl, rfl, hH⟩
  refine .inl ⟨rfl, ?_⟩
  have hk : FrK 8 [] [] H := ⟨by omega, fun i hi => by simp at hi, List.nodup_nil⟩
  have hfr : ∀ a b : Nat, FrIn (kN 8 [] []) (Zd 59 [0, 6, 7] [.str s, .int .i64 (.ofNat a), .int .i64 (.ofNat b)]) (Zd 59 [0, 6, 7] [.str s, .int .i64 (.ofNat a), .int .i64 (.ofNat b)]) := fun a b => FrIn.mk' (K := kN 8 [] []) (τ := fun _ => .nils) (nx := 0) (vs := [.str s, .int .i64 (.ofNat a), .int .i64 (.ofNat b)]) hk.all rfl
  by_cases h2 : 16384 < s.count 10 + 1
  · have f2 : Nat.blt 16384 (s.count 10 + 1) = true := Zm h2
    exact Js hE hI Zdq (ks := []) (xs := []) (os := []) (vs := [.nils, .int .i64 (.ofNat 0), .int .i64 (.ofNat 0), .int .i64 (.ofNat 6)]) hk (hfr _ _) rfl (fun u hu => by cases hu) (fun j u hj => by simp at hj) ((Z54 s (s.count 10 + 1) s.length).trans (by rw [f2]; rfl)) (fun v e => by cases e) rfl fun Hb hb hnx => .inr ⟨(by intro h; cases h), long (.inr h2)⟩
  have f2 : Nat.blt 16384 (s.count 10 + 1) = false := Yg h2
  have hlong : ¬ Zbo s := fun h => h.elim h1 h2
  refine Yd.frameP hE hI Zdq (ks := []) (xs := []) (D := fun _ => False) (pl := fun _ => (0, 0)) (τ := fun _ => .nils) (os := fun _ => []) (names := [8]) (next := 9) (vs := rsF (Zl 10 s).length .nils 0) (os2 := fun _ => [some (.cells (Zl 10 s).length (Ki (Zl 10 s)) 9 (some 1) 0 false false)]) (fun _ => (Ybw s (s.count 10 + 1) s.length).trans (by rw [f2, e0]; rfl)) hk (hfr _ _) (fun _ => rfl) (fun j hj => hj.elim) (fun θ j u hj => by simp at hj) (fun v e => by cases e) rfl (fun θ j u hj => ?_) fun θ Hb out => .inl ⟨rfl, ?_⟩
  · match j, hj with
    | 0, hj => cases hj; exact Zi5 (W8 _)
    | j + 1, hj => simp at hj
  · have g8 := out.new 0 8 _ rfl rfl rfl
    rw [Zfc (W8 _)] at g8
    have hn : Hb.next = H.next + 1 := out.next
    have hb8 : Q9 (kN Qc.ng [] []) H.next 8 = H.next := rfl
    rw [hb8, hH] at g8
    have hv : (rsF (Zl 10 s).length .nils 0).map (V2 (Q9 (kN Qc.ng [] []) H.next) fun _ => AV.nils) = rsF (Zl 10 s).length .nils 0 := by rw [hH]; rfl
    have := Yc1 (ro := ro) hE hI hs hlong ⟨g8, by omega⟩
    rw [← hv] at this
    exact this
end
end
end Go.Proofs.YtdpkmhnpbbapcaaDoor
