/- ar.Write on two members that define no names, as a summary in whatever memory. -/
import Derived.Test.YtmppdannkpdpmaaGreatDoorArWr0
import Derived.KernelRfl
namespace Go.Proofs.YtmppdannkpdpmaaGreatDoor
open Go Go.Vai
noncomputable section
set_option maxRecDepth 100000
theorem Xj {M : List MEnt} {H : AHeap} {w : World} {li : Nat} {xs : List Nat} {T : Tr AV} {e : TypeId} {g : Option Nat} {fz : Nat} {ro mk : Bool} {x y W : List UInt8} {v1 v2 u1 u2 : AV} {ex : List AObj} {cp : Option Nat} {cargs : List Value} {o : Wc}
    (hj : JG gl M H w) (hg : GR 8 M) (hr : HRel M H w) (hli : H.get li = some (.cells 6 T e g fz ro mk)) (t0 : T.get 0 = some (.str x)) (t1 : T.get 1 = some v1) (t2 : T.get 2 = some .nils) (t3 : T.get 3 = some (.str y)) (t4 : T.get 4 = some v2) (t5 : T.get 5 = some .nils)
    (hu1 : Vq 0 (kN 8 (li :: xs) []) v1 = some u1) (hu2 : Vq 0 (kN 8 (li :: xs) []) v2 = some u2) (hks : (li :: xs).Nodup) (h8 : ∀ i ∈ li :: xs, 8 ≤ i ∧ i < H.next) (hl : ex.length = xs.length)
    (hex : ∀ (j : Nat) u, ex[j]? = some u → u.isRo = true ∧ ∃ i o, xs[j]? = some i ∧ H.get i = some o ∧ ∀ K D pl τ θ, Zas K D pl τ θ i o u)
    (ha : Zs M [.sl li 0 2 cp] cargs) (hx : xs.length ≤ 2)
    (hrun : ∀ c0, Zn Jr X0 Zu 200 (.call 9 [.sl 8 0 2 (some c0)] (Z6 8 (.cells 6 (Tr.nil.putAll 0 [.str x, u1, .nils, .str y, u2, .nils]) 40 none 0 true false :: ex))) o Kl = some (W.length, W.length, bT W, .ofNat 0)) :
    Vy Tryz.prog 9 cargs M H w (.ret (.tup [.sl H.next 0 W.length none, .int .i64 (.ofNat 0)]) (H.new (.cells W.length (bT W) 5 (some 1) 0 false false))) := by
  have hK : FrK 8 (li :: xs) [] H := ⟨by have := h8 li List.mem_cons_self; omega, fun i hi => h8 i (by simpa using hi), by simpa using hks⟩
  have hltM : ∀ i ∈ kN 8 (li :: xs) [], i < M.length := fun i hi => by
    rw [hr.len]
    unfold kN at hi
    rcases List.mem_append.1 hi with hi | hi
    · rw [List.mem_range] at hi
      have := h8 li List.mem_cons_self
      omega
    · exact (h8 i (by simpa using hi)).2
  match cargs, ha with
  | [], ha => exact ha.elim
  | _ :: _ :: _, ha => exact ha.2.elim
  | [c0], ⟨a0, _⟩ =>
  obtain ⟨c, hc⟩ := Zu2 (k := 8) (Zd1 hltM (j := 0) rfl) a0
  obtain ⟨z, o', hr1, hkr⟩ := Xq Jr Zxt Zu 200 _ _ _ _ (hrun c)
  unfold Kl at hkr
  split at hkr
  case h_2 => cases hkr
  rename_i k n1 e1 H2
  split at hkr
  case h_2 => cases hkr
  rename_i m1 T1 hrow
  obtain ⟨hk, hkr⟩ := Zr hkr
  rw [Nat.ble_eq] at hk
  simp only [Option.some.injEq, Prod.mk.injEq] at hkr
  obtain ⟨rfl, rfl, rfl, rfl⟩ := hkr
  have kl : (kN 8 (li :: xs) []).length = 8 + (li :: xs).length := by rw [Zhp]; rfl
  have kx : 8 + (li :: xs).length ≤ k := by simp only [List.length_cons]; omega
  have bk : mtN (kN 8 (li :: xs) []) [k] H.next k = H.next := Zfr (j := 0) (by simp) rfl (by rw [kl]; exact kx)
  have key := Zbj (E := Jr) (gl := gl) (nk := [k]) (D := fun _ => False) (pl := fun _ => (0, 0)) (τ := fun _ => .nils) (θ := fun _ => (0, 0, 0, 0, 0)) (v := .tup [.sl k 0 W.length none, .int .i64 (.ofNat 0)]) (H' := H.new (.cells W.length (bT W) 5 (some 1) 0 false false)) (w := w) (args := [.sl 8 0 2 (some c)]) (cargs := [c0]) (M := M) (H := H) (ks := li :: xs)
    (Z1q (fun _ _ _ h => h) (Zam gl)) (by kernel_rfl) hj hg hr hK (by simp [hl]) ?_ (fun j h => h.elim) ⟨hc, trivial⟩ hr1 (by simp) ?_ ?_ ?_ rfl ?_
  · have e3 : lfV (mtN (kN Jr.ng (li :: xs) []) [k] H.next) (fun _ => AV.nils) (.tup [.sl k 0 W.length none, .int .i64 (.ofNat 0)]) = .tup [.sl H.next 0 W.length none, .int .i64 (.ofNat 0)] := by
      show AV.tup [.sl (mtN (kN 8 (li :: xs) []) [k] H.next k) 0 W.length none, .int .i64 (.ofNat 0)] = _
      rw [bk]
    rw [e3] at key
    exact key
  · intro j u hu
    match j, hu with
    | 0, hu =>
      cases hu
      refine ⟨li, _, rfl, hli, .inr (.inr ⟨6, T, e, g, fz, ro, mk, 40, none, 0, false, _, rfl, rfl, .inl rfl, fun i z hz => ?_⟩)⟩
      rcases Tr.get_putAll _ hz with ⟨q, rfl, hq⟩ | ⟨_, hu⟩
      · rw [Nat.zero_add]
        match q, hq with
        | 0, hq => cases hq; exact ⟨_, t0, .inl rfl⟩
        | 1, hq => cases hq; exact ⟨_, t1, .inl hu1⟩
        | 2, hq => cases hq; exact ⟨_, t2, .inl rfl⟩
        | 3, hq => cases hq; exact ⟨_, t3, .inl rfl⟩
        | 4, hq => cases hq; exact ⟨_, t4, .inl hu2⟩
        | 5, hq => cases hq; exact ⟨_, t5, .inl rfl⟩
        | q + 6, hq => simp at hq
      · simp [Tr.get_nil] at hu
    | j + 1, hu =>
      obtain ⟨_, i, o, a1, a2, a3⟩ := hex j u hu
      exact ⟨i, o, a1, a2, a3 _ _ _ _ _⟩
  · intro q hq
    rw [List.mem_singleton] at hq
    subst hq
    exact ⟨kx, _, hrow⟩
  · exact ⟨.inr (by simp), trivial, trivial⟩
  · exact ⟨trivial, trivial, trivial⟩
  · intro id p hp
    rcases AHeap.get_new hp with ⟨rfl, rfl⟩ | ⟨_, hp⟩
    · refine .inl ⟨k, _, bk.symm, .inr (by simp), hrow, _, bT W, bT W, 5, some 1, 0, false, rfl, rfl, fun i z hz => ?_⟩
      refine ⟨z, hz, ?_⟩
      rcases Tr.get_putAll _ hz with ⟨q, rfl, hq⟩ | ⟨_, hu⟩
      · rw [List.getElem?_map] at hq
        obtain ⟨b, _, rfl⟩ := Option.map_eq_some_iff.1 hq
        exact ⟨trivial, trivial, rfl⟩
      · simp [Tr.get_nil] at hu
    · refine .inr ⟨hp, fun j u hj2 hu => ?_⟩
      match j, hu with
      | 0, hu => cases hu; rfl
      | j + 1, hu => exact (hex j u hu).1
inductive Dat (H : AHeap) (li : Nat) : AV → AV → List UInt8 → Prop
  | nils : Dat H li .nils .nils []
  | sl0 : Dat H li .sl0 .sl0 []
  | two0 {i j : Nat} {Ti Tj : Tr AV} {ei ej : TypeId} {gi gj : Option Nat} {fi fj : Nat} {ri rj mi mj : Bool} (hi : H.get i = some (.cells 0 Ti ei gi fi ri mi)) (hj : H.get j = some (.cells 0 Tj ej gj fj rj mj)) (h1 : i ≠ li) (h2 : j ≠ li) (h3 : i ≠ j) (h4 : 8 ≤ i) (h5 : 8 ≤ j) : Dat H li (.sl i 0 0 (some 0)) (.sl j 0 0 (some 0)) []
  | one {i o c n : Nat} {T : Tr AV} {e : TypeId} {g : Option Nat} {f : Nat} {r m : Bool} {D : List UInt8} (hi : H.get i = some (.cells n T e g f r m)) (h1 : i ≠ li) (h4 : 8 ≤ i) (hD : 0 < D.length) (ho : o + D.length < 1099511627776) (hT : T.getAll o D.length = some (D.map Ze)) : Dat H li (.sl i o D.length (some c)) (.sl i o D.length (some c)) D
  | two {i j n n2 : Nat} {T T2 : Tr AV} {e e2 : TypeId} {g g2 : Option Nat} {f f2 : Nat} {r r2 m m2 : Bool} {D : List UInt8} (hi : H.get i = some (.cells n T e g f r m)) (hj : H.get j = some (.cells n2 T2 e2 g2 f2 r2 m2)) (h1 : i ≠ li) (h2 : j ≠ li) (h3 : i ≠ j) (h4 : 8 ≤ i) (h5 : 8 ≤ j) (hD : 0 < D.length) (hT : T.getAll 0 D.length = some (D.map Ze)) (hT2 : T2.getAll 0 D.length = some (D.map Ze)) : Dat H li (.sl i 0 D.length none) (.sl j 0 D.length none) D
structure WrIn (H : AHeap) (li : Nat) (x y D : List UInt8) : Prop where
  h : ∃ T e g fz ro mk v1 v2, H.get li = some (.cells 6 T e g fz ro mk) ∧ 8 ≤ li ∧ T.get 0 = some (.str x) ∧ T.get 1 = some v1 ∧ T.get 2 = some .nils ∧ T.get 3 = some (.str y) ∧ T.get 4 = some v2 ∧ T.get 5 = some .nils ∧ Dat H li v1 v2 D
def wrA (H : AHeap) (W : List UInt8) : AV × AHeap := (.tup [.sl H.next 0 W.length none, .int .i64 (.ofNat 0)], H.new (.cells W.length (bT W) 5 (some 1) 0 false false))
open Classical in
def Zbl (x y D : List UInt8) : Sm := fun g args H => match args with
  | [.sl li 0 2 _] => if g = 9 ∧ WrIn H li x y D then some (wrA H (X4 x y D)) else none
  | _ => none
theorem Ze2 {K : List Nat} {D : Nat → Prop} {pl : Nat → Nat × Nat} {τ : Nat → AV} {θ : Nat → Tag} {id n : Nat} {T : Tr AV} {e : TypeId} {g : Option Nat} {fz : Nat} {ro mk : Bool} : Zas K D pl τ θ id (.cells n T e g fz ro mk) (.cells n .nil 0 none 0 true false) :=
  .inr (.inr ⟨_, _, _, _, _, _, _, _, _, _, _, _, rfl, rfl, .inl rfl, fun i y hy => by simp [Tr.get_nil] at hy⟩)
theorem Wu {K : List Nat} {i k o n : Nat} {c : Option Nat} (hK : K.Nodup) (h : K[k]? = some i) : Vq 0 K (.sl i o n c) = some (.sl k o n c) := by
  have := Qu (b := 0) hK h
  simp only [Vq, this, Nat.zero_add]
theorem Zzc {x y D : List UInt8} (hx : Y0 x = true) (hy : Y0 y = true) (hD2 : D.length < 1000) : Zds Tryz.prog gl 8 (Zbl x y D) := by
  intro g args H v H' M w cargs hs hj hg hr ha
  unfold Zbl at hs
  split at hs
  case h_2 => cases hs
  rename_i li cp
  split at hs
  case isFalse => cases hs
  rename_i hc
  obtain ⟨rfl, ⟨T, e, gg, fz, ro, mk, v1, v2, hli, h8, t0, t1, t2, t3, t4, t5, hdat⟩⟩ := hc
  simp only [wrA, Option.some.injEq, Prod.mk.injEq] at hs
  obtain ⟨rfl, rfl⟩ := hs
  have ltn : ∀ {i o}, H.get i = some o → i < H.next := fun e => by have := hr.lt e; rwa [hr.len] at this
  obtain ⟨x0, xs, rfl⟩ : ∃ x0 xs, x = x0 :: xs := by
    have := (Yx hx).1
    cases x with
    | nil => simp at this
    | cons a b => exact ⟨a, b, rfl⟩
  obtain ⟨y0, ys, rfl⟩ : ∃ x0 xs, y = x0 :: xs := by
    have := (Yx hy).1
    cases y with
    | nil => simp at this
    | cons a b => exact ⟨a, b, rfl⟩
  have nd1 : (li :: []).Nodup := by simp
  have nd2 : ∀ {i : Nat}, i ≠ li → (li :: [i]).Nodup := fun h => by simpa using fun e => h e.symm
  have nd3 : ∀ {i j : Nat}, i ≠ li → j ≠ li → i ≠ j → (li :: [i, j]).Nodup := fun h1 h2 h3 => by
    simp only [List.nodup_cons, List.mem_cons, List.not_mem_nil, or_false, not_or, not_false_eq_true, List.nodup_nil, and_true]
    exact ⟨⟨fun e => h1 e.symm, fun e => h2 e.symm⟩, h3⟩
  have lt1 : ∀ i ∈ li :: [], 8 ≤ i ∧ i < H.next := fun i hi => by
    rw [List.mem_singleton] at hi
    subst hi
    exact ⟨h8, ltn hli⟩
  have lt2 : ∀ {i o}, H.get i = some o → 8 ≤ i → ∀ k ∈ li :: [i], 8 ≤ k ∧ k < H.next := fun h h2 k hk => by
    simp only [List.mem_cons, List.not_mem_nil, or_false] at hk
    rcases hk with rfl | rfl
    · exact ⟨h8, ltn hli⟩
    · exact ⟨h2, ltn h⟩
  have lt3 : ∀ {i j o p}, H.get i = some o → 8 ≤ i → H.get j = some p → 8 ≤ j → ∀ k ∈ li :: [i, j], 8 ≤ k ∧ k < H.next := fun h h2 h3 h4 k hk => by
    simp only [List.mem_cons, List.not_mem_nil, or_false] at hk
    rcases hk with rfl | rfl | rfl
    · exact ⟨h8, ltn hli⟩
    · exact ⟨h2, ltn h⟩
    · exact ⟨h4, ltn h3⟩
  have kn : ∀ {xs : List Nat}, (li :: xs).Nodup → (∀ i ∈ li :: xs, 8 ≤ i ∧ i < H.next) → (kN 8 (li :: xs) []).Nodup := fun h h2 => (show FrK 8 (li :: _) [] H from ⟨by have := ltn hli; omega, fun i hi => h2 i (by simpa using hi), by simpa using h⟩).all
  cases hdat with
  | nils =>
    rcases (show Nat.blt 15 (Za (x0 :: xs)) = false ∨ Nat.blt 15 (Za (x0 :: xs)) = true by cases Nat.blt 15 (Za (x0 :: xs)) <;> simp) with sx | lx <;>
      rcases (show Nat.blt 15 (Za (y0 :: ys)) = false ∨ Nat.blt 15 (Za (y0 :: ys)) = true by cases Nat.blt 15 (Za (y0 :: ys)) <;> simp) with sy | ly
    · exact Xj (xs := []) (ex := []) (o := [true, false, false, true, false, false, false, true, false, true, false, false, false, false, true, true, true, true, false, true, false, true, false, false, false, false, true, true, false, false]) hj hg hr hli t0 t1 t2 t3 t4 t5 rfl rfl nd1 lt1 rfl (fun j u hu => by simp at hu) ha (by simp) (fun c0 => Zvd hx hy sx sy)
    · exact Xj (xs := []) (ex := []) (o := [true, false, false, true, false, false, false, true, false, true, false, false, false, false, true, true, true, false, false, true, false, true, false, false, false, true, true, true, false, false]) hj hg hr hli t0 t1 t2 t3 t4 t5 rfl rfl nd1 lt1 rfl (fun j u hu => by simp at hu) ha (by simp) (fun c0 => Zxd hx hy sx ly)
    · exact Xj (xs := []) (ex := []) (o := [true, false, false, true, false, false, false, true, false, true, false, false, false, false, true, false, true, true, false, true, false, true, false, false, false, true, true, true, false, false]) hj hg hr hli t0 t1 t2 t3 t4 t5 rfl rfl nd1 lt1 rfl (fun j u hu => by simp at hu) ha (by simp) (fun c0 => Zxz hx hy lx sy)
    · exact Xj (xs := []) (ex := []) (o := [true, false, false, true, false, false, false, true, false, true, false, false, false, false, true, false, true, false, false, true, false, true, false, false, false, true, true, true, false, false]) hj hg hr hli t0 t1 t2 t3 t4 t5 rfl rfl nd1 lt1 rfl (fun j u hu => by simp at hu) ha (by simp) (fun c0 => Zx0 hx hy lx ly)
  | sl0 =>
    rcases (show Nat.blt 15 (Za (x0 :: xs)) = false ∨ Nat.blt 15 (Za (x0 :: xs)) = true by cases Nat.blt 15 (Za (x0 :: xs)) <;> simp) with sx | lx <;>
      rcases (show Nat.blt 15 (Za (y0 :: ys)) = false ∨ Nat.blt 15 (Za (y0 :: ys)) = true by cases Nat.blt 15 (Za (y0 :: ys)) <;> simp) with sy | ly
    · exact Xj (xs := []) (ex := []) (o := [true, false, false, true, false, false, false, true, false, true, false, false, false, false, true, true, true, true, false, true, false, true, false, false, false, false, true, true, false, false]) hj hg hr hli t0 t1 t2 t3 t4 t5 rfl rfl nd1 lt1 rfl (fun j u hu => by simp at hu) ha (by simp) (fun c0 => Zv6 hx hy sx sy)
    · exact Xj (xs := []) (ex := []) (o := [true, false, false, true, false, false, false, true, false, true, false, false, false, false, true, true, true, false, false, true, false, true, false, false, false, true, true, true, false, false]) hj hg hr hli t0 t1 t2 t3 t4 t5 rfl rfl nd1 lt1 rfl (fun j u hu => by simp at hu) ha (by simp) (fun c0 => Zyl hx hy sx ly)
    · exact Xj (xs := []) (ex := []) (o := [true, false, false, true, false, false, false, true, false, true, false, false, false, false, true, false, true, true, false, true, false, true, false, false, false, true, true, true, false, false]) hj hg hr hli t0 t1 t2 t3 t4 t5 rfl rfl nd1 lt1 rfl (fun j u hu => by simp at hu) ha (by simp) (fun c0 => Zyk hx hy lx sy)
    · exact Xj (xs := []) (ex := []) (o := [true, false, false, true, false, false, false, true, false, true, false, false, false, false, true, false, true, false, false, true, false, true, false, false, false, true, true, true, false, false]) hj hg hr hli t0 t1 t2 t3 t4 t5 rfl rfl nd1 lt1 rfl (fun j u hu => by simp at hu) ha (by simp) (fun c0 => Zw7 hx hy lx ly)
  | two0 hi hj2 h1 h2 h3 h4 h5 =>
    have nd := nd3 h1 h2 h3
    have lt := lt3 hi h4 hj2 h5
    rcases (show Nat.blt 15 (Za (x0 :: xs)) = false ∨ Nat.blt 15 (Za (x0 :: xs)) = true by cases Nat.blt 15 (Za (x0 :: xs)) <;> simp) with sx | lx <;>
      rcases (show Nat.blt 15 (Za (y0 :: ys)) = false ∨ Nat.blt 15 (Za (y0 :: ys)) = true by cases Nat.blt 15 (Za (y0 :: ys)) <;> simp) with sy | ly
    · exact Xj (xs := [_, _]) (ex := [.cells 0 .nil 0 none 0 true false, .cells 0 .nil 0 none 0 true false]) (o := [true, false, false, true, false, false, false, true, false, true, false, false, false, false, true, true, true, true, false, true, false, true, false, false, false, false, true, true, false, false]) hj hg hr hli t0 t1 t2 t3 t4 t5 (Wu (k := 9) (kn nd lt) (Xx (j := 1) (by simp))) (Wu (k := 10) (kn nd lt) (Xx (j := 2) (by simp))) nd lt rfl (fun j u hu => by match j, hu with | 0, hu => cases hu; exact ⟨rfl, _, _, rfl, hi, fun _ _ _ _ _ => Ze2⟩ | 1, hu => cases hu; exact ⟨rfl, _, _, rfl, hj2, fun _ _ _ _ _ => Ze2⟩ | j + 2, hu => simp at hu) ha (by simp) (fun c0 => Zxe hx hy sx sy)
    · exact Xj (xs := [_, _]) (ex := [.cells 0 .nil 0 none 0 true false, .cells 0 .nil 0 none 0 true false]) (o := [true, false, false, true, false, false, false, true, false, true, false, false, false, false, true, true, true, false, false, true, false, true, false, false, false, true, true, true, false, false]) hj hg hr hli t0 t1 t2 t3 t4 t5 (Wu (k := 9) (kn nd lt) (Xx (j := 1) (by simp))) (Wu (k := 10) (kn nd lt) (Xx (j := 2) (by simp))) nd lt rfl (fun j u hu => by match j, hu with | 0, hu => cases hu; exact ⟨rfl, _, _, rfl, hi, fun _ _ _ _ _ => Ze2⟩ | 1, hu => cases hu; exact ⟨rfl, _, _, rfl, hj2, fun _ _ _ _ _ => Ze2⟩ | j + 2, hu => simp at hu) ha (by simp) (fun c0 => Zxu hx hy sx ly)
    · exact Xj (xs := [_, _]) (ex := [.cells 0 .nil 0 none 0 true false, .cells 0 .nil 0 none 0 true false]) (o := [true, false, false, true, false, false, false, true, false, true, false, false, false, false, true, false, true, true, false, true, false, true, false, false, false, true, true, true, false, false]) hj hg hr hli t0 t1 t2 t3 t4 t5 (Wu (k := 9) (kn nd lt) (Xx (j := 1) (by simp))) (Wu (k := 10) (kn nd lt) (Xx (j := 2) (by simp))) nd lt rfl (fun j u hu => by match j, hu with | 0, hu => cases hu; exact ⟨rfl, _, _, rfl, hi, fun _ _ _ _ _ => Ze2⟩ | 1, hu => cases hu; exact ⟨rfl, _, _, rfl, hj2, fun _ _ _ _ _ => Ze2⟩ | j + 2, hu => simp at hu) ha (by simp) (fun c0 => Zw3 hx hy lx sy)
    · exact Xj (xs := [_, _]) (ex := [.cells 0 .nil 0 none 0 true false, .cells 0 .nil 0 none 0 true false]) (o := [true, false, false, true, false, false, false, true, false, true, false, false, false, false, true, false, true, false, false, true, false, true, false, false, false, true, true, true, false, false]) hj hg hr hli t0 t1 t2 t3 t4 t5 (Wu (k := 9) (kn nd lt) (Xx (j := 1) (by simp))) (Wu (k := 10) (kn nd lt) (Xx (j := 2) (by simp))) nd lt rfl (fun j u hu => by match j, hu with | 0, hu => cases hu; exact ⟨rfl, _, _, rfl, hi, fun _ _ _ _ _ => Ze2⟩ | 1, hu => cases hu; exact ⟨rfl, _, _, rfl, hj2, fun _ _ _ _ _ => Ze2⟩ | j + 2, hu => simp at hu) ha (by simp) (fun c0 => Zxk hx hy lx ly)
  | @one i o c n T2 e2 g2 f2 r2 m2 _ hi h1 h4 hD ho hT =>
    cases D with
    | nil => simp at hD
    | cons d0 ds =>
    have nd := nd2 h1
    have lt := lt2 hi h4
    rcases (show Nat.blt 15 (Za (x0 :: xs)) = false ∨ Nat.blt 15 (Za (x0 :: xs)) = true by cases Nat.blt 15 (Za (x0 :: xs)) <;> simp) with sx | lx <;>
      rcases (show Nat.blt 15 (Za (y0 :: ys)) = false ∨ Nat.blt 15 (Za (y0 :: ys)) = true by cases Nat.blt 15 (Za (y0 :: ys)) <;> simp) with sy | ly
    · exact Xj (xs := [_]) (ex := [.cells n (Tr.nil.putAll o ((d0 :: ds).map Ze)) 0 none 0 true false]) (o := [true, false, false, true, false, false, false, true, false, true, false, false, false, false, true, true, true, true, false, true, false, true, false, false, false, false, true, true, false, false]) hj hg hr hli t0 t1 t2 t3 t4 t5 (Wu (k := 9) (kn nd lt) (Xx (j := 1) (by simp))) (Wu (k := 9) (kn nd lt) (Xx (j := 1) (by simp))) nd lt rfl (fun j u hu => by match j, hu with | 0, hu => cases hu; exact ⟨rfl, _, _, rfl, hi, fun _ _ _ _ _ => Y3 hT⟩ | j + 1, hu => simp at hu) ha (by simp) (fun c0 => Zvu hx hy sx sy hD2 ho)
    · exact Xj (xs := [_]) (ex := [.cells n (Tr.nil.putAll o ((d0 :: ds).map Ze)) 0 none 0 true false]) (o := [true, false, false, true, false, false, false, true, false, true, false, false, false, false, true, true, true, false, false, true, false, true, false, false, false, true, true, true, false, false]) hj hg hr hli t0 t1 t2 t3 t4 t5 (Wu (k := 9) (kn nd lt) (Xx (j := 1) (by simp))) (Wu (k := 9) (kn nd lt) (Xx (j := 1) (by simp))) nd lt rfl (fun j u hu => by match j, hu with | 0, hu => cases hu; exact ⟨rfl, _, _, rfl, hi, fun _ _ _ _ _ => Y3 hT⟩ | j + 1, hu => simp at hu) ha (by simp) (fun c0 => Zxv hx hy sx ly hD2 ho)
    · exact Xj (xs := [_]) (ex := [.cells n (Tr.nil.putAll o ((d0 :: ds).map Ze)) 0 none 0 true false]) (o := [true, false, false, true, false, false, false, true, false, true, false, false, false, false, true, false, true, true, false, true, false, true, false, false, false, true, true, true, false, false]) hj hg hr hli t0 t1 t2 t3 t4 t5 (Wu (k := 9) (kn nd lt) (Xx (j := 1) (by simp))) (Wu (k := 9) (kn nd lt) (Xx (j := 1) (by simp))) nd lt rfl (fun j u hu => by match j, hu with | 0, hu => cases hu; exact ⟨rfl, _, _, rfl, hi, fun _ _ _ _ _ => Y3 hT⟩ | j + 1, hu => simp at hu) ha (by simp) (fun c0 => Zw4 hx hy lx sy hD2 ho)
    · exact Xj (xs := [_]) (ex := [.cells n (Tr.nil.putAll o ((d0 :: ds).map Ze)) 0 none 0 true false]) (o := [true, false, false, true, false, false, false, true, false, true, false, false, false, false, true, false, true, false, false, true, false, true, false, false, false, true, true, true, false, false]) hj hg hr hli t0 t1 t2 t3 t4 t5 (Wu (k := 9) (kn nd lt) (Xx (j := 1) (by simp))) (Wu (k := 9) (kn nd lt) (Xx (j := 1) (by simp))) nd lt rfl (fun j u hu => by match j, hu with | 0, hu => cases hu; exact ⟨rfl, _, _, rfl, hi, fun _ _ _ _ _ => Y3 hT⟩ | j + 1, hu => simp at hu) ha (by simp) (fun c0 => Zxh hx hy lx ly hD2 ho)
  | @two i j n n2 T2 T3 e2 e3 g2 g3 f2 f3 r2 r3 m2 m3 _ hi hj2 h1 h2 h3 h4 h5 hD hT hT2 =>
    cases D with
    | nil => simp at hD
    | cons d0 ds =>
    have nd := nd3 h1 h2 h3
    have lt := lt3 hi h4 hj2 h5
    rcases (show Nat.blt 15 (Za (x0 :: xs)) = false ∨ Nat.blt 15 (Za (x0 :: xs)) = true by cases Nat.blt 15 (Za (x0 :: xs)) <;> simp) with sx | lx <;>
      rcases (show Nat.blt 15 (Za (y0 :: ys)) = false ∨ Nat.blt 15 (Za (y0 :: ys)) = true by cases Nat.blt 15 (Za (y0 :: ys)) <;> simp) with sy | ly
    · exact Xj (xs := [_, _]) (ex := [.cells n (Tr.nil.putAll 0 ((d0 :: ds).map Ze)) 0 none 0 true false, .cells n2 (Tr.nil.putAll 0 ((d0 :: ds).map Ze)) 0 none 0 true false]) (o := [true, false, false, true, false, false, false, true, false, true, false, false, false, false, true, true, true, true, false, true, false, true, false, false, false, false, true, true, false, false]) hj hg hr hli t0 t1 t2 t3 t4 t5 (Wu (k := 9) (kn nd lt) (Xx (j := 1) (by simp))) (Wu (k := 10) (kn nd lt) (Xx (j := 2) (by simp))) nd lt rfl (fun j u hu => by match j, hu with | 0, hu => cases hu; exact ⟨rfl, _, _, rfl, hi, fun _ _ _ _ _ => Y3 hT⟩ | 1, hu => cases hu; exact ⟨rfl, _, _, rfl, hj2, fun _ _ _ _ _ => Y3 hT2⟩ | j + 2, hu => simp at hu) ha (by simp) (fun c0 => Zya hx hy sx sy hD2)
    · exact Xj (xs := [_, _]) (ex := [.cells n (Tr.nil.putAll 0 ((d0 :: ds).map Ze)) 0 none 0 true false, .cells n2 (Tr.nil.putAll 0 ((d0 :: ds).map Ze)) 0 none 0 true false]) (o := [true, false, false, true, false, false, false, true, false, true, false, false, false, false, true, true, true, false, false, true, false, true, false, false, false, true, true, true, false, false]) hj hg hr hli t0 t1 t2 t3 t4 t5 (Wu (k := 9) (kn nd lt) (Xx (j := 1) (by simp))) (Wu (k := 10) (kn nd lt) (Xx (j := 2) (by simp))) nd lt rfl (fun j u hu => by match j, hu with | 0, hu => cases hu; exact ⟨rfl, _, _, rfl, hi, fun _ _ _ _ _ => Y3 hT⟩ | 1, hu => cases hu; exact ⟨rfl, _, _, rfl, hj2, fun _ _ _ _ _ => Y3 hT2⟩ | j + 2, hu => simp at hu) ha (by simp) (fun c0 => Zvv hx hy sx ly hD2)
    · exact Xj (xs := [_, _]) (ex := [.cells n (Tr.nil.putAll 0 ((d0 :: ds).map Ze)) 0 none 0 true false, .cells n2 (Tr.nil.putAll 0 ((d0 :: ds).map Ze)) 0 none 0 true false]) (o := [true, false, false, true, false, false, false, true, false, true, false, false, false, false, true, false, true, true, false, true, false, true, false, false, false, true, true, true, false, false]) hj hg hr hli t0 t1 t2 t3 t4 t5 (Wu (k := 9) (kn nd lt) (Xx (j := 1) (by simp))) (Wu (k := 10) (kn nd lt) (Xx (j := 2) (by simp))) nd lt rfl (fun j u hu => by match j, hu with | 0, hu => cases hu; exact ⟨rfl, _, _, rfl, hi, fun _ _ _ _ _ => Y3 hT⟩ | 1, hu => cases hu; exact ⟨rfl, _, _, rfl, hj2, fun _ _ _ _ _ => Y3 hT2⟩ | j + 2, hu => simp at hu) ha (by simp) (fun c0 => Zvt hx hy lx sy hD2)
    · exact Xj (xs := [_, _]) (ex := [.cells n (Tr.nil.putAll 0 ((d0 :: ds).map Ze)) 0 none 0 true false, .cells n2 (Tr.nil.putAll 0 ((d0 :: ds).map Ze)) 0 none 0 true false]) (o := [true, false, false, true, false, false, false, true, false, true, false, false, false, false, true, false, true, false, false, true, false, true, false, false, false, true, true, true, false, false]) hj hg hr hli t0 t1 t2 t3 t4 t5 (Wu (k := 9) (kn nd lt) (Xx (j := 1) (by simp))) (Wu (k := 10) (kn nd lt) (Xx (j := 2) (by simp))) nd lt rfl (fun j u hu => by match j, hu with | 0, hu => cases hu; exact ⟨rfl, _, _, rfl, hi, fun _ _ _ _ _ => Y3 hT⟩ | 1, hu => cases hu; exact ⟨rfl, _, _, rfl, hj2, fun _ _ _ _ _ => Y3 hT2⟩ | j + 2, hu => simp at hu) ha (by simp) (fun c0 => Zv7 hx hy lx ly hD2)
end
end Go.Proofs.YtmppdannkpdpmaaGreatDoor
