/- ar.Read of what ar.Write wrote of two members, as a summary in whatever memory. -/
import Derived.Test.YtmppdannkpdpmaaGreatDoorArRd0
import Derived.Lib.IndexMore
import Derived.KernelRfl
namespace Go.Proofs.YtmppdannkpdpmaaGreatDoor
open Go Go.Vai
noncomputable section
set_option maxRecDepth 100000
theorem Zk6 {r : List UInt8} : ∀ {x : List UInt8}, (∀ c ∈ x, c ≠ 47) → Lib.index (x ++ 47 :: r) [47] = (x.length : Int)
  | [], _ => by
    show (if ([47] : List UInt8).isPrefixOf (47 :: r) then (0 : Int) else _) = _
    rw [if_pos (by simp [List.isPrefixOf])]; rfl
  | a :: x, h => by
    have ih := Zk6 (r := r) (x := x) fun c hc => h c (List.mem_cons_of_mem _ hc)
    have ha := h a List.mem_cons_self
    show (if ([47] : List UInt8).isPrefixOf (a :: (x ++ 47 :: r)) then (0 : Int) else if Lib.index (x ++ 47 :: r) [47] == -1 then -1 else Lib.index (x ++ 47 :: r) [47] + 1) = _
    rw [if_neg (by simpa [List.isPrefixOf] using fun e => ha e.symm), ih, if_neg (by simp)]
    simp
theorem Z07 {x r : List UInt8} (h : ∀ c ∈ x, c ≠ 47) : Lib.cut (x ++ 47 :: r) [47] = (x, r, true) := by
  unfold Lib.cut
  rw [Zk6 h, if_pos (by omega)]
  simp only [Int.toNat_natCast, List.take_left, List.length_cons, List.length_nil, Prod.mk.injEq, and_true, true_and]
  rw [show x ++ 47 :: r = (x ++ [47]) ++ r by simp, Zgp (by simp)]
theorem Z36 {x : List UInt8} (h : Y0 x = true) : ∀ c ∈ x, c ≠ 47 := by
  unfold Y0 at h
  simp only [Bool.and_eq_true, List.all_eq_true] at h
  rintro c hc rfl
  have := h.1 47 hc
  revert this; decide
theorem Zpk {x : List UInt8} (h : Y0 x = true) : (Xe x).length ≤ 130 := by
  have := (Yx h).2
  unfold Xe
  cases Nat.blt 15 (Za x)
  · simp
  · simp only [cond_true, List.length_append, List.length_cons, List.length_nil]; omega
theorem Zee {x : List UInt8} {p : Nat} : (Qd x p).length ≤ 16 := by
  unfold Qd
  cases hb : Nat.blt 15 (Za x) with
  | true =>
    have := (Zt p).2
    simp only [cond_true, List.length_append, List.length_cons, List.length_nil]; omega
  | false =>
    have := Yu hb
    simp only [cond_false, List.length_append, List.length_cons, List.length_nil]; omega
theorem Zl5 {x pre r : List UInt8} (h : Y0 x = true) (hp : pre.length < 1000) (hl : (pre ++ (Xe x ++ r)).length < 100000) : Xi (Qd x pre.length) (pre ++ (Xe x ++ r)) x := by
  unfold Qd
  cases hb : Nat.blt 15 (Za x) with
  | false => exact .inl ⟨rfl, h⟩
  | true =>
    refine .inr ⟨pre.length, 10 :: r, rfl, hp, by rw [List.length_append]; omega, hl, ?_⟩
    rw [List.drop_left]
    unfold Xe
    rw [hb]
    show Lib.cut ((x ++ [47, 10]) ++ r) [47] = _
    rw [show (x ++ [47, 10]) ++ r = x ++ 47 :: (10 :: r) by simp]
    exact Z07 (Z36 h)
theorem Zd3 : (Ka Z9).length = 8 := by decide
theorem rd_true {x y D W : List UInt8} {c : Nat} (hx : Y0 x = true) (hy : Y0 y = true) (hD : D.length < 1000) (hW : W = X4 x y D) (hc : W.length ≤ c) :
    ∃ (ev at_ : Nat → Nat) (nd : Nat → List UInt8) (pn : Pin) (o : Wc), Zn (ERd x y D) (Zgw x y D W ev at_ nd) pn 300 (.call 15 [.sl 8 0 W.length (some c)] (Z6 8 [.cells W.length (bT W) 0 none 0 true false])) o kRd = some (some (.str x), some (.str y)) := by
  have lx := Zpk hx
  have ly := Zpk hy
  have hnx : Xi (Qd x 0) (Xe x ++ Xe y) x := Zl5 (pre := []) hx (by decide) (by simp only [List.nil_append, List.length_append]; omega)
  have hny : Xi (Qd y (Za (Xe x))) (Xe x ++ Xe y) y := by
    have := Zl5 (pre := Xe x) (r := []) hy (by omega) (by simp only [List.append_nil, List.length_append]; omega)
    rwa [List.append_nil] at this
  have l1 : (Qd x 0).length ≤ 16 := Zee
  have l2 : (Qd y (Za (Xe x))).length ≤ 16 := Zee
  have hW2 : W = Zg (Zg (Zkb (Xe x ++ Xe y)) (Qd x 0) D) (Qd y (Za (Xe x))) D := hW
  generalize hn1 : Qd x 0 = n1 at hnx l1 hW2
  generalize hn2 : Qd y (Za (Xe x)) = n2 at hny l2 hW2
  have hlg : (Xe x ++ Xe y).length ≤ 260 := by rw [List.length_append]; omega
  generalize hg : Xe x ++ Xe y = LG at hnx hny hW2 hlg
  generalize hB0 : Zkb LG = B0 at hW2
  have p0 : Z9 <+: B0 ∧ B0.length ≤ 400 := by
    rw [← hB0]
    unfold Zkb
    cases LG.isEmpty with
    | true => exact ⟨List.prefix_refl _, (by decide : Z9.length ≤ 400)⟩
    | false => exact ⟨Zbu _ _ _, by rw [cond_false, Vk (by decide)]; show 8 + 8 % 2 + (60 + LG.length) ≤ 400; omega⟩
  have pW1 : Zg B0 n1 D <+: W := by rw [hW2]; exact Zbu _ _ _
  have pW0 : B0 <+: W := (Zbu _ _ _).trans pW1
  have e0 := Zd2 (B := B0) (D := D) l1
  have e1 := Zd2 (B := Zg B0 n1 D) (D := D) l2
  rw [← hW2] at e1
  have v0 := Zgv B0
  have v1 := Zgv (Zg B0 n1 D)
  have hN : W.length ≤ 50000 := by omega
  have hM : Zd (Zc (bT W) 0 8) = Z9 := by
    have h8 : Z9.length = 8 := by decide
    have := (p0.1.trans pW0).length_le
    rw [Zfa (by omega) hN, Zbb (p0.1.trans pW0) (by omega), List.drop_zero, ← h8, List.take_of_length_le (Nat.le_refl _)]
  have hH1 : Zd (Zc (bT W) (Ka B0).length 60) = Zx n1 D.length := by rw [Zfa (by omega) hN, Zbb pW1 (by omega), Zd7 l1]
  have hH2 : Zd (Zc (bT W) (Ka (Zg B0 n1 D)).length 60) = Zx n2 D.length := by rw [Zfa (by omega) hN, hW2, Zd7 l2]
  have hD1 : Zc (bT W) (Nat.add (Ka B0).length 60) (Nat.mul D.length 1) = D.map Ze := by
    rw [show Nat.mul D.length 1 = D.length from Nat.mul_one _, Zp8 (show (Ka B0).length + 60 + D.length ≤ _ by omega) hN, Zbb pW1 (by omega), Zju l1]
  have hD2 : Zc (bT W) (Nat.add (Ka (Zg B0 n1 D)).length 60) (Nat.mul D.length 1) = D.map Ze := by
    rw [show Nat.mul D.length 1 = D.length from Nat.mul_one _, Zp8 (show (Ka (Zg B0 n1 D)).length + 60 + D.length ≤ _ by omega) hN, hW2, Zju l2]
  have h2 : ((Ka B0).length + 60 + D.length) + ((Ka B0).length + 60 + D.length) % 2 = (Ka (Zg B0 n1 D)).length := by rw [v1, e0]
  have h3 : (Ka (Zg B0 n1 D)).length + 60 + D.length = W.length := e1.symm
  generalize (Ka (Zg B0 n1 D)).length = p2 at hH2 hD2 h2 h3
  cases hE : LG.isEmpty with
  | true =>
    have hLG : LG = [] := by simpa using hE
    subst hLG
    have hB : B0 = Z9 := by rw [← hB0]; rfl
    rw [hB, Zd3] at hH1 hD1 h2
    cases D with
    | nil => exact ⟨_, _, _, _, _, Z1w hN hc hM hnx hny l1 l2 hH1 hH2 h2 h3⟩
    | cons d0 ds => exact ⟨_, _, _, _, _, Z1p hN hc hM hD hnx hny l1 l2 hH1 hH2 h2 h3 hD1 hD2⟩
  | false =>
    have hB : B0 = Zg Z9 [47, 47] LG := by
      rw [← hB0]
      unfold Zkb
      rw [hE]; rfl
    have q0 := Zd2 (B := Z9) (nm := [47, 47]) (D := LG) (by decide)
    rw [Zd3] at q0
    have hG : LG.length < 1000 := by omega
    have hH8 : Zd (Zc (bT W) 8 60) = Zx [47, 47] LG.length := by
      have pm : Zg Z9 [47, 47] LG <+: W := by rw [← hB]; exact pW0
      have := pm.length_le
      have hh := Zd7 (B := Z9) (nm := [47, 47]) (D := LG) (by decide)
      rw [Zd3] at hh
      rw [Zfa (by omega) hN, Zbb pm (by omega), hh]
    have hLG : Zd (Zc (bT W) 68 (Nat.mul LG.length 1)) = LG := by
      have pm : Zg Z9 [47, 47] LG <+: W := by rw [← hB]; exact pW0
      have := pm.length_le
      have hh := Zju (B := Z9) (nm := [47, 47]) (D := LG) (by decide)
      rw [Zd3] at hh
      rw [show Nat.mul LG.length 1 = LG.length from Nat.mul_one _, Zfa (by omega) hN, Zbb pm (by omega)]
      exact hh
    have h1 : (68 + LG.length) + (68 + LG.length) % 2 = (Ka B0).length := by rw [v0, hB, q0]
    generalize (Ka B0).length = p1 at hH1 hD1 h1 h2
    cases D with
    | nil => exact ⟨_, _, _, _, _, Zz2 hN hc hM hnx hny l1 l2 hG hH8 hLG h1 hH1 hH2 h2 h3⟩
    | cons d0 ds => exact ⟨_, _, _, _, _, Z06 hN hc hM hD hnx hny l1 l2 hG hH8 hLG h1 hH1 hH2 h2 h3 hD1 hD2⟩
def mbT (x y : List UInt8) : Tr AV := (Tr.nil.set 0 (.str x)).set 3 (.str y)
theorem Zvg {x y : List UInt8} {i : Nat} {v : AV} (h : (mbT x y).get i = some v) : (i = 0 ∧ v = .str x) ∨ (i = 3 ∧ v = .str y) := by
  unfold mbT at h
  rcases Tr.get_set h with ⟨rfl, rfl⟩ | ⟨_, h⟩
  · exact .inr ⟨rfl, rfl⟩
  · rcases Tr.get_set h with ⟨rfl, rfl⟩ | ⟨_, h⟩
    · exact .inl ⟨rfl, rfl⟩
    · simp [Tr.get_nil] at h
def Zyw (H : AHeap) (id n : Nat) (W : List UInt8) : Prop := 8 ≤ id ∧ n = W.length ∧ ∃ T e g fz ro mk, H.get id = some (.cells n T e g fz ro mk) ∧ T.getAll 0 W.length = some (W.map Ze)
def rdA (H : AHeap) (x y : List UInt8) : AV × AHeap := (.tup [.sl H.next 0 2 none, .int .i64 (.ofNat 0)], H.new (.cells 6 (mbT x y) 40 (some 3) 0 false false))
open Classical in
def Zg1 (x y D : List UInt8) : Sm := fun g args H => match args with
  | [.sl id 0 n none] => if g = 15 ∧ Zyw H id n (X4 x y D) then some (rdA H x y) else none
  | _ => none
theorem Z3q {x y D : List UInt8} (hx : Y0 x = true) (hy : Y0 y = true) (hD : D.length < 1000) : Zds Tryz.prog gl 8 (Zg1 x y D) := by
  intro g args H v H' M w cargs hs hj hg hr ha
  unfold Zg1 at hs
  split at hs
  case h_2 => cases hs
  rename_i id n
  split at hs
  case isFalse => cases hs
  rename_i hc
  obtain ⟨rfl, h8, hn, T, e, gg, fz, ro, mk, hid, hT⟩ := hc
  simp only [rdA, Option.some.injEq, Prod.mk.injEq] at hs
  obtain ⟨rfl, rfl⟩ := hs
  have hlt : id < H.next := by have := hr.lt hid; rwa [hr.len] at this
  have hK : FrK 8 [id] [] H := ⟨by omega, fun i hi => by
    have : i = id := by simpa using hi
    subst this
    exact ⟨h8, hlt⟩, by simp⟩
  have hltM : ∀ i ∈ kN 8 [id] [], i < M.length := fun i hi => by
    rw [hr.len]
    unfold kN at hi
    rcases List.mem_append.1 hi with hi | hi
    · rw [List.mem_range] at hi; omega
    · have : i = id := by simpa using hi
      subst this; exact hlt
  match cargs, ha with
  | [], ha => exact ha.elim
  | _ :: _ :: _, ha => exact ha.2.elim
  | [c0], ⟨a0, _⟩ =>
  obtain ⟨m, c, hm, rfl, _, hcap⟩ := a0
  have hcn := (hcap rfl).1
  generalize hW : X4 x y D = W at hn hT
  subst hn
  obtain ⟨ev, at_, nd, pn, o, hrun⟩ := rd_true hx hy hD hW.symm hcn
  obtain ⟨z, o', hr1, hkr⟩ := Xq (ERd x y D) (Zu8 hW.symm) pn 300 _ _ _ _ hrun
  unfold kRd at hkr
  split at hkr
  case h_2 => cases hkr
  rename_i k H2
  split at hkr
  case h_2 => cases hkr
  rename_i T1 hrow
  obtain ⟨hk, hkr⟩ := Zr hkr
  rw [Nat.ble_eq] at hk
  simp only [Option.some.injEq, Prod.mk.injEq] at hkr
  obtain ⟨q0, q3⟩ := hkr
  have kl : (kN 8 [id] []).length = 9 := by rw [Zhp]; rfl
  have bk : mtN (kN 8 [id] []) [k] H.next k = H.next := Zfr (j := 0) (by simp) rfl (by rw [kl]; exact hk)
  have key := Zbj (E := ERd x y D) (gl := gl) (nk := [k]) (D := fun _ => False) (pl := fun _ => (0, 0)) (τ := fun _ => .nils) (θ := fun _ => (0, 0, 0, 0, 0)) (v := .tup [.sl k 0 2 none, .int .i64 (.ofNat 0)]) (H' := H.new (.cells 6 (mbT x y) 40 (some 3) 0 false false)) (w := w) (args := [.sl 8 0 W.length (some c)]) (cargs := [.slice (some ⟨m.block, m.base + 0, none⟩) W.length c]) (M := M) (H := H) (ks := [id])
    (Zzx hx hy hD (fun _ _ _ h => h) (Zam gl)) (by kernel_rfl) hj hg hr hK rfl ?_ (fun j h => h.elim) ⟨⟨m, c, by rw [show (8 : Nat) = 8 + 0 from rfl, show (ERd x y D).ng = 8 from rfl, Zd1 hltM (j := 0) rfl]; exact hm, rfl, (fun d e => by cases e; rfl), (fun e => by cases e)⟩, trivial⟩ hr1 (by simp) ?_ ?_ ?_ rfl ?_
  · have e3 : lfV (mtN (kN (ERd x y D).ng [id] []) [k] H.next) (fun _ => AV.nils) (.tup [.sl k 0 2 none, .int .i64 (.ofNat 0)]) = .tup [.sl H.next 0 2 none, .int .i64 (.ofNat 0)] := by
      show AV.tup [.sl (mtN (kN 8 [id] []) [k] H.next k) 0 2 none, .int .i64 (.ofNat 0)] = _
      rw [bk]
    rw [e3] at key
    exact key
  · intro j u hu
    match j, hu with
    | 0, hu =>
      cases hu
      exact ⟨id, _, rfl, hid, Y3 hT⟩
    | j + 1, hu => simp at hu
  · intro q hq
    rw [List.mem_singleton] at hq
    subst hq
    exact ⟨hk, _, hrow⟩
  · exact ⟨.inr (by simp), trivial, trivial⟩
  · exact ⟨trivial, trivial, trivial⟩
  · intro id2 p hp
    rcases AHeap.get_new hp with ⟨rfl, rfl⟩ | ⟨_, hp⟩
    · refine .inl ⟨k, _, bk.symm, .inr (by simp), hrow, _, T1, mbT x y, 40, some 3, 0, false, rfl, rfl, fun i z hz => ?_⟩
      rcases Zvg hz with ⟨rfl, rfl⟩ | ⟨rfl, rfl⟩
      · exact ⟨_, q0, trivial, trivial, rfl⟩
      · exact ⟨_, q3, trivial, trivial, rfl⟩
    · refine .inr ⟨hp, fun j u hj2 hu => ?_⟩
      match j, hu with
      | 0, hu => cases hu; rfl
      | j + 1, hu => simp at hu
end
end Go.Proofs.YtmppdannkpdpmaaGreatDoor
