/- The law ArNames answers true, whatever the input. -/
import Derived.Test.YtmppdannkpdpmaaGreatDoorArLw0
import Derived.Test.YtmppdannkpdpmaaGreatDoorVaiView2
import Derived.KernelRfl
namespace Go.Proofs.YtmppdannkpdpmaaGreatDoor
open Go Go.Vai
noncomputable section
set_option maxRecDepth 100000
theorem Zf0 {x y D W : List UInt8} (hx : Y0 x = true) (hy : Y0 y = true) (hD : D.length < 1000) (hW : W = X4 x y D) : W.length ≤ 50000 ∧ ∃ p1 p2 : Nat, p1 + 60 + D.length + D.length % 2 = p2 ∧ p2 + 60 + D.length = W.length ∧ Wt W.length (bT W) W.length (.ofNat p1) x (.ofNat 0) = true ∧ Wt W.length (bT W) W.length (.ofNat p2) y (.ofNat (Za (Xe x))) = true ∧ (Xe x ++ Xe y = [] → 8 = p1) ∧
    (Xe x ++ Xe y ≠ [] → Zd (Zc (bT W) 8 2) = [47, 47] ∧ Zd (Zc (bT W) 68 (Za (Xe x ++ Xe y))) = Xe x ++ Xe y ∧ 68 + Za (Xe x ++ Xe y) ≤ W.length ∧ 68 + Za (Xe x ++ Xe y) + Za (Xe x ++ Xe y) % 2 = p1) := by
  have lx := Zpk hx
  have ly := Zpk hy
  have l1 : (Qd x 0).length ≤ 16 := Zee
  have l2 : (Qd y (Za (Xe x))).length ≤ 16 := Zee
  have hlg : (Xe x ++ Xe y).length ≤ 260 := by rw [List.length_append]; omega
  have hW2 : W = Zg (Zg (Zkb (Xe x ++ Xe y)) (Qd x 0) D) (Qd y (Za (Xe x))) D := hW
  generalize Xe x ++ Xe y = LG at hW2 hlg ⊢
  generalize hB0 : Zkb LG = B0 at hW2
  have p0 : Z9 <+: B0 ∧ B0.length ≤ 400 := by
    rw [← hB0]
    unfold Zkb
    cases LG.isEmpty with
    | true => exact ⟨List.prefix_refl _, (by decide : Z9.length ≤ 400)⟩
    | false => exact ⟨Zbu _ _ _, by rw [cond_false, Vk (by decide)]; show 8 + 8 % 2 + (60 + LG.length) ≤ 400; omega⟩
  have pW1 : Zg B0 (Qd x 0) D <+: W := by rw [hW2]; exact Zbu _ _ _
  have pW0 : B0 <+: W := (Zbu _ _ _).trans pW1
  have e0 := Zd2 (B := B0) (D := D) l1
  have e1 := Zd2 (B := Zg B0 (Qd x 0) D) (D := D) l2
  rw [← hW2] at e1
  have v0 := Zgv B0
  have v1 := Zgv (Zg B0 (Qd x 0) D)
  have hN : W.length ≤ 50000 := by omega
  have hX1 : (W.drop (Ka B0).length).take 60 = Zx (Qd x 0) D.length := by rw [Zbb pW1 (by omega), Zd7 l1]
  have hX2 : (W.drop (Ka (Zg B0 (Qd x 0) D)).length).take 60 = Zx (Qd y (Za (Xe x))) D.length := by
    have := Zd7 (B := Zg B0 (Qd x 0) D) (D := D) l2
    rw [← hW2] at this
    exact this
  have hq : Za (Xe x) < 140 := Nat.lt_of_le_of_lt lx (by decide)
  refine ⟨hN, (Ka B0).length, (Ka (Zg B0 (Qd x 0) D)).length, by omega, by omega, Zr6 hN (by omega) hX1 (Yx hx).2 (by decide), Zr6 hN (by omega) hX2 (Yx hy).2 hq, fun h => ?_, fun h => ?_⟩
  · have : B0 = Z9 := by rw [← hB0, h]; rfl
    rw [this, Zd3]
  · have hB : B0 = Zg Z9 [47, 47] LG := by
      rw [← hB0]
      unfold Zkb
      cases hE : LG.isEmpty with
      | true => exact absurd (by simpa using hE) h
      | false => rfl
    have q0 := Zd2 (B := Z9) (nm := [47, 47]) (D := LG) (by decide)
    have q1 := Zd7 (B := Z9) (nm := [47, 47]) (D := LG) (by decide)
    have q2 := Zju (B := Z9) (nm := [47, 47]) (D := LG) (by decide)
    rw [Zd3] at q0 q1 q2
    rw [← hB] at q0 q1 q2
    have := pW0.length_le
    refine ⟨?_, ?_, (show 68 + LG.length ≤ W.length by omega), (show 68 + LG.length + LG.length % 2 = _ by omega)⟩
    · rw [Zfa (by omega) hN, Zbb pW0 (by omega)]
      have z := congrArg (List.take 2) q1
      rw [List.take_take] at z
      exact z.trans (Zow (w := [47, 47]) (by decide))
    · show Zd (Zc (bT W) 68 LG.length) = LG
      rw [Zfa (by omega) hN, Zbb pW0 (by omega)]
      exact q2
theorem Zj0 {D : List UInt8} {c : Nat} (h : 0 < D.length) (hN : D.length ≤ 50000) : Zfh 9 8 8 0 0 D.length D.length c c (bT D) D = true := by
  unfold Zfh
  have z : (D.drop 0).take D.length = D := by rw [List.drop_zero, List.take_length]
  rw [Xm (by omega) hN, Zp8 (by omega) hN, z, Zbq, Zbk, Zo, Nat.beq_refl D.length, Nat.beq_refl c, Z4 h, Z4 (show Nat.add 0 D.length < 1099511627776 from (by omega : 0 + D.length < 1099511627776))]; rfl
theorem Zdy {b : UInt8} (hb : nmB b = true) {n : Nat} (h1 : 1 ≤ n) (h2 : n ≤ 128) : Y0 (List.replicate n b) = true := by
  unfold Y0
  rw [List.length_replicate, Z4 (by omega), Zl h2]
  simp only [Bool.and_true, List.all_eq_true]
  intro c hc
  rw [List.eq_of_mem_replicate hc]
  exact hb
theorem Vh (n : Nat) (b : UInt8) : Za (List.replicate n b) = n := List.length_replicate
theorem Ql {keep : List Nat} : ∀ (j : Nat) (o o2 : AObj), ([] : List AObj)[j]? = some o → ([] : List AObj)[j]? = some o2 → Q9 0 keep o o2 := fun j o o2 h => by simp at h
theorem ltT {a b : Int} (h : a < b) : Yi a b = true := by rw [Xn]; exact decide_eq_true h
theorem ltF {a b : Int} (h : ¬ a < b) : Yi a b = false := by rw [Xn]; exact decide_eq_false h
theorem koN : Wp 8 [0, 1, 2, 3, 4, 5, 6, 7] = true := by decide
theorem kfN : Zm0 8 [(9, [0, 1, 2, 3, 4, 5, 6, 7])] = true := by decide
theorem lwrN {x y W : List UInt8} {n m : Nat} (hx : Y0 x = true) (hy : Y0 y = true) (hW : W = X4 x y []) (hn : Za x = n) (hm : Za y = m) : ∃ o, Yk (Xu x y []) (Zn (Xu x y []) (Ve x y [] W) Zu 300) ((flat Qj.body).drop 8) (Xf 8 [6] [(9, [0, 1, 2, 3, 4, 5, 6, 7])]) (Yq 158 [0, 1, 2, 7, 8] [.int .i64 (.ofNat n), .int .i64 (.ofNat m), .nils, .str x, .str y]) (Z6 8 []) o = lf .ret 158 ([.bool true].map some) ([].map some) := by
  obtain ⟨hN, p1, p2, e2, e3, m1, m2, f5, f6⟩ := Zf0 hx hy (by decide) hW
  have lx : Za x ≤ 128 := (Yx hx).2
  have ly : Za y ≤ 128 := (Yx hy).2
  subst hn
  subst hm
  cases bx : Nat.blt 15 (Za x) with
  | false =>
    cases by_ : Nat.blt 15 (Za y) with
    | false =>
      have gx : Xe x = [] := by unfold Xe; rw [bx]; rfl
      have gy : Xe y = [] := by unfold Xe; rw [by_]; rfl
      rw [gx] at m2
      exact ⟨_, Zvf hN bx by_ rfl (f5 (by rw [gx, gy]; rfl)) e2 e3 m1 m2⟩
    | true =>
      have gx : Xe x = [] := by unfold Xe; rw [bx]; rfl
      have g : Xe x ++ Xe y = ([] ++ y) ++ [47, 10] := by
        unfold Xe
        rw [bx, by_]
        simp only [cond_true, cond_false, List.nil_append]
      rw [g] at f6
      rw [gx] at m2
      obtain ⟨f7, f8, f9, f10⟩ := f6 (by simp)
      exact ⟨_, Zyf hN lx ly bx by_ rfl f7 f8 f9 f10 e2 e3 m1 m2⟩
  | true =>
    cases by_ : Nat.blt 15 (Za y) with
    | false =>
      have gx : Xe x = x ++ [47, 10] := by unfold Xe; rw [bx]; rfl
      have g : Xe x ++ Xe y = x ++ [47, 10] := by
        unfold Xe
        rw [bx, by_]
        simp only [cond_true, cond_false, List.append_nil]
      rw [g] at f6
      rw [gx] at m2
      obtain ⟨f7, f8, f9, f10⟩ := f6 (by simp)
      exact ⟨_, Zu9 hN lx ly bx by_ rfl f7 f8 f9 f10 e2 e3 m1 m2⟩
    | true =>
      have gx : Xe x = x ++ [47, 10] := by unfold Xe; rw [bx]; rfl
      have g : Xe x ++ Xe y = ((x ++ [47, 10]) ++ y) ++ [47, 10] := by
        unfold Xe
        rw [bx, by_]
        simp only [cond_true, List.append_assoc]
      rw [g] at f6
      rw [gx] at m2
      obtain ⟨f7, f8, f9, f10⟩ := f6 (by simp)
      exact ⟨_, Zwu hN lx ly bx by_ rfl f7 f8 f9 f10 e2 e3 m1 m2⟩
theorem lwtN {P : Program} {I : List MEnt → AHeap → World → Prop} {ro : Option Nat} {x y W : List UInt8} {n m : Nat} (hE : EnvOk (Xu x y []) P I) (hI : Carried I) (hx : Y0 x = true) (hy : Y0 y = true) (hW : W = X4 x y []) (hn : 1 ≤ n ∧ n ≤ 128) (hm : 1 ≤ m ∧ m ≤ 128) (xr : List.replicate n 97 = x) (yr : List.replicate m 98 = y) : Wv (Xu x y []) P I ro Qj.body (Xb Qj [.int .i64 (.ofNat n), .int .i64 (.ofNat m), .nils]) (Z6 8 []) fun e fr H => (e = .normal ∨ e = .ret) ∧ fr.df = [] ∧ ∃ keep fr' H' l, Ren 8 keep fr H fr' H' ∧ Q6 (Xu x y []) fr'.t H' Qj.results = some l ∧ Zd0 l = .bool true := by
  obtain ⟨n1, n2⟩ := hn
  obtain ⟨m1, m2⟩ := hm
  refine Yz _ ?_
  rw [Zgh]
  refine Yc.leafPX hE hI (Xq (Xu x y []) (Zbx hW) Zu 300) ((Zxi x y [] W n m).trans (Zj (Zw (by omega)) (Zj (Zw (by omega)) (Zj (Zw (by omega)) (Zj (Zw (by omega)) rfl))))) kfN rfl (fun keep _ => Ql) (.inl ⟨rfl, ?_⟩)
  refine Wv.mono (Wv.block (Q := fun e fr H => e = .normal ∧ Ren 8 [0, 1, 2, 3, 4, 5, 6, 7] fr H (Yq 158 [0, 1, 2, 7, 8] [.int .i64 (.ofNat n), .int .i64 (.ofNat m), .nils, .str x, .str []]) (Z6 8 [])) (Wv.loop (X := Nat) (fr := fun j => Yq 158 [0, 1, 2, 7, 8] [.int .i64 (.ofNat n), .int .i64 (.ofNat m), .nils, .str (List.replicate j 97), .str []]) (H := fun _ => Z6 8 []) (Inv := fun j => j ≤ n) (fun j => n - j) hI ?_ 0 (Nat.zero_le _))) ?_
  · intro j hj
    refine Yz _ ?_
    have e := Zwq x y [] (List.replicate j 97) [] n m
    rw [Vh] at e
    by_cases h : j < n
    · rw [Z4 h, Yd, Zl (show Nat.succ j ≤ 1099511627776 by omega), Yd, ← List.replicate_succ'] at e
      exact Yc.leafE hE e koN rfl rfl Ql fun fr' H' r => .inl ⟨rfl, j + 1, _, h, by omega, r⟩
    · obtain rfl : j = n := by omega
      rw [Zw h, Yw] at e
      exact Yc.leafE hE e koN rfl rfl Ql fun fr' H' r => by
        rw [xr] at r
        exact .inr ⟨(by intro h; cases h), rfl, r⟩
  rintro e fr H ⟨rfl, r⟩
  refine .inl ⟨rfl, Yc.ren hI r ?_⟩
  refine Wv.mono (Wv.block (Q := fun e fr H => e = .normal ∧ Ren 8 [0, 1, 2, 3, 4, 5, 6, 7] fr H (Yq 158 [0, 1, 2, 7, 8] [.int .i64 (.ofNat n), .int .i64 (.ofNat m), .nils, .str x, .str y]) (Z6 8 [])) (Wv.loop (X := Nat) (fr := fun j => Yq 158 [0, 1, 2, 7, 8] [.int .i64 (.ofNat n), .int .i64 (.ofNat m), .nils, .str x, .str (List.replicate j 98)]) (H := fun _ => Z6 8 []) (Inv := fun j => j ≤ m) (fun j => m - j) hI ?_ 0 (Nat.zero_le _))) ?_
  · intro j hj
    refine Yz _ ?_
    have e := Zvn x y [] x (List.replicate j 98) n m
    rw [Vh] at e
    by_cases h : j < m
    · rw [Z4 h, Yd, Zl (show Nat.succ j ≤ 1099511627776 by omega), Yd, ← List.replicate_succ'] at e
      exact Yc.leafE hE e koN rfl rfl Ql fun fr' H' r => .inl ⟨rfl, j + 1, _, h, by omega, r⟩
    · obtain rfl : j = m := by omega
      rw [Zw h, Yw] at e
      exact Yc.leafE hE e koN rfl rfl Ql fun fr' H' r => by
        rw [yr] at r
        exact .inr ⟨(by intro h; cases h), rfl, r⟩
  rintro e fr H ⟨rfl, r⟩
  refine .inl ⟨rfl, Yc.ren hI r ?_⟩
  obtain ⟨o, er⟩ := lwrN hx hy hW (n := n) (m := m) (by rw [← xr]; exact Vh _ _) (by rw [← yr]; exact Vh _ _)
  exact Yc.leafPC hE (Xq (Xu x y []) (Zbx hW) Zu 300) er kfN rfl (fun keep _ => Ql) fun fr' H' keep r => ⟨.inr rfl, r.df.1, keep, _, _, [.bool true], r, by rw [Zjz]; rfl, rfl⟩
theorem koZ : Wp 8 [0, 1, 2, 3, 4, 5, 6, 7] = true := by decide
theorem kfZ : Zm0 8 [(9, [0, 1, 2, 3, 4, 5, 6, 7])] = true := by decide
theorem lwrZ {x y W : List UInt8} {n m : Nat} (hx : Y0 x = true) (hy : Y0 y = true) (hW : W = X4 x y []) (hn : Za x = n) (hm : Za y = m) : ∃ o, Yk (Xu x y []) (Zn (Xu x y []) (Ve x y [] W) Zu 300) ((flat Qj.body).drop 8) (Xf 8 [6] [(9, [0, 1, 2, 3, 4, 5, 6, 7])]) (Yq 158 [0, 1, 2, 7, 8] [.int .i64 (.ofNat n), .int .i64 (.ofNat m), .sl0, .str x, .str y]) (Z6 8 []) o = lf .ret 158 ([.bool true].map some) ([].map some) := by
  obtain ⟨hN, p1, p2, e2, e3, m1, m2, f5, f6⟩ := Zf0 hx hy (by decide) hW
  have lx : Za x ≤ 128 := (Yx hx).2
  have ly : Za y ≤ 128 := (Yx hy).2
  subst hn
  subst hm
  cases bx : Nat.blt 15 (Za x) with
  | false =>
    cases by_ : Nat.blt 15 (Za y) with
    | false =>
      have gx : Xe x = [] := by unfold Xe; rw [bx]; rfl
      have gy : Xe y = [] := by unfold Xe; rw [by_]; rfl
      rw [gx] at m2
      exact ⟨_, Zw5 hN bx by_ rfl (f5 (by rw [gx, gy]; rfl)) e2 e3 m1 m2⟩
    | true =>
      have gx : Xe x = [] := by unfold Xe; rw [bx]; rfl
      have g : Xe x ++ Xe y = ([] ++ y) ++ [47, 10] := by
        unfold Xe
        rw [bx, by_]
        simp only [cond_true, cond_false, List.nil_append]
      rw [g] at f6
      rw [gx] at m2
      obtain ⟨f7, f8, f9, f10⟩ := f6 (by simp)
      exact ⟨_, Zwm hN lx ly bx by_ rfl f7 f8 f9 f10 e2 e3 m1 m2⟩
  | true =>
    cases by_ : Nat.blt 15 (Za y) with
    | false =>
      have gx : Xe x = x ++ [47, 10] := by unfold Xe; rw [bx]; rfl
      have g : Xe x ++ Xe y = x ++ [47, 10] := by
        unfold Xe
        rw [bx, by_]
        simp only [cond_true, cond_false, List.append_nil]
      rw [g] at f6
      rw [gx] at m2
      obtain ⟨f7, f8, f9, f10⟩ := f6 (by simp)
      exact ⟨_, Zxx hN lx ly bx by_ rfl f7 f8 f9 f10 e2 e3 m1 m2⟩
    | true =>
      have gx : Xe x = x ++ [47, 10] := by unfold Xe; rw [bx]; rfl
      have g : Xe x ++ Xe y = ((x ++ [47, 10]) ++ y) ++ [47, 10] := by
        unfold Xe
        rw [bx, by_]
        simp only [cond_true, List.append_assoc]
      rw [g] at f6
      rw [gx] at m2
      obtain ⟨f7, f8, f9, f10⟩ := f6 (by simp)
      exact ⟨_, Zwe hN lx ly bx by_ rfl f7 f8 f9 f10 e2 e3 m1 m2⟩
theorem lwtZ {P : Program} {I : List MEnt → AHeap → World → Prop} {ro : Option Nat} {x y W : List UInt8} {n m : Nat} (hE : EnvOk (Xu x y []) P I) (hI : Carried I) (hx : Y0 x = true) (hy : Y0 y = true) (hW : W = X4 x y []) (hn : 1 ≤ n ∧ n ≤ 128) (hm : 1 ≤ m ∧ m ≤ 128) (xr : List.replicate n 97 = x) (yr : List.replicate m 98 = y) : Wv (Xu x y []) P I ro Qj.body (Xb Qj [.int .i64 (.ofNat n), .int .i64 (.ofNat m), .sl0]) (Z6 8 []) fun e fr H => (e = .normal ∨ e = .ret) ∧ fr.df = [] ∧ ∃ keep fr' H' l, Ren 8 keep fr H fr' H' ∧ Q6 (Xu x y []) fr'.t H' Qj.results = some l ∧ Zd0 l = .bool true := by
  obtain ⟨n1, n2⟩ := hn
  obtain ⟨m1, m2⟩ := hm
  refine Yz _ ?_
  rw [Zgh]
  refine Yc.leafPX hE hI (Xq (Xu x y []) (Zbx hW) Zu 300) ((Zvb x y [] W n m).trans (Zj (Zw (by omega)) (Zj (Zw (by omega)) (Zj (Zw (by omega)) (Zj (Zw (by omega)) rfl))))) kfZ rfl (fun keep _ => Ql) (.inl ⟨rfl, ?_⟩)
  refine Wv.mono (Wv.block (Q := fun e fr H => e = .normal ∧ Ren 8 [0, 1, 2, 3, 4, 5, 6, 7] fr H (Yq 158 [0, 1, 2, 7, 8] [.int .i64 (.ofNat n), .int .i64 (.ofNat m), .sl0, .str x, .str []]) (Z6 8 [])) (Wv.loop (X := Nat) (fr := fun j => Yq 158 [0, 1, 2, 7, 8] [.int .i64 (.ofNat n), .int .i64 (.ofNat m), .sl0, .str (List.replicate j 97), .str []]) (H := fun _ => Z6 8 []) (Inv := fun j => j ≤ n) (fun j => n - j) hI ?_ 0 (Nat.zero_le _))) ?_
  · intro j hj
    refine Yz _ ?_
    have e := Zxq x y [] (List.replicate j 97) [] n m
    rw [Vh] at e
    by_cases h : j < n
    · rw [Z4 h, Yd, Zl (show Nat.succ j ≤ 1099511627776 by omega), Yd, ← List.replicate_succ'] at e
      exact Yc.leafE hE e koZ rfl rfl Ql fun fr' H' r => .inl ⟨rfl, j + 1, _, h, by omega, r⟩
    · obtain rfl : j = n := by omega
      rw [Zw h, Yw] at e
      exact Yc.leafE hE e koZ rfl rfl Ql fun fr' H' r => by
        rw [xr] at r
        exact .inr ⟨(by intro h; cases h), rfl, r⟩
  rintro e fr H ⟨rfl, r⟩
  refine .inl ⟨rfl, Yc.ren hI r ?_⟩
  refine Wv.mono (Wv.block (Q := fun e fr H => e = .normal ∧ Ren 8 [0, 1, 2, 3, 4, 5, 6, 7] fr H (Yq 158 [0, 1, 2, 7, 8] [.int .i64 (.ofNat n), .int .i64 (.ofNat m), .sl0, .str x, .str y]) (Z6 8 [])) (Wv.loop (X := Nat) (fr := fun j => Yq 158 [0, 1, 2, 7, 8] [.int .i64 (.ofNat n), .int .i64 (.ofNat m), .sl0, .str x, .str (List.replicate j 98)]) (H := fun _ => Z6 8 []) (Inv := fun j => j ≤ m) (fun j => m - j) hI ?_ 0 (Nat.zero_le _))) ?_
  · intro j hj
    refine Yz _ ?_
    have e := Zwy x y [] x (List.replicate j 98) n m
    rw [Vh] at e
    by_cases h : j < m
    · rw [Z4 h, Yd, Zl (show Nat.succ j ≤ 1099511627776 by omega), Yd, ← List.replicate_succ'] at e
      exact Yc.leafE hE e koZ rfl rfl Ql fun fr' H' r => .inl ⟨rfl, j + 1, _, h, by omega, r⟩
    · obtain rfl : j = m := by omega
      rw [Zw h, Yw] at e
      exact Yc.leafE hE e koZ rfl rfl Ql fun fr' H' r => by
        rw [yr] at r
        exact .inr ⟨(by intro h; cases h), rfl, r⟩
  rintro e fr H ⟨rfl, r⟩
  refine .inl ⟨rfl, Yc.ren hI r ?_⟩
  obtain ⟨o, er⟩ := lwrZ hx hy hW (n := n) (m := m) (by rw [← xr]; exact Vh _ _) (by rw [← yr]; exact Vh _ _)
  exact Yc.leafPC hE (Xq (Xu x y []) (Zbx hW) Zu 300) er kfN rfl (fun keep _ => Ql) fun fr' H' keep r => ⟨.inr rfl, r.df.1, keep, _, _, [.bool true], r, by rw [Zjz]; rfl, rfl⟩
theorem koA : Wp 8 [0, 1, 2, 3, 4, 5, 6, 7, 8] = true := by decide
theorem kfA : Zm0 8 [(9, [0, 1, 2, 3, 4, 5, 6, 7, 8])] = true := by decide
theorem lwrA {x y W : List UInt8} {d0 : UInt8} {ds : List UInt8} {c : Nat} {n m : Nat} (hx : Y0 x = true) (hy : Y0 y = true) (hS : (d0 :: ds).length ≤ 300) (hW : W = X4 x y (d0 :: ds)) (hn : Za x = n) (hm : Za y = m) : ∃ o, Yk (Xu x y (d0 :: ds)) (Zn (Xu x y (d0 :: ds)) (Ve x y (d0 :: ds) W) Zu 300) ((flat Qj.body).drop 8) (Xf 8 [6] [(9, [0, 1, 2, 3, 4, 5, 6, 7])]) (Yq 158 [0, 1, 2, 7, 8] [.int .i64 (.ofNat n), .int .i64 (.ofNat m), .sl 8 0 (d0 :: ds).length (some c), .str x, .str y]) (Z6 8 [.cells (d0 :: ds).length (bT (d0 :: ds)) 0 none 0 true false]) o = lf .ret 158 ([.bool true].map some) ([].map some) := by
  obtain ⟨hN, p1, p2, e2, e3, m1, m2, f5, f6⟩ := Zf0 hx hy (show (d0 :: ds).length < 1000 by omega) hW
  have lx : Za x ≤ 128 := (Yx hx).2
  have ly : Za y ≤ 128 := (Yx hy).2
  subst hn
  subst hm
  cases bx : Nat.blt 15 (Za x) with
  | false =>
    cases by_ : Nat.blt 15 (Za y) with
    | false =>
      have gx : Xe x = [] := by unfold Xe; rw [bx]; rfl
      have gy : Xe y = [] := by unfold Xe; rw [by_]; rfl
      rw [gx] at m2
      exact ⟨_, Zwa hN bx by_ (Zj0 (Nat.succ_pos _) (by omega)) (by omega) (f5 (by rw [gx, gy]; rfl)) e2 e3 m1 m2⟩
    | true =>
      have gx : Xe x = [] := by unfold Xe; rw [bx]; rfl
      have g : Xe x ++ Xe y = ([] ++ y) ++ [47, 10] := by
        unfold Xe
        rw [bx, by_]
        simp only [cond_true, cond_false, List.nil_append]
      rw [g] at f6
      rw [gx] at m2
      obtain ⟨f7, f8, f9, f10⟩ := f6 (by simp)
      exact ⟨_, Zyb hN lx ly bx by_ (Zj0 (Nat.succ_pos _) (by omega)) (by omega) f7 f8 f9 f10 e2 e3 m1 m2⟩
  | true =>
    cases by_ : Nat.blt 15 (Za y) with
    | false =>
      have gx : Xe x = x ++ [47, 10] := by unfold Xe; rw [bx]; rfl
      have g : Xe x ++ Xe y = x ++ [47, 10] := by
        unfold Xe
        rw [bx, by_]
        simp only [cond_true, cond_false, List.append_nil]
      rw [g] at f6
      rw [gx] at m2
      obtain ⟨f7, f8, f9, f10⟩ := f6 (by simp)
      exact ⟨_, Zvx hN lx ly bx by_ (Zj0 (Nat.succ_pos _) (by omega)) (by omega) f7 f8 f9 f10 e2 e3 m1 m2⟩
    | true =>
      have gx : Xe x = x ++ [47, 10] := by unfold Xe; rw [bx]; rfl
      have g : Xe x ++ Xe y = ((x ++ [47, 10]) ++ y) ++ [47, 10] := by
        unfold Xe
        rw [bx, by_]
        simp only [cond_true, List.append_assoc]
      rw [g] at f6
      rw [gx] at m2
      obtain ⟨f7, f8, f9, f10⟩ := f6 (by simp)
      exact ⟨_, Zv0 hN lx ly bx by_ (Zj0 (Nat.succ_pos _) (by omega)) (by omega) f7 f8 f9 f10 e2 e3 m1 m2⟩
theorem lwtA {P : Program} {I : List MEnt → AHeap → World → Prop} {ro : Option Nat} {x y W : List UInt8} {d0 : UInt8} {ds : List UInt8} {c : Nat} {n m : Nat} (hE : EnvOk (Xu x y (d0 :: ds)) P I) (hI : Carried I) (hx : Y0 x = true) (hy : Y0 y = true) (hS : (d0 :: ds).length ≤ 300) (hW : W = X4 x y (d0 :: ds)) (hn : 1 ≤ n ∧ n ≤ 128) (hm : 1 ≤ m ∧ m ≤ 128) (xr : List.replicate n 97 = x) (yr : List.replicate m 98 = y) : Wv (Xu x y (d0 :: ds)) P I ro Qj.body (Xb Qj [.int .i64 (.ofNat n), .int .i64 (.ofNat m), .sl 8 0 (d0 :: ds).length (some c)]) (Z6 8 [.cells (d0 :: ds).length (bT (d0 :: ds)) 0 none 0 true false]) fun e fr H => (e = .normal ∨ e = .ret) ∧ fr.df = [] ∧ ∃ keep fr' H' l, Ren 8 keep fr H fr' H' ∧ Q6 (Xu x y (d0 :: ds)) fr'.t H' Qj.results = some l ∧ Zd0 l = .bool true := by
  obtain ⟨n1, n2⟩ := hn
  obtain ⟨m1, m2⟩ := hm
  refine Yz _ ?_
  rw [Zgh]
  refine Yc.leafPX hE hI (Xq (Xu x y (d0 :: ds)) (Zbx hW) Zu 300) ((Zxo x y (d0 :: ds) W n m (bT (d0 :: ds)) (d0 :: ds).length c).trans (Zj (Zw (by omega)) (Zj (Zw (by omega)) (Zj (Zw (by omega)) (Zj (Zw (by omega)) (Zj (Zw (by omega)) rfl)))))) kfA rfl (fun keep _ => Zdm) (.inl ⟨rfl, ?_⟩)
  refine Wv.mono (Wv.block (Q := fun e fr H => e = .normal ∧ Ren 8 [0, 1, 2, 3, 4, 5, 6, 7, 8] fr H (Yq 158 [0, 1, 2, 7, 8] [.int .i64 (.ofNat n), .int .i64 (.ofNat m), .sl 8 0 (d0 :: ds).length (some c), .str x, .str []]) (Z6 8 [.cells (d0 :: ds).length (bT (d0 :: ds)) 0 none 0 true false])) (Wv.loop (X := Nat) (fr := fun j => Yq 158 [0, 1, 2, 7, 8] [.int .i64 (.ofNat n), .int .i64 (.ofNat m), .sl 8 0 (d0 :: ds).length (some c), .str (List.replicate j 97), .str []]) (H := fun _ => Z6 8 [.cells (d0 :: ds).length (bT (d0 :: ds)) 0 none 0 true false]) (Inv := fun j => j ≤ n) (fun j => n - j) hI ?_ 0 (Nat.zero_le _))) ?_
  · intro j hj
    refine Yz _ ?_
    have e := Zv9 x y (d0 :: ds) (List.replicate j 97) [] n m (bT (d0 :: ds)) (d0 :: ds).length c
    rw [Vh] at e
    by_cases h : j < n
    · rw [Z4 h, Yd, Zl (show Nat.succ j ≤ 1099511627776 by omega), Yd, ← List.replicate_succ'] at e
      exact Yc.leafE hE e koA rfl rfl Zdm fun fr' H' r => .inl ⟨rfl, j + 1, _, h, by omega, r⟩
    · obtain rfl : j = n := by omega
      rw [Zw h, Yw] at e
      exact Yc.leafE hE e koA rfl rfl Zdm fun fr' H' r => by
        rw [xr] at r
        exact .inr ⟨(by intro h; cases h), rfl, r⟩
  rintro e fr H ⟨rfl, r⟩
  refine .inl ⟨rfl, Yc.ren hI r ?_⟩
  refine Wv.mono (Wv.block (Q := fun e fr H => e = .normal ∧ Ren 8 [0, 1, 2, 3, 4, 5, 6, 7, 8] fr H (Yq 158 [0, 1, 2, 7, 8] [.int .i64 (.ofNat n), .int .i64 (.ofNat m), .sl 8 0 (d0 :: ds).length (some c), .str x, .str y]) (Z6 8 [.cells (d0 :: ds).length (bT (d0 :: ds)) 0 none 0 true false])) (Wv.loop (X := Nat) (fr := fun j => Yq 158 [0, 1, 2, 7, 8] [.int .i64 (.ofNat n), .int .i64 (.ofNat m), .sl 8 0 (d0 :: ds).length (some c), .str x, .str (List.replicate j 98)]) (H := fun _ => Z6 8 [.cells (d0 :: ds).length (bT (d0 :: ds)) 0 none 0 true false]) (Inv := fun j => j ≤ m) (fun j => m - j) hI ?_ 0 (Nat.zero_le _))) ?_
  · intro j hj
    refine Yz _ ?_
    have e := Zyc x y (d0 :: ds) x (List.replicate j 98) n m (bT (d0 :: ds)) (d0 :: ds).length c
    rw [Vh] at e
    by_cases h : j < m
    · rw [Z4 h, Yd, Zl (show Nat.succ j ≤ 1099511627776 by omega), Yd, ← List.replicate_succ'] at e
      exact Yc.leafE hE e koA rfl rfl Zdm fun fr' H' r => .inl ⟨rfl, j + 1, _, h, by omega, r⟩
    · obtain rfl : j = m := by omega
      rw [Zw h, Yw] at e
      exact Yc.leafE hE e koA rfl rfl Zdm fun fr' H' r => by
        rw [yr] at r
        exact .inr ⟨(by intro h; cases h), rfl, r⟩
  rintro e fr H ⟨rfl, r⟩
  refine .inl ⟨rfl, Yc.ren hI r ?_⟩
  obtain ⟨o, er⟩ := lwrA (c := c) hx hy hS hW (n := n) (m := m) (by rw [← xr]; exact Vh _ _) (by rw [← yr]; exact Vh _ _)
  exact Yc.leafPC hE (Xq (Xu x y (d0 :: ds)) (Zbx hW) Zu 300) er kfN rfl (fun keep _ => Ql) fun fr' H' keep r => ⟨.inr rfl, r.df.1, keep, _, _, [.bool true], r, by rw [Zjz]; rfl, rfl⟩
section
variable {P : Program} {gl : List (Nat × List AV)} {E : Env}
theorem Zen {f : FuncId} {fn : AFunc} {args : List AV} {cargs : List Value} {w : World} {os : List AObj} {ex : List MEnt} (hE : ∀ w, Ya gl w → EnvOk E P (Kept gl w)) (hf : E.fn f = some fn) (hw : Ya gl w)
    (hl : ex.length = os.length) (hro : ∀ o ∈ os, o.isRo = true) (ho : ∀ (j : Nat) m o, ex[j]? = some m → os[j]? = some o → Wj [] m w o) (ha : Zs (X2 E.ng 0 ++ ex) args cargs)
    (h : Wv E P (Kept gl w) none fn.body (Xb fn args) (Z6 E.ng os) fun e fr H => (e = .normal ∨ e = .ret) ∧ fr.df = [] ∧ ∃ keep fr' H' l, Ren E.ng keep fr H fr' H' ∧ Q6 E fr'.t H' fn.results = some l ∧ Zd0 l = .bool true) : Calls P f cargs.toArray w fun e w' => e = .returned (.bool true) ∧ Keeps w w' := by
  obtain ⟨Fn, hF⟩ := (hE w hw).fns f fn hf
  have hr0 := Zea (ng := E.ng) hl hro ho
  have kp : Kept gl w (X2 E.ng 0 ++ ex) (Z6 E.ng os) w := ⟨hw, Keeps.refl w, fun b _ ⟨id, o, m, e, r, _⟩ => by
    obtain ⟨j, _, hj⟩ := Qp e
    rw [hro o (List.mem_of_getElem? hj)] at r; cases r⟩
  refine callsIn_wide.1 (callsIn_of_wp (n := 0) hF.at_ hF.body trivial ?_)
  refine wpIn_mono (h _ w _ ⟨hr0, (K9 E).mono (List.prefix_append _ _), kp⟩ (K8 hF ha)) ?_
  rintro ex1 a1 w1 ⟨e, fr, H1, M1, ⟨he, hd, keep, fr2, H2, l, ren, hl1, hu⟩, s1, er, f1⟩
  have hdf : a1.defers = [] := by
    have := f1.df
    rw [hd] at this
    generalize a1.defers = x at this ⊢
    cases this; rfl
  rw [← hF.res] at hl1
  obtain ⟨M2, s2, f2⟩ := ren.to (Yg hw) s1 f1
  obtain ⟨cv, r1, r2⟩ := Wn (hE w hw).tys s2.hr f2.t hl1
  rw [hu] at r2
  simp only [Zm] at r2
  subst r2
  have kk := s1.i.2.1
  rcases he with rfl | rfl
  · simp only [X3] at er; subst er
    exact ⟨hdf, _, r1, rfl, kk⟩
  · simp only [X3] at er; subst er
    exact ⟨hdf, _, r1, rfl, kk⟩
end
theorem J1 {E : Env} {s : Smk AV} (hs : Qb E s) {pn : Pin} {n f : Nat} {args : List AV} {H : AHeap} {o : Wc} (h : Zn E s pn n (.call f args H) o jK = some (.bool true)) : ∃ v H1, Vq 0 [] v = some (.bool true) ∧ run E n (.call f args H) = some (.call (.ret v H1)) := by
  obtain ⟨x, o', e, hk⟩ := Xq E hs pn n _ _ _ _ h
  cases x with
  | code a b c => cases hk
  | dcall a => cases hk
  | call c =>
    cases c with
    | pan v H => cases hk
    | ret v H1 => exact ⟨v, H1, hk, e⟩
theorem Zjh : (Ki.fn 6).isSome = true := by kernel_rfl
theorem Zpt {α : Type} : Qb (α := α) Ki (fun f a H k => smC Ki f a H k) := fun _ _ _ _ _ h => Zgs _ _ _ _ _ _ h
theorem lawN {w : World} (hw : Ya gl w) (n m : Int) {cv : Value} (hv : Zm (X2 8 0 ++ []) .nils cv) : Calls Tryz.prog 6 #[.int .i64 n, .int .i64 m, cv] w fun e w' => e = .returned (.bool true) ∧ Keeps w w' := by
  have early : ∀ {o : Wc}, Zn Ki (fun f a H k => smC Ki f a H k) Zu 1000 (.call 6 [.int .i64 n, .int .i64 m, .nils] (Z6 8 [])) o jK = some (.bool true) → Calls Tryz.prog 6 #[.int .i64 n, .int .i64 m, cv] w fun e w' => e = .returned (.bool true) ∧ Keeps w w' := fun h => by
    obtain ⟨v, H1, hv1, e⟩ := J1 Zpt h
    exact Zc4 (E := Ki) (ex := []) (os := []) (args := [.int .i64 n, .int .i64 m, .nils]) (cargs := [.int .i64 n, .int .i64 m, cv]) Zkg Zjh hw rfl (fun o ho => by cases ho) (fun j m o e => by simp at e) ⟨rfl, rfl, hv, trivial⟩ hv1 e
  by_cases h1 : n < 1
  · exact early ((Z2x n m).trans (Zf (ltT h1) rfl))
  by_cases h2 : 128 < n
  · exact early ((Z23 n m).trans (Zj (ltF h1) (Zf (ltT h2) rfl)))
  by_cases h3 : m < 1
  · exact early ((Z20 n m).trans (Zj (ltF h1) (Zj (ltF h2) (Zf (ltT h3) rfl))))
  by_cases h4 : 128 < m
  · exact early ((Z2p n m).trans (Zj (ltF h1) (Zj (ltF h2) (Zj (ltF h3) (Zf (ltT h4) rfl)))))
  obtain ⟨n', rfl⟩ := Int.eq_ofNat_of_zero_le (show 0 ≤ n by omega)
  obtain ⟨m', rfl⟩ := Int.eq_ofNat_of_zero_le (show 0 ≤ m by omega)
  have hx := Zdy (b := 97) (by decide) (n := n') (by omega) (by omega)
  have hy := Zdy (b := 98) (by decide) (n := m') (by omega) (by omega)
  have hD : ([] : List UInt8).length < 1000 := by decide
  exact Zen (E := Xu (List.replicate n' 97) (List.replicate m' 98) []) (ex := []) (os := []) (args := [.int .i64 (.ofNat n'), .int .i64 (.ofNat m'), .nils]) (cargs := [.int .i64 (.ofNat n'), .int .i64 (.ofNat m'), cv]) (Zdt hx hy hD) (Znm _ _ _) hw rfl (fun o ho => by cases ho) (fun j m o e => by simp at e) ⟨rfl, rfl, hv, trivial⟩
    (lwtN (Zdt hx hy hD w hw) (Yg hw) hx hy rfl (by omega) (by omega) rfl rfl)
theorem lawZ {w : World} (hw : Ya gl w) (n m : Int) {cv : Value} (hv : Zm (X2 8 0 ++ []) .sl0 cv) : Calls Tryz.prog 6 #[.int .i64 n, .int .i64 m, cv] w fun e w' => e = .returned (.bool true) ∧ Keeps w w' := by
  have early : ∀ {o : Wc}, Zn Ki (fun f a H k => smC Ki f a H k) Zu 1000 (.call 6 [.int .i64 n, .int .i64 m, .sl0] (Z6 8 [])) o jK = some (.bool true) → Calls Tryz.prog 6 #[.int .i64 n, .int .i64 m, cv] w fun e w' => e = .returned (.bool true) ∧ Keeps w w' := fun h => by
    obtain ⟨v, H1, hv1, e⟩ := J1 Zpt h
    exact Zc4 (E := Ki) (ex := []) (os := []) (args := [.int .i64 n, .int .i64 m, .sl0]) (cargs := [.int .i64 n, .int .i64 m, cv]) Zkg Zjh hw rfl (fun o ho => by cases ho) (fun j m o e => by simp at e) ⟨rfl, rfl, hv, trivial⟩ hv1 e
  by_cases h1 : n < 1
  · exact early ((Z3b n m).trans (Zf (ltT h1) rfl))
  by_cases h2 : 128 < n
  · exact early ((Z4d n m).trans (Zj (ltF h1) (Zf (ltT h2) rfl)))
  by_cases h3 : m < 1
  · exact early ((Z26 n m).trans (Zj (ltF h1) (Zj (ltF h2) (Zf (ltT h3) rfl))))
  by_cases h4 : 128 < m
  · exact early ((Z21 n m).trans (Zj (ltF h1) (Zj (ltF h2) (Zj (ltF h3) (Zf (ltT h4) rfl)))))
  obtain ⟨n', rfl⟩ := Int.eq_ofNat_of_zero_le (show 0 ≤ n by omega)
  obtain ⟨m', rfl⟩ := Int.eq_ofNat_of_zero_le (show 0 ≤ m by omega)
  have hx := Zdy (b := 97) (by decide) (n := n') (by omega) (by omega)
  have hy := Zdy (b := 98) (by decide) (n := m') (by omega) (by omega)
  have hD : ([] : List UInt8).length < 1000 := by decide
  exact Zen (E := Xu (List.replicate n' 97) (List.replicate m' 98) []) (ex := []) (os := []) (args := [.int .i64 (.ofNat n'), .int .i64 (.ofNat m'), .sl0]) (cargs := [.int .i64 (.ofNat n'), .int .i64 (.ofNat m'), cv]) (Zdt hx hy hD) (Znm _ _ _) hw rfl (fun o ho => by cases ho) (fun j m o e => by simp at e) ⟨rfl, rfl, hv, trivial⟩
    (lwtZ (Zdt hx hy hD w hw) (Yg hw) hx hy rfl (by omega) (by omega) rfl rfl)
theorem ho1 {w : World} {m : MEnt} {ob : AObj} (hr : Wj [] m w ob) : ∀ (j : Nat) m2 o2, [m][j]? = some m2 → [ob][j]? = some o2 → Wj [] m2 w o2 := fun j m2 o2 e1 e2 => by
  match j, e1, e2 with
  | 0, e1, e2 => cases e1; cases e2; exact hr
  | j + 1, e1, e2 => simp at e1
theorem lawA {w : World} (hw : Ya gl w) (n m : Int) {cv : Value} {d0 : UInt8} {ds : List UInt8} {c : Nat} {mm : MEnt} (hrel : Wj [] mm w (.cells (d0 :: ds).length (bT (d0 :: ds)) 0 none 0 true false)) (hv : Zm (X2 8 0 ++ [mm]) (.sl 8 0 (d0 :: ds).length (some c)) cv) (hS : (d0 :: ds).length ≤ 300) : Calls Tryz.prog 6 #[.int .i64 n, .int .i64 m, cv] w fun e w' => e = .returned (.bool true) ∧ Keeps w w' := by
  have early : ∀ {o : Wc}, Zn Ki (fun f a H k => smC Ki f a H k) Zu 1000 (.call 6 [.int .i64 n, .int .i64 m, .sl 8 0 (d0 :: ds).length (some c)] (Z6 8 [.cells (d0 :: ds).length (bT (d0 :: ds)) 0 none 0 true false])) o jK = some (.bool true) → Calls Tryz.prog 6 #[.int .i64 n, .int .i64 m, cv] w fun e w' => e = .returned (.bool true) ∧ Keeps w w' := fun h => by
    obtain ⟨v, H1, hv1, e⟩ := J1 Zpt h
    exact Zc4 (E := Ki) (ex := [mm]) (os := [.cells (d0 :: ds).length (bT (d0 :: ds)) 0 none 0 true false]) (args := [.int .i64 n, .int .i64 m, .sl 8 0 (d0 :: ds).length (some c)]) (cargs := [.int .i64 n, .int .i64 m, cv]) Zkg Zjh hw rfl (fun o ho => by cases List.mem_singleton.1 ho; rfl) (ho1 hrel) ⟨rfl, rfl, hv, trivial⟩ hv1 e
  by_cases h1 : n < 1
  · exact early ((Zzf n m (bT (d0 :: ds)) (d0 :: ds).length c).trans (Zf (ltT h1) rfl))
  by_cases h2 : 128 < n
  · exact early ((Zyn n m (bT (d0 :: ds)) (d0 :: ds).length c).trans (Zj (ltF h1) (Zf (ltT h2) rfl)))
  by_cases h3 : m < 1
  · exact early ((Zyr n m (bT (d0 :: ds)) (d0 :: ds).length c).trans (Zj (ltF h1) (Zj (ltF h2) (Zf (ltT h3) rfl))))
  by_cases h4 : 128 < m
  · exact early ((Zzd n m (bT (d0 :: ds)) (d0 :: ds).length c).trans (Zj (ltF h1) (Zj (ltF h2) (Zj (ltF h3) (Zf (ltT h4) rfl)))))
  obtain ⟨n', rfl⟩ := Int.eq_ofNat_of_zero_le (show 0 ≤ n by omega)
  obtain ⟨m', rfl⟩ := Int.eq_ofNat_of_zero_le (show 0 ≤ m by omega)
  have hx := Zdy (b := 97) (by decide) (n := n') (by omega) (by omega)
  have hy := Zdy (b := 98) (by decide) (n := m') (by omega) (by omega)
  have hD : ((d0 :: ds) : List UInt8).length < 1000 := by omega
  exact Zen (E := Xu (List.replicate n' 97) (List.replicate m' 98) (d0 :: ds)) (ex := [mm]) (os := [.cells (d0 :: ds).length (bT (d0 :: ds)) 0 none 0 true false]) (args := [.int .i64 (.ofNat n'), .int .i64 (.ofNat m'), .sl 8 0 (d0 :: ds).length (some c)]) (cargs := [.int .i64 (.ofNat n'), .int .i64 (.ofNat m'), cv]) (Zdt hx hy hD) (Znm _ _ _) hw rfl (fun o ho => by cases List.mem_singleton.1 ho; rfl) (ho1 hrel) ⟨rfl, rfl, hv, trivial⟩
    (lwtA (Zdt hx hy hD w hw) (Yg hw) hx hy hS rfl (by omega) (by omega) rfl rfl)
theorem Zwl {w : World} (hw : Ya gl w) (n m : Int) {cv : Value} {N c : Nat} {T : Tr AV} {mm : MEnt} (hrel : Wj [] mm w (.cells N T 0 none 0 true false)) (hv : Zm (X2 8 0 ++ [mm]) (.sl 8 0 N (some c)) cv) (hN : 300 < N) : Calls Tryz.prog 6 #[.int .i64 n, .int .i64 m, cv] w fun e w' => e = .returned (.bool true) ∧ Keeps w w' := by
  have early : ∀ {o : Wc}, Zn Ki (fun f a H k => smC Ki f a H k) Zu 1000 (.call 6 [.int .i64 n, .int .i64 m, .sl 8 0 N (some c)] (Z6 8 [.cells N T 0 none 0 true false])) o jK = some (.bool true) → Calls Tryz.prog 6 #[.int .i64 n, .int .i64 m, cv] w fun e w' => e = .returned (.bool true) ∧ Keeps w w' := fun h => by
    obtain ⟨v, H1, hv1, e⟩ := J1 Zpt h
    exact Zc4 (E := Ki) (ex := [mm]) (os := [.cells N T 0 none 0 true false]) (args := [.int .i64 n, .int .i64 m, .sl 8 0 N (some c)]) (cargs := [.int .i64 n, .int .i64 m, cv]) Zkg Zjh hw rfl (fun o ho => by cases List.mem_singleton.1 ho; rfl) (ho1 hrel) ⟨rfl, rfl, hv, trivial⟩ hv1 e
  by_cases h1 : n < 1
  · exact early ((Zzf n m T N c).trans (Zf (ltT h1) rfl))
  by_cases h2 : 128 < n
  · exact early ((Zyn n m T N c).trans (Zj (ltF h1) (Zf (ltT h2) rfl)))
  by_cases h3 : m < 1
  · exact early ((Zyr n m T N c).trans (Zj (ltF h1) (Zj (ltF h2) (Zf (ltT h3) rfl))))
  by_cases h4 : 128 < m
  · exact early ((Zzd n m T N c).trans (Zj (ltF h1) (Zj (ltF h2) (Zj (ltF h3) (Zf (ltT h4) rfl)))))
  exact early ((Z30 n m T N c).trans (Zj (ltF h1) (Zj (ltF h2) (Zj (ltF h3) (Zj (ltF h4) (Zf (Z4 hN) rfl))))))
end
end Go.Proofs.YtmppdannkpdpmaaGreatDoor
