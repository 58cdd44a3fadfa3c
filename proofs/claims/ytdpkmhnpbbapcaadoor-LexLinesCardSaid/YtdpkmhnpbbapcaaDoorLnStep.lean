/- One line more: a round's piece of code from the lines' row and the rows so far, in a great memory. -/
import Derived.Test.YtdpkmhnpbbapcaaDoorLnMem
import Derived.KernelRfl
namespace Go.Proofs.YtdpkmhnpbbapcaaDoor
open Go Go.Vai
noncomputable section
set_option maxRecDepth 100000
abbrev EE (fs : List Nat) (sm : Sm) : Env := V3 Tryd.prog 8 fs sm
def R8 (H : AHeap) (n : Nat) (T : Tr AV) (g : Option Nat) : Prop := H.get 8 = some (.cells n T 9 g 0 false false) ∧ 9 ≤ H.next
theorem Zdy {K : List Nat} {D : Nat → Prop} {pl : Nat → Nat × Nat} {τ : Nat → AV} {θ : Nat → Tag} {id n : Nat} {T : Tr AV} {g : Option Nat} (hT : noT T) : Jc K D pl τ θ id (.cells n T 9 g 0 false false) (.cells n T 9 g 0 true false) :=
  .inr (.inr ⟨_, _, _, _, _, _, _, _, _, _, _, _, rfl, rfl, .inr rfl, fun _ y hy => ⟨y, hy, .inl ((hT.plain _ y hy) 0 K)⟩⟩)
structure FOk (f : AV → Nat → List AV) : Prop where
  lf : ∀ v j β τ, β 8 = 8 → (f v j).map (V2 β τ) = f (V2 β τ v) j
  lt : ∀ v j b, 9 ≤ b → ltV b v = true → Zgt b (f v j) = true
  no : ∀ v j, noX v = true → Zbi (f v j) = true
section
variable {fs : List Nat} {sm : Sm} {P : Program} {I : List MEnt → AHeap → World → Prop} {ro : Option Nat}
variable {cl : PCl LeafG} {d : Nat} {l : List Code} {orc : Wh} {N : Nat} {S : List Nat} {f : AV → Nat → List AV} {n : Nat} {T : Tr AV} {g : Option Nat} {H : AHeap} {o : Nat} {ids : List (Option Nat)} {ls : List WL} {ws : WL} {i : Nat} {Q : TQ}
theorem Znq (hr : R8 H n T g) (h : LI H o ids ls) (h8 : 8 ∉ o :: ids.filterMap id) : FrK 8 [8, o] [] H := by
  have ho := h.lt o List.mem_cons_self
  refine ⟨by have := hr.2; omega, fun i hi => ?_, ?_⟩
  · simp only [List.append_nil, List.mem_cons, List.not_mem_nil, or_false] at hi
    rcases hi with rfl | rfl
    · exact ⟨Nat.le_refl _, by have := hr.2; omega⟩
    · exact ho
  · rw [List.append_nil]
    refine List.nodup_cons.2 ⟨fun h2 => ?_, List.nodup_cons.2 ⟨List.not_mem_nil, List.nodup_nil⟩⟩
    rw [List.mem_singleton] at h2
    exact h8 (by rw [h2]; exact List.mem_cons_self)
theorem Zdw (hr : R8 H n T g) : FrK 8 [8] [] H := by
  refine ⟨by have := hr.2; omega, fun i hi => ?_, ?_⟩
  · simp only [List.append_nil, List.mem_cons, List.not_mem_nil, or_false] at hi
    subst hi
    exact ⟨Nat.le_refl _, by have := hr.2; omega⟩
  · rw [List.append_nil]
    exact List.nodup_cons.2 ⟨List.not_mem_nil, List.nodup_nil⟩
theorem Zhy (hr : R8 H n T g) (h : LI H o ids ls) (h8 : 8 ∉ o :: ids.filterMap id) : FrK 8 [8] [o] H := by
  have h2 := Znq hr h h8
  exact ⟨h2.gl, h2.lt, h2.nodup⟩
theorem Zum (h : LI H o ids ls) : FrK 8 [] [o] H := by
  have ho := h.lt o List.mem_cons_self
  refine ⟨by omega, fun i hi => ?_, ?_⟩
  · obtain rfl := List.mem_singleton.1 hi
    exact ho
  · exact List.nodup_cons.2 ⟨List.not_mem_nil, List.nodup_nil⟩
theorem Zt4 {os : List AObj} {a b : AObj} (hos : os = [a, b]) (ha : a.isRo = true) {id : Nat} (hne : id ≠ o) : ∀ (j : Nat) u, ([8, o] : List Nat)[j]? = some id → os[j]? = some u → u.isRo = true := by
  subst hos
  intro j u h1 h2
  match j, h1, h2 with
  | 0, _, h2 => cases h2; exact ha
  | 1, h1, _ => cases h1; exact absurd rfl hne
  | j + 2, h1, _ => simp at h1
theorem no8 {Hb : AHeap} {o' : Nat} {x : Option Nat} (h8 : 8 ∉ o :: ids.filterMap id) (ho : 9 ≤ o') (hx : ∀ i, x = some i → 9 ≤ i) : 8 ∉ o' :: (ids ++ [x]).filterMap id := by
  intro hm
  rw [List.filterMap_append] at hm
  rcases List.mem_cons.1 hm with e | hm
  · omega
  · rcases List.mem_append.1 hm with hm | hm
    · exact h8 (List.mem_cons_of_mem _ hm)
    · obtain ⟨y, hy, h2⟩ := List.mem_filterMap.1 hm
      rw [List.mem_singleton] at hy
      subst hy
      have := hx 8 h2
      omega
theorem Zuy (hE : EnvOk (EE fs sm) P I) (hI : Carried I) (hc : POk cl (Go.Vai.run (EE fs sm) d)) (hF : FOk f) (hT : noT T) (hr : R8 H n T g) (h : LI H o ids ls) (h8 : 8 ∉ o :: ids.filterMap id) (hl : ls.length < 1048576) (hw : ws ≠ [])
    (heq : ∀ T2, Zh (EE fs sm) cl l (Ya S [10, 12]) (Zd N S (f (.sl 9 0 ls.length none) i)) (Xl 8 [.cells n T 9 g 0 true false, .cells ls.length T2 28 (some 1) 0 false false] 0) orc = lg .normal N 13 ((f (.sl 12 0 (ls.length + 1) none) (i + 1)).map some) [some (J6 ws), some (.cells (ls.length + 1) (Tr.putAll T2 ls.length [.sl 10 0 ws.length none]) 28 (some 1) 0 false false)])
    (hq : ∀ Hb o' ids', R8 Hb n T g → LI Hb o' ids' (ls ++ [ws]) → 8 ∉ o' :: ids'.filterMap id → Q .normal (Zd N S (f (.sl o' 0 (ls.length + 1) none) (i + 1))) Hb) :
    Yd (EE fs sm) P I ro l (Zd N S (f (.sl o 0 ls.length none) i)) H Q := by
  have hk := Znq hr h h8
  have h0 : (f (.sl 9 0 ls.length none) i).map (V2 (Q9 (kN 8 [8, o] []) H.next) (liT ids ls)) = f (.sl o 0 ls.length none) i := hF.lf _ _ _ _ rfl
  have h1 : (f (.sl 12 0 (ls.length + 1) none) (i + 1)).map (V2 (Q9 (kN 8 [8, o] []) H.next) (liT ids ls)) = f (.sl (H.next + 2) 0 (ls.length + 1) none) (i + 1) := hF.lf _ _ _ _ rfl
  have hfr := FrIn.mk' (K := kN 8 [8, o] []) (τ := liT ids ls) (nx := H.next) (n := N) (S := S) (vs := f (.sl 9 0 ls.length none) i) hk.all (hF.lt _ _ _ (show 9 ≤ 10 by decide) rfl)
  rw [h0] at hfr
  rw [← List.append_nil l]
  refine Yd.frameP (l := l) (m := []) (Q := Q) hE hI hc (ks := [8, o]) (xs := []) (D := liD ids) (pl := fun j => (o, j)) (τ := liT ids ls) (H := H) (os := fun θ => [.cells n T 9 g 0 true false, .cells ls.length (Zdc ids θ) 28 (some 1) 0 false false])
    (os2 := fun θ => [some (J6 ws), some (.cells (ls.length + 1) (Tr.putAll (Zdc ids θ) ls.length [.sl 10 0 ws.length none]) 28 (some 1) 0 false false)]) (fun θ => heq (Zdc ids θ)) hk hfr (fun _ => rfl) h.plOk (fun θ j u hj => ?_) (fun v e => by cases e) (hF.no _ _ rfl) (fun θ j u hj => ?_) (fun θ Hb out => .inl ⟨rfl, Yd.nil ?_⟩)
  · match j, hj with
    | 0, hj => cases hj; exact ⟨8, _, rfl, hr.1, Zdy hT⟩
    | 1, hj =>
      cases hj
      obtain ⟨u, a1, a2⟩ := h.robj (K := kN 8 [8, o] []) θ
      exact ⟨o, u, rfl, a1, a2⟩
    | j + 2, hj => simp at hj
  · match j, hj with
    | 0, hj => cases hj; exact Zi5 (wNo ws)
    | 1, hj =>
      cases hj
      refine K1 (Zpj ids θ) fun v hv => ?_
      obtain rfl := List.mem_singleton.1 hv
      trivial
    | j + 2, hj => simp at hj
  · have hn : Hb.next = H.next + 3 := out.next
    have g10 : Hb.get H.next = some (J6 ws) := by
      have := out.new 0 10 _ rfl rfl rfl
      rw [Zfc (wNo ws)] at this
      exact this
    have g12 := out.new 1 12 _ rfl rfl rfl
    have ho := h.lt o List.mem_cons_self
    have keep : ∀ id u, id ≠ o → H.get id = some u → Hb.get id = some u := fun id u hne hu => out.old id u hu (Zt4 rfl rfl hne)
    rw [show (EE fs sm).ng = 8 from rfl, h1]
    have h9 := hr.2
    refine hq Hb (H.next + 2) (ids ++ [some H.next]) ⟨keep 8 _ (fun e => h8 (by rw [e]; exact List.mem_cons_self)) hr.1, by omega⟩ (h.snoc (c := .sl 10 0 ws.length none) (by omega) (by omega) (by omega) (by omega) rfl g12 (.inr ⟨hw, _, rfl, g10, Nat.le_refl _, by omega, by omega⟩) fun i u hi hu => keep i u (fun e => ?_) hu) (no8 (Hb := Hb) h8 (by omega) fun i hi => by cases hi; omega)
    subst e
    exact (List.nodup_cons.1 h.nodup).1 hi
theorem Zvb (hE : EnvOk (EE fs sm) P I) (hI : Carried I) (hc : POk cl (Go.Vai.run (EE fs sm) d)) (hF : FOk f) (hT : noT T) (hr : R8 H n T g) (h : LI H o ids ls) (h8 : 8 ∉ o :: ids.filterMap id) (hl : ls.length < 1048576)
    (heq : ∀ T2, Zh (EE fs sm) cl l (Ya S [11]) (Zd N S (f (.sl 9 0 ls.length none) i)) (Xl 8 [.cells n T 9 g 0 true false, .cells ls.length T2 28 (some 1) 0 false false] 0) orc = lg .normal N 12 ((f (.sl 11 0 (ls.length + 1) none) (i + 1)).map some) [some (.cells (ls.length + 1) (Tr.putAll T2 ls.length [.nils]) 28 (some 1) 0 false false)])
    (hq : ∀ Hb o' ids', R8 Hb n T g → LI Hb o' ids' (ls ++ [[]]) → 8 ∉ o' :: ids'.filterMap id → Q .normal (Zd N S (f (.sl o' 0 (ls.length + 1) none) (i + 1))) Hb) :
    Yd (EE fs sm) P I ro l (Zd N S (f (.sl o 0 ls.length none) i)) H Q := by
  have hk := Znq hr h h8
  have h0 : (f (.sl 9 0 ls.length none) i).map (V2 (Q9 (kN 8 [8, o] []) H.next) (liT ids ls)) = f (.sl o 0 ls.length none) i := hF.lf _ _ _ _ rfl
  have h1 : (f (.sl 11 0 (ls.length + 1) none) (i + 1)).map (V2 (Q9 (kN 8 [8, o] []) H.next) (liT ids ls)) = f (.sl (H.next + 1) 0 (ls.length + 1) none) (i + 1) := hF.lf _ _ _ _ rfl
  have hfr := FrIn.mk' (K := kN 8 [8, o] []) (τ := liT ids ls) (nx := H.next) (n := N) (S := S) (vs := f (.sl 9 0 ls.length none) i) hk.all (hF.lt _ _ _ (show 9 ≤ 10 by decide) rfl)
  rw [h0] at hfr
  rw [← List.append_nil l]
  refine Yd.frameP (l := l) (m := []) (Q := Q) hE hI hc (ks := [8, o]) (xs := []) (D := liD ids) (pl := fun j => (o, j)) (τ := liT ids ls) (H := H) (os := fun θ => [.cells n T 9 g 0 true false, .cells ls.length (Zdc ids θ) 28 (some 1) 0 false false])
    (os2 := fun θ => [some (.cells (ls.length + 1) (Tr.putAll (Zdc ids θ) ls.length [.nils]) 28 (some 1) 0 false false)]) (fun θ => heq (Zdc ids θ)) hk hfr (fun _ => rfl) h.plOk (fun θ j u hj => ?_) (fun v e => by cases e) (hF.no _ _ rfl) (fun θ j u hj => ?_) (fun θ Hb out => .inl ⟨rfl, Yd.nil ?_⟩)
  · match j, hj with
    | 0, hj => cases hj; exact ⟨8, _, rfl, hr.1, Zdy hT⟩
    | 1, hj =>
      cases hj
      obtain ⟨u, a1, a2⟩ := h.robj (K := kN 8 [8, o] []) θ
      exact ⟨o, u, rfl, a1, a2⟩
    | j + 2, hj => simp at hj
  · match j, hj with
    | 0, hj =>
      cases hj
      refine K1 (Zpj ids θ) fun v hv => ?_
      obtain rfl := List.mem_singleton.1 hv
      trivial
    | j + 1, hj => simp at hj
  · have hn : Hb.next = H.next + 2 := out.next
    have g12 := out.new 0 11 _ rfl rfl rfl
    have ho := h.lt o List.mem_cons_self
    have keep : ∀ id u, id ≠ o → H.get id = some u → Hb.get id = some u := fun id u hne hu => out.old id u hu (Zt4 rfl rfl hne)
    rw [show (EE fs sm).ng = 8 from rfl, h1]
    have h9 := hr.2
    refine hq Hb (H.next + 1) (ids ++ [none]) ⟨keep 8 _ (fun e => h8 (by rw [e]; exact List.mem_cons_self)) hr.1, by omega⟩ (h.snoc (c := .nils) (by omega) (by omega) (by omega) (by omega) rfl g12 (.inl ⟨rfl, rfl⟩) fun i u hi hu => keep i u (fun e => ?_) hu) (no8 (Hb := Hb) h8 (by omega) fun i hi => by cases hi)
    subst e
    exact (List.nodup_cons.1 h.nodup).1 hi
theorem Zvd {os : List AObj} {a : AObj} (hos : os = [a]) (ha : a.isRo = true) {id : Nat} : ∀ (j : Nat) u, ([8] : List Nat)[j]? = some id → os[j]? = some u → u.isRo = true := by
  subst hos
  intro j u h1 h2
  match j, h1, h2 with
  | 0, _, h2 => cases h2; exact ha
  | j + 1, h1, _ => simp at h1
theorem Zt9 (hE : EnvOk (EE fs sm) P I) (hI : Carried I) (hc : POk cl (Go.Vai.run (EE fs sm) d)) (hF : FOk f) (hT : noT T) (hr : R8 H n T g) (hw : ws ≠ [])
    (heq : Zh (EE fs sm) cl l (Ya S [9, 11]) (Zd N S (f .nils i)) (Xl 8 [.cells n T 9 g 0 true false] 0) orc = lg .normal N 12 ((f (.sl 11 0 1 none) (i + 1)).map some) [some (J6 ws), some (.cells 1 (Tr.nil.putAll 0 [.sl 9 0 ws.length none]) 28 (some 1) 0 false false)])
    (hq : ∀ Hb o' ids', R8 Hb n T g → LI Hb o' ids' [ws] → 8 ∉ o' :: ids'.filterMap id → Q .normal (Zd N S (f (.sl o' 0 1 none) (i + 1))) Hb) :
    Yd (EE fs sm) P I ro l (Zd N S (f .nils i)) H Q := by
  have hk := Zdw hr
  have h0 : (f .nils i).map (V2 (Q9 (kN 8 [8] []) H.next) (fun _ => .nils)) = f .nils i := hF.lf _ _ _ _ rfl
  have h1 : (f (.sl 11 0 1 none) (i + 1)).map (V2 (Q9 (kN 8 [8] []) H.next) (fun _ => .nils)) = f (.sl (H.next + 2) 0 1 none) (i + 1) := hF.lf _ _ _ _ rfl
  have hfr := FrIn.mk' (K := kN 8 [8] []) (τ := fun _ => .nils) (nx := H.next) (n := N) (S := S) (vs := f .nils i) hk.all (hF.lt _ _ _ (show 9 ≤ 9 by decide) rfl)
  rw [h0] at hfr
  rw [← List.append_nil l]
  refine Yd.frameP (l := l) (m := []) (Q := Q) hE hI hc (ks := [8]) (xs := []) (D := fun _ => False) (pl := fun _ => (0, 0)) (τ := fun _ => .nils) (H := H) (os := fun _ => [.cells n T 9 g 0 true false])
    (os2 := fun _ => [some (J6 ws), some (.cells 1 (Tr.nil.putAll 0 [.sl 9 0 ws.length none]) 28 (some 1) 0 false false)]) (fun _ => heq) hk hfr (fun _ => rfl) (fun j hj => hj.elim) (fun θ j u hj => ?_) (fun v e => by cases e) (hF.no _ _ rfl) (fun θ j u hj => ?_) (fun θ Hb out => .inl ⟨rfl, Yd.nil ?_⟩)
  · match j, hj with
    | 0, hj => cases hj; exact ⟨8, _, rfl, hr.1, Zdy hT⟩
    | j + 1, hj => simp at hj
  · match j, hj with
    | 0, hj => cases hj; exact Zi5 (wNo ws)
    | 1, hj =>
      cases hj
      refine K1 Zn2 fun v hv => ?_
      obtain rfl := List.mem_singleton.1 hv
      trivial
    | j + 2, hj => simp at hj
  · have hn : Hb.next = H.next + 3 := out.next
    have g10 : Hb.get H.next = some (J6 ws) := by
      have := out.new 0 9 _ rfl rfl rfl
      rw [Zfc (wNo ws)] at this
      exact this
    have g12 := out.new 1 11 _ rfl rfl rfl
    rw [show (EE fs sm).ng = 8 from rfl, h1]
    have h9 := hr.2
    exact hq Hb (H.next + 2) [some H.next] ⟨out.old 8 _ hr.1 (Zvd rfl rfl), by omega⟩ (LI.one (H := H) (c := .sl 9 0 ws.length none) (by omega) (by omega) (by omega) (by omega) rfl g12 (.inr ⟨hw, _, rfl, g10, Nat.le_refl _, by omega, by omega⟩)) (no8 (ids := []) (o := 9) (Hb := Hb) (by simp) (by omega) fun i hi => by cases hi; omega)
theorem Zva (hE : EnvOk (EE fs sm) P I) (hI : Carried I) (hc : POk cl (Go.Vai.run (EE fs sm) d)) (hF : FOk f) (hT : noT T) (hr : R8 H n T g)
    (heq : Zh (EE fs sm) cl l (Ya S [10]) (Zd N S (f .nils i)) (Xl 8 [.cells n T 9 g 0 true false] 0) orc = lg .normal N 11 ((f (.sl 10 0 1 none) (i + 1)).map some) [some (.cells 1 (Tr.nil.putAll 0 [.nils]) 28 (some 1) 0 false false)])
    (hq : ∀ Hb o' ids', R8 Hb n T g → LI Hb o' ids' [[]] → 8 ∉ o' :: ids'.filterMap id → Q .normal (Zd N S (f (.sl o' 0 1 none) (i + 1))) Hb) :
    Yd (EE fs sm) P I ro l (Zd N S (f .nils i)) H Q := by
  have hk := Zdw hr
  have h0 : (f .nils i).map (V2 (Q9 (kN 8 [8] []) H.next) (fun _ => .nils)) = f .nils i := hF.lf _ _ _ _ rfl
  have h1 : (f (.sl 10 0 1 none) (i + 1)).map (V2 (Q9 (kN 8 [8] []) H.next) (fun _ => .nils)) = f (.sl (H.next + 1) 0 1 none) (i + 1) := hF.lf _ _ _ _ rfl
  have hfr := FrIn.mk' (K := kN 8 [8] []) (τ := fun _ => .nils) (nx := H.next) (n := N) (S := S) (vs := f .nils i) hk.all (hF.lt _ _ _ (show 9 ≤ 9 by decide) rfl)
  rw [h0] at hfr
  rw [← List.append_nil l]
  refine Yd.frameP (l := l) (m := []) (Q := Q) hE hI hc (ks := [8]) (xs := []) (D := fun _ => False) (pl := fun _ => (0, 0)) (τ := fun _ => .nils) (H := H) (os := fun _ => [.cells n T 9 g 0 true false])
    (os2 := fun _ => [some (.cells 1 (Tr.nil.putAll 0 [.nils]) 28 (some 1) 0 false false)]) (fun _ => heq) hk hfr (fun _ => rfl) (fun j hj => hj.elim) (fun θ j u hj => ?_) (fun v e => by cases e) (hF.no _ _ rfl) (fun θ j u hj => ?_) (fun θ Hb out => .inl ⟨rfl, Yd.nil ?_⟩)
  · match j, hj with
    | 0, hj => cases hj; exact ⟨8, _, rfl, hr.1, Zdy hT⟩
    | j + 1, hj => simp at hj
  · match j, hj with
    | 0, hj =>
      cases hj
      refine K1 Zn2 fun v hv => ?_
      obtain rfl := List.mem_singleton.1 hv
      trivial
    | j + 1, hj => simp at hj
  · have hn : Hb.next = H.next + 2 := out.next
    have g12 := out.new 0 10 _ rfl rfl rfl
    rw [show (EE fs sm).ng = 8 from rfl, h1]
    have h9 := hr.2
    exact hq Hb (H.next + 1) [none] ⟨out.old 8 _ hr.1 (Zvd rfl rfl), by omega⟩ (LI.one (H := H) (c := .nils) (by omega) (by omega) (by omega) (by omega) rfl g12 (.inl ⟨rfl, rfl⟩)) (no8 (ids := []) (o := 9) (Hb := Hb) (by simp) (by omega) fun i hi => by cases hi)
end
end
end Go.Proofs.YtdpkmhnpbbapcaaDoor
