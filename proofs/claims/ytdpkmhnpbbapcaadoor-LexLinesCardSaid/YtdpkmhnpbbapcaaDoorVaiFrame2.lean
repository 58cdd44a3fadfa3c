/- The frame rule in use: a piece of code from some rows and names of a great memory, by its tree's leaf. -/
import Derived.Test.YtdpkmhnpbbapcaaDoorVaiFrame
section
namespace Go.Vai
noncomputable section
def Xl (ng : Nat) (os : List AObj) (x : Nat) : AHeap := ⟨(Zs ng os).objs, Nat.add (Nat.add ng os.length) x⟩
theorem Zql {ng x : Nat} {os : List AObj} {k : Nat} {u : AObj} (h : (Xl ng os x).get k = some u) : ∃ j : Nat, k = ng + j ∧ os[j]? = some u := Kh h
theorem Z2l {H : AHeap} {o : AObj} {k : Nat} (h : H.next < 2 ^ 40) : (H.new o).get k = if k = H.next then some o else H.get k := by
  show Tr.get (Tr.setF 48 H.objs H.next (some o)) k = _
  exact Tr.getF_eq 48 H.objs H.next k (some o) (by omega)
theorem Zik : ∀ (os : List AObj) (H : AHeap) (k : Nat), H.next + os.length < 2 ^ 40 → (∀ k, H.next ≤ k → H.get k = none) → (news H os).get k = if k < H.next then H.get k else os[k - H.next]?
  | [], H, k, _, h => by
    show H.get k = _
    by_cases e : k < H.next
    · rw [if_pos e]
    · rw [if_neg e, h k (by omega)]; simp
  | o :: os, H, k, hl, h => by
    show (news (H.new o) os).get k = _
    have hn : (H.new o).next = H.next + 1 := rfl
    rw [List.length_cons] at hl
    rw [Zik os (H.new o) k (by rw [hn]; omega) (fun k hk => by rw [hn] at hk; rw [Z2l (by omega), if_neg (by omega), h k (by omega)]), hn, Z2l (by omega)]
    by_cases e : k < H.next
    · rw [if_pos e, if_pos (by omega), if_neg (by omega)]
    · rw [if_neg e]
      by_cases e2 : k = H.next
      · rw [if_pos (by omega), if_pos e2, e2, Nat.sub_self]; rfl
      · rw [if_neg (by omega), show k - H.next = (k - (H.next + 1)) + 1 by omega]; rfl
structure LeafG where
  e : AExit
  n : Nat
  rd : Bool
  dn : Bool
  next : Nat
  vs : List (Option AV)
  os : List (Option AObj)
def Zz9 (S names : List Nat) : KC LeafG := fun e fr H => some ⟨e, fr.n, fr.rd, Yd2 fr.df, H.next, S.map fr.t.get, names.map H.get⟩
def Ya (S names : List Nat) : PC LeafG := fun e fr H _ => Zz9 S names e fr H
def lg (e : AExit) (n next : Nat) (vs : List (Option AV)) (os : List (Option AObj)) : Option LeafG := some ⟨e, n, false, true, next, vs, os⟩
def kN (ng : Nat) (ks xs : List Nat) : List Nat := List.range ng ++ (ks ++ xs)
theorem Z1b (ng : Nat) (ks xs : List Nat) : (kN ng ks xs).length = ng + (ks.length + xs.length) := by simp [kN]
theorem Z9k {ng g : Nat} {ks xs : List Nat} (h : g < ng) : (kN ng ks xs)[g]? = some g := by
  unfold kN
  rw [List.getElem?_append_left (by simpa using h)]
  simp [h]
theorem Yad {ng j : Nat} {ks xs : List Nat} (h : j < ks.length) : (kN ng ks xs)[ng + j]? = ks[j]? := by
  unfold kN
  rw [List.getElem?_append_right (by simp), List.getElem?_append_left (by simp; omega)]
  simp
structure FrK (ng : Nat) (ks xs : List Nat) (H : AHeap) : Prop where
  gl : ng ≤ H.next
  lt : ∀ i ∈ ks ++ xs, ng ≤ i ∧ i < H.next
  nodup : (ks ++ xs).Nodup
theorem FrK.all {ng : Nat} {ks xs : List Nat} {H : AHeap} (h : FrK ng ks xs H) : (kN ng ks xs).Nodup := by
  unfold kN
  rw [List.nodup_append]
  refine ⟨List.nodup_range, h.nodup, fun a ha b hb e => ?_⟩
  subst e
  have := (h.lt a hb).1
  rw [List.mem_range] at ha
  omega
structure FrIn (K : List Nat) (fr fr' : AFr) : Prop where
  n : fr'.n = fr.n
  rd : fr'.rd = fr.rd
  df : fr.df = [] ∧ fr'.df = []
  t : ∀ i y, fr'.t.get i = some y → ∃ x, fr.t.get i = some x ∧ X0 0 K x = some y
mutual
def ltV (b : Nat) : AV → Bool
  | .ptr i _ => Nat.blt i b
  | .sl i _ _ _ => Nat.blt i b
  | .yld i => Nat.blt i b
  | .mapv i => Nat.blt i b
  | .fn _ x y => Zgt b x && Zgt b y
  | .iface _ x => ltV b x
  | .agg l => Zgt b l
  | .tup l => Zgt b l
  | .ext _ _ _ _ _ _ => false
  | .nilm | .opq _ | .bool _ | .int _ _ | .str _ | .nilp | .nils | .sl0 | .nilf | .nili => true
def Zgt (b : Nat) : List AV → Bool
  | [] => true
  | v :: l => ltV b v && Zgt b l
end
theorem Jy {i : Nat} : ∀ {K : List Nat} {k b : Nat}, K.Nodup → K[k]? = some i → Qu i K b = some (b + k)
  | [], k, b, _, h => by simp at h
  | j :: K, k, b, hn, h => by
    simp only [Qu, Bool.cond_eq_ite, Nat.beq_eq]
    rw [List.nodup_cons] at hn
    cases k with
    | zero =>
      simp only [List.getElem?_cons_zero, Option.some.injEq] at h
      rw [if_pos h.symm]; rfl
    | succ k =>
      rw [List.getElem?_cons_succ] at h
      have hne : ¬ i = j := fun e => hn.1 (by rw [← e]; exact List.mem_of_getElem? h)
      rw [if_neg hne, Jy hn.2 h]
      congr 1; omega
theorem Zmx {K : List Nat} {nx i : Nat} (hK : K.Nodup) (h : Nat.blt i K.length = true) : Qu (Q9 K nx i) K 0 = some i := by
  rw [Nat.blt_eq] at h
  have e : K[i]? = some K[i] := List.getElem?_eq_getElem h
  rw [Zuu e, Jy hK e, Nat.zero_add]
mutual
theorem Zo1 {K : List Nat} {nx : Nat} {τ : Nat → AV} (hK : K.Nodup) : ∀ v : AV, ltV K.length v = true → X0 0 K (V2 (Q9 K nx) τ v) = some v
  | .ext _ _ _ _ _ _, h => by simp [ltV] at h
  | .ptr i o, h => by simp only [ltV] at h; simp only [V2, X0, Zmx hK h]
  | .sl i o n c, h => by simp only [ltV] at h; simp only [V2, X0, Zmx hK h]
  | .yld i, h => by simp only [ltV] at h; simp only [V2, X0, Zmx hK h]
  | .mapv i, h => by simp only [ltV] at h; simp only [V2, X0, Zmx hK h]
  | .fn f x y, h => by
    simp only [ltV, Bool.and_eq_true] at h
    simp only [V2, X0, Zkw hK x h.1, Zkw hK y h.2]
  | .iface t x, h => by
    simp only [ltV] at h
    simp only [V2, X0, Zo1 hK x h]
  | .agg l, h => by
    simp only [ltV] at h
    simp only [V2, X0, Zkw hK l h]
  | .tup l, h => by
    simp only [ltV] at h
    simp only [V2, X0, Zkw hK l h]
  | .nilm, _ | .opq _, _ | .bool _, _ | .int _ _, _ | .str _, _ | .nilp, _ | .nils, _ | .sl0, _ | .nilf, _ | .nili, _ => by simp only [V2, X0]
theorem Zkw {K : List Nat} {nx : Nat} {τ : Nat → AV} (hK : K.Nodup) : ∀ l : List AV, Zgt K.length l = true → V7 0 K (Zli (Q9 K nx) τ l) = some l
  | [], _ => rfl
  | v :: l, h => by
    simp only [Zgt, Bool.and_eq_true] at h
    simp only [Zli, V7, Zo1 hK v h.1, Zkw hK l h.2]
end
theorem Zo3 (β : Nat → Nat) (τ : Nat → AV) : ∀ (f : Nat) (t : Tr AV) (i : Nat) (v : AV), lfT β τ (Tr.setF f t i (some v)) = Tr.setF f (lfT β τ t) i (some (V2 β τ v)) := by
  intro f
  induction f with
  | zero => intro t i v; rfl
  | succ f ih =>
    intro t i v
    cases i with
    | zero => cases t <;> rfl
    | succ i =>
      cases t with
      | nil =>
        simp only [lfT, Tr.setF_ns]
        cases Nat.beq (i % 2) 0
        · simp only [cond_false, lfT, ih]; rfl
        · simp only [cond_true, lfT, ih]; rfl
      | node x l r =>
        simp only [lfT, Tr.setF_ts]
        cases Nat.beq (i % 2) 0
        · simp only [cond_false, lfT, ih]
        · simp only [cond_true, lfT, ih]
theorem Zko (β : Nat → Nat) (τ : Nat → AV) : ∀ (S : List Nat) (vs : List AV), lfT β τ (Zcs S vs) = Zcs S (vs.map (V2 β τ))
  | [], _ => rfl
  | _ :: _, [] => rfl
  | s :: S, v :: vs => by
    show lfT β τ ((Zcs S vs).set s v) = (Zcs S (vs.map (V2 β τ))).set s (V2 β τ v)
    unfold Tr.set
    rw [Zo3, Zko β τ S vs]
theorem Zjt (β : Nat → Nat) (τ : Nat → AV) : ∀ (vs : List AV) (t : Tr AV) (k : Nat), lfT β τ (t.putAll k vs) = (lfT β τ t).putAll k (vs.map (V2 β τ))
  | [], _, _ => rfl
  | v :: vs, t, k => by
    show lfT β τ ((t.set k v).putAll (k + 1) vs) = ((lfT β τ t).set k (V2 β τ v)).putAll (k + 1) (vs.map (V2 β τ))
    rw [Zjt β τ vs]
    unfold Tr.set
    rw [Zo3]
theorem Zpc {b : Nat} : ∀ {l : List AV} {v : AV}, Zgt b l = true → v ∈ l → ltV b v = true
  | [], _, _, h => by cases h
  | a :: l, v, h, hv => by
    simp only [Zgt, Bool.and_eq_true] at h
    rcases List.mem_cons.1 hv with rfl | hv
    · exact h.1
    · exact Zpc h.2 hv
theorem FrIn.mk' {K : List Nat} {τ : Nat → AV} {nx n : Nat} {S : List Nat} {vs : List AV} (hK : K.Nodup) (h : Zgt K.length vs = true) : FrIn K (Zd n S (vs.map (V2 (Q9 K nx) τ))) (Zd n S vs) := by
  refine ⟨rfl, rfl, ⟨rfl, rfl⟩, fun i y hy => ⟨V2 (Q9 K nx) τ y, ?_, ?_⟩⟩
  · show (Zcs S (vs.map (V2 (Q9 K nx) τ))).get i = _
    rw [← Zko, Zfi]
    have hy' : (Zcs S vs).get i = some y := hy
    rw [hy']; rfl
  · obtain ⟨j, _, hj⟩ := Ve hy
    exact Zo1 hK y (Zpc h (List.mem_of_getElem? hj))
theorem FrIn.same {K : List Nat} {fr : AFr} (hd : fr.df = []) (h : Za4 fr.t) : FrIn K fr fr := ⟨rfl, rfl, ⟨hd, hd⟩, fun i y hy => ⟨y, hy, h i y hy 0 K⟩⟩
mutual
def noN : AV → Bool
  | .ptr _ _ | .sl _ _ _ _ | .yld _ | .mapv _ | .ext _ _ _ _ _ _ => false
  | .fn _ x y => Zje x && Zje y
  | .iface _ x => noN x
  | .agg l => Zje l
  | .tup l => Zje l
  | .nilm | .opq _ | .bool _ | .int _ _ | .str _ | .nilp | .nils | .sl0 | .nilf | .nili => true
def Zje : List AV → Bool
  | [] => true
  | v :: l => noN v && Zje l
end
mutual
theorem Zsj {β : Nat → Nat} {τ : Nat → AV} : ∀ v : AV, noN v = true → V2 β τ v = v
  | .fn f x y, h => by
    simp only [noN, Bool.and_eq_true] at h
    simp only [V2, Zfh x h.1, Zfh y h.2]
  | .iface t x, h => by
    simp only [noN] at h
    simp only [V2, Zsj x h]
  | .agg l, h => by
    simp only [noN] at h
    simp only [V2, Zfh l h]
  | .tup l, h => by
    simp only [noN] at h
    simp only [V2, Zfh l h]
  | .nilm, _ | .opq _, _ | .bool _, _ | .int _ _, _ | .str _, _ | .nilp, _ | .nils, _ | .sl0, _ | .nilf, _ | .nili, _ => by simp only [V2]
theorem Zfh {β : Nat → Nat} {τ : Nat → AV} : ∀ l : List AV, Zje l = true → Zli β τ l = l
  | [], _ => rfl
  | v :: l, h => by
    simp only [Zje, Bool.and_eq_true] at h
    simp only [Zli, Zsj v h.1, Zfh l h.2]
end
mutual
theorem Zg4 {b : Nat} {keep : List Nat} : ∀ v : AV, noN v = true → X0 b keep v = some v
  | .fn f x y, h => by
    simp only [noN, Bool.and_eq_true] at h
    simp only [X0, Zf8 x h.1, Zf8 y h.2]
  | .iface t x, h => by
    simp only [noN] at h
    simp only [X0, Zg4 x h]
  | .agg l, h => by
    simp only [noN] at h
    simp only [X0, Zf8 l h]
  | .tup l, h => by
    simp only [noN] at h
    simp only [X0, Zf8 l h]
  | .nilm, _ | .opq _, _ | .bool _, _ | .int _ _, _ | .str _, _ | .nilp, _ | .nils, _ | .sl0, _ | .nilf, _ | .nili, _ => by simp only [X0]
theorem Zf8 {b : Nat} {keep : List Nat} : ∀ l : List AV, Zje l = true → V7 b keep l = some l
  | [], _ => rfl
  | v :: l, h => by
    simp only [Zje, Bool.and_eq_true] at h
    simp only [V7, Zg4 v h.1, Zf8 l h.2]
end
theorem Zw3 {v : AV} (h : noN v = true) : Plain v := fun _ _ => Zg4 v h
def noT (t : Tr AV) : Prop := ∀ i v, t.get i = some v → noN v = true
theorem noT.plain {t : Tr AV} (h : noT t) : Za4 t := fun i v hv => Zw3 (h i v hv)
theorem Zuz : noT .nil := fun i v h => by simp [Tr.get_nil] at h
theorem Ze7 {t : Tr AV} {k : Nat} {vs : List AV} (h : noT t) (hv : ∀ v ∈ vs, noN v = true) : noT (t.putAll k vs) := fun i v hi => by
  rcases Tr.get_putAll vs hi with ⟨q, _, h2⟩ | ⟨_, h2⟩
  · exact hv v (List.mem_of_getElem? h2)
  · exact h i v h2
theorem Zno {β : Nat → Nat} {τ : Nat → AV} : ∀ {t : Tr AV}, noT t → lfT β τ t = t
  | .nil, _ => rfl
  | .node v l r, h => by
    have hl : noT l := fun i x hx => h (2 * i + 1) x (by
      rw [Tr.get_succ, show Nat.beq (2 * i % 2) 0 = true from by rw [Nat.beq_eq]; omega, show 2 * i / 2 = i by omega]; exact hx)
    have hr : noT r := fun i x hx => h (2 * i + 1 + 1) x (by
      rw [Tr.get_succ, show Nat.beq ((2 * i + 1) % 2) 0 = false from by rw [Bool.eq_false_iff]; intro e; rw [Nat.beq_eq] at e; omega, show (2 * i + 1) / 2 = i by omega]; exact hx)
    simp only [lfT, Zno hl, Zno hr]
    cases v with
    | none => rfl
    | some x => rw [Option.map_some, Zsj x (h 0 x rfl)]
theorem Zfc {β : Nat → Nat} {τ : Nat → AV} {n : Nat} {t : Tr AV} {e : TypeId} {g : Option Nat} {fz : Nat} {ro mk : Bool} (h : noT t) : lfO β τ (.cells n t e g fz ro mk) = .cells n t e g fz ro mk := by simp only [lfO, Zno h]
mutual
def noX : AV → Bool
  | .ext _ _ _ _ _ _ => false
  | .fn _ x y => Zbi x && Zbi y
  | .iface _ x => noX x
  | .agg l => Zbi l
  | .tup l => Zbi l
  | .ptr _ _ | .sl _ _ _ _ | .yld _ | .mapv _ | .nilm | .opq _ | .bool _ | .int _ _ | .str _ | .nilp | .nils | .sl0 | .nilf | .nili => true
def Zbi : List AV → Bool
  | [] => true
  | v :: l => noX v && Zbi l
end
mutual
theorem Zn8 {D : Nat → Prop} {θ : Nat → Tag} : ∀ v : AV, noX v = true → exV D θ v
  | .fn f x y, h => by
    simp only [noX, Bool.and_eq_true] at h
    exact ⟨Zgf x h.1, Zgf y h.2⟩
  | .iface t x, h => by
    simp only [noX] at h
    exact Zn8 x h
  | .agg l, h => by
    simp only [noX] at h
    exact Zgf l h
  | .tup l, h => by
    simp only [noX] at h
    exact Zgf l h
  | .ptr _ _, _ | .sl _ _ _ _, _ | .yld _, _ | .mapv _, _ | .nilm, _ | .opq _, _ | .bool _, _ | .int _ _, _ | .str _, _ | .nilp, _ | .nils, _ | .sl0, _ | .nilf, _ | .nili, _ => trivial
theorem Zgf {D : Nat → Prop} {θ : Nat → Tag} : ∀ l : List AV, Zbi l = true → Zso D θ l
  | [], _ => trivial
  | v :: l, h => by
    simp only [Zbi, Bool.and_eq_true] at h
    exact ⟨Zn8 v h.1, Zgf l h.2⟩
end
mutual
theorem Znz : ∀ v : AV, noN v = true → noX v = true
  | .fn f x y, h => by
    simp only [noN, Bool.and_eq_true] at h
    simp only [noX, Zbb x h.1, Zbb y h.2, Bool.and_self]
  | .iface t x, h => by
    simp only [noN] at h
    simp only [noX, Znz x h]
  | .agg l, h => by
    simp only [noN] at h
    simp only [noX, Zbb l h]
  | .tup l, h => by
    simp only [noN] at h
    simp only [noX, Zbb l h]
  | .nilm, _ | .opq _, _ | .bool _, _ | .int _ _, _ | .str _, _ | .nilp, _ | .nils, _ | .sl0, _ | .nilf, _ | .nili, _ => rfl
theorem Zbb : ∀ l : List AV, Zje l = true → Zbi l = true
  | [], _ => rfl
  | v :: l, h => by
    simp only [Zje, Bool.and_eq_true] at h
    simp only [Zbi, Znz v h.1, Zbb l h.2, Bool.and_self]
end
theorem Zi5 {D : Nat → Prop} {θ : Nat → Tag} {t : Tr AV} (h : noT t) : exT D θ t := fun i y hy => Zn8 y (Znz y (h i y hy))
theorem Zn2 {D : Nat → Prop} {θ : Nat → Tag} : exT D θ .nil := fun i v h => by simp [Tr.get_nil] at h
theorem K1 {D : Nat → Prop} {θ : Nat → Tag} {t : Tr AV} {k : Nat} {vs : List AV} (h : exT D θ t) (hv : ∀ v ∈ vs, exV D θ v) : exT D θ (t.putAll k vs) := fun i v hi => by
  rcases Tr.get_putAll vs hi with ⟨q, _, h2⟩ | ⟨_, h2⟩
  · exact hv v (List.mem_of_getElem? h2)
  · exact h i v h2
theorem Zpt : ∀ {l : List AV} {v : AV}, Zbi l = true → v ∈ l → noX v = true
  | [], _, _, h => by cases h
  | a :: l, v, h, hv => by
    simp only [Zbi, Bool.and_eq_true] at h
    rcases List.mem_cons.1 hv with rfl | hv
    · exact h.1
    · exact Zpt h.2 hv
structure FrOut (ng : Nat) (ks xs : List Nat) (os : List AObj) (τ : Nat → AV) (H : AHeap) (next : Nat) (names : List Nat) (os2 : List (Option AObj)) (Hb : AHeap) : Prop where
  next : Hb.next = H.next + (next - (ng + (ks.length + xs.length)))
  new : ∀ (j k : Nat) (u : AObj), names[j]? = some k → os2[j]? = some (some u) → u.isRo = false → Hb.get (Q9 (kN ng ks xs) H.next k) = some (lfO (Q9 (kN ng ks xs) H.next) τ u)
  old : ∀ id o, H.get id = some o → (∀ (j : Nat) u, ks[j]? = some id → os[j]? = some u → u.isRo = true) → Hb.get id = some o
section
variable {E : Env} {P : Program} {I : List MEnt → AHeap → World → Prop} {ih : Task → Option TRes} {ro : Option Nat}
theorem Yd.frame0 (hE : EnvOk E P I) (hs : Sound E P I ih) (hI : Carried I) {ks xs : List Nat} {D : Nat → Prop} {pl : Nat → Nat × Nat} {τ : Nat → AV} {fr fr' : AFr} {H : AHeap} {os : (Nat → Tag) → List AObj} {l m : List Code} {e : AExit} {n next : Nat} {S names : List Nat} {vs : List AV} {os2 : (Nat → Tag) → List (Option AObj)} {Q : TQ}
    (hk : FrK E.ng ks xs H) (hfr : FrIn (kN E.ng ks xs) fr fr') (hl : ∀ θ, (os θ).length = ks.length) (hD : ∀ j, D j → Zyo H pl τ j)
    (hos : ∀ θ (j : Nat) u, (os θ)[j]? = some u → ∃ i o, ks[j]? = some i ∧ H.get i = some o ∧ Jc (kN E.ng ks xs) D pl τ θ i o u)
    (h : ∀ θ, ∃ e0 fr2 H2, Zau E ih l fr' (Xl E.ng (os θ) xs.length) = some (.code e0 fr2 H2) ∧ Zz9 S names e0 fr2 H2 = lg e n next (vs.map some) (os2 θ)) (hp : ∀ v, e ≠ .panic v)
    (hvx : Zbi vs = true) (hox : ∀ θ (j : Nat) u, (os2 θ)[j]? = some (some u) → exO D θ u)
    (hq : ∀ θ Hb, FrOut E.ng ks xs (os θ) τ H next names (os2 θ) Hb → (e = .normal ∧ Yd E P I ro m (Zd n S (vs.map (V2 (Q9 (kN E.ng ks xs) H.next) τ))) Hb Q) ∨ (e ≠ .normal ∧ Q e (Zd n S (vs.map (V2 (Q9 (kN E.ng ks xs) H.next) τ))) Hb)) :
    Yd E P I ro (l ++ m) fr H Q := by
  intro M w a st hf
  obtain ⟨θ, hth⟩ := Zvz st.hr hD
  obtain ⟨e0, fr2, H2, h1, h2⟩ := h θ
  simp only [Zz9, lg, Option.some.injEq, LeafG.mk.injEq] at h2
  obtain ⟨rfl, rfl, hrd, hdn, rfl, hvs, hos2⟩ := h2
  have ren : RenX E.ng (kN E.ng ks xs) D pl τ θ fr H fr' (Xl E.ng (os θ) xs.length) := by
    refine ⟨fun g hg => Z9k hg, fun i hi => ?_, hk.all, ?_, fun k u hu => ?_, hfr.n, hfr.rd, hfr.df, hfr.t⟩
    · unfold kN at hi
      rcases List.mem_append.1 hi with hi | hi
      · rw [List.mem_range] at hi
        exact Nat.lt_of_lt_of_le hi hk.gl
      · exact (hk.lt i hi).2
    · rw [Z1b]
      show E.ng + (os θ).length + xs.length = _
      have := hl θ
      omega
    · obtain ⟨j, rfl, hj⟩ := Zql hu
      obtain ⟨i, o, a1, a2, a3⟩ := hos θ j u hj
      exact ⟨i, o, by rw [Yad (by have := (List.getElem?_eq_some_iff.1 hj).1; have := hl θ; omega)]; exact a1, a2, a3⟩
  have hdf : fr2.df = [] := by
    cases hd : fr2.df with
    | nil => rfl
    | cons x xs => rw [hd] at hdn; cases hdn
  obtain ⟨s2, f2⟩ := ren.to hI hth st hf
  have h3 : ∀ i y, (Zcs S vs).get i = some y → fr2.t.get i = some y := fun i y hy => by
    obtain ⟨j, b1, b2⟩ := Ve hy
    have b4 := congrArg (·[j]?) hvs
    simp only [List.getElem?_map, b1, b2, Option.map_some, Option.some.injEq] at b4
    exact b4
  have hx3 : exT D θ (Zcs S vs) := fun i y hy => by
    obtain ⟨j, _, b2⟩ := Ve hy
    exact Zn8 y (Zpt hvx (List.mem_of_getElem? b2))
  have hxo : ∀ k u, k ∈ names → H2.get k = some u → u.isRo = false → exO D θ u := fun k u hkn hu _ => by
    obtain ⟨j, hj⟩ := List.getElem?_of_mem hkn
    refine hox θ j u ?_
    have b3 := congrArg (·[j]?) hos2
    simp only [List.getElem?_map, hj, Option.map_some] at b3
    rw [← b3, hu]
  refine Zca (Zbf (Zhp hE hs l _ _ _ _ _ _ w a h1 s2 f2) fun x a2 w2 hp2 => ?_)
  obtain ⟨Hb, M2, hb, s3, er, f3⟩ := Zsy hI ren hth st hp hdf h3 ⟨hx3, hxo⟩ hp2
  have f4 : FRel ro M2 (Zd fr2.n S (vs.map (V2 (Q9 (kN E.ng ks xs) H.next) τ))) a2 := by
    have e1 : Yd1 (Q9 (kN E.ng ks xs) H.next) τ fr2 (Zcs S vs) = Zd fr2.n S (vs.map (V2 (Q9 (kN E.ng ks xs) H.next) τ)) := by
      unfold Yd1 Zd
      rw [Zko, hrd]
    rw [e1] at f3
    exact f3
  have out : FrOut E.ng ks xs (os θ) τ H H2.next names (os2 θ) Hb := by
    refine ⟨by rw [hb.next, Z1b], fun j k u b1 b2 b3 => ?_, fun id o b1 b2 => ?_⟩
    · refine hb.new k u (List.mem_of_getElem? b1) ?_ b3
      have b4 := congrArg (·[j]?) hos2
      simp only [List.getElem?_map, b1, b2, Option.map_some, Option.some.injEq] at b4
      exact b4
    · refine hb.old id o b1 fun k u b3 b4 => ?_
      obtain ⟨j, rfl, hj⟩ := Zql b4
      have hj2 : j < ks.length := by have := (List.getElem?_eq_some_iff.1 hj).1; have := hl θ; omega
      rw [Yad hj2] at b3
      exact b2 j u b3 hj
  rcases hq θ Hb out with ⟨b1, b2⟩ | ⟨b1, b2⟩
  · subst b1
    simp only [Xr] at er
    subst er
    exact b2 M2 w2 a2 s3 f4
  · exact X1 (.inr ⟨fun hx => b1 (er.normal.2 hx), e0, _, Hb, M2, b2, s3, er, f4⟩)
theorem Yd.frameP (hE : EnvOk E P I) (hI : Carried I) {cl : PCl LeafG} {d : Nat} (hc : POk cl (Go.Vai.run E d)) {ks xs : List Nat} {D : Nat → Prop} {pl : Nat → Nat × Nat} {τ : Nat → AV} {fr fr' : AFr} {H : AHeap} {os : (Nat → Tag) → List AObj} {o : Wh} {l m : List Code} {e : AExit} {n next : Nat} {S names : List Nat} {vs : List AV} {os2 : (Nat → Tag) → List (Option AObj)} {Q : TQ}
    (h : ∀ θ, Zh E cl l (Ya S names) fr' (Xl E.ng (os θ) xs.length) o = lg e n next (vs.map some) (os2 θ))
    (hk : FrK E.ng ks xs H) (hfr : FrIn (kN E.ng ks xs) fr fr') (hl : ∀ θ, (os θ).length = ks.length) (hD : ∀ j, D j → Zyo H pl τ j)
    (hos : ∀ θ (j : Nat) u, (os θ)[j]? = some u → ∃ i o, ks[j]? = some i ∧ H.get i = some o ∧ Jc (kN E.ng ks xs) D pl τ θ i o u) (hp : ∀ v, e ≠ .panic v)
    (hvx : Zbi vs = true) (hox : ∀ θ (j : Nat) u, (os2 θ)[j]? = some (some u) → exO D θ u)
    (hq : ∀ θ Hb, FrOut E.ng ks xs (os θ) τ H next names (os2 θ) Hb → (e = .normal ∧ Yd E P I ro m (Zd n S (vs.map (V2 (Q9 (kN E.ng ks xs) H.next) τ))) Hb Q) ∨ (e ≠ .normal ∧ Q e (Zd n S (vs.map (V2 (Q9 (kN E.ng ks xs) H.next) τ))) Hb)) :
    Yd E P I ro (l ++ m) fr H Q :=
  Yd.frame0 hE (Xv hE _) hI hk hfr hl hD hos (fun θ => by
    obtain ⟨e0, fr2, H2, o', h1, h2⟩ := Qs hc l _ fr' _ _ _ (h θ)
    exact ⟨e0, fr2, H2, h1, h2⟩) hp hvx hox hq
end
end
end Go.Vai
end
