/- The frame rule in use: a piece of code from some rows and names of a great memory, by its tree's leaf. -/
import Derived.Test.YtmppdannkpdpmaaGreatDoorVaiFrame
section
namespace Go.Vai
noncomputable section
structure LeafG where
  e : AExit
  n : Nat
  rd : Bool
  dn : Bool
  next : Nat
  vs : List (Option AV)
  os : List (Option AObj)
def kN (ng : Nat) (ks xs : List Nat) : List Nat := List.range ng ++ (ks ++ xs)
theorem Zhp (ng : Nat) (ks xs : List Nat) : (kN ng ks xs).length = ng + (ks.length + xs.length) := by simp [kN]
theorem Zvw {ng g : Nat} {ks xs : List Nat} (h : g < ng) : (kN ng ks xs)[g]? = some g := by
  unfold kN
  rw [List.getElem?_append_left (by simpa using h)]
  simp [h]
theorem Xx {ng j : Nat} {ks xs : List Nat} (h : j < ks.length) : (kN ng ks xs)[ng + j]? = ks[j]? := by
  unfold kN
  rw [List.getElem?_append_right (by simp), List.getElem?_append_left (by simp; omega)]
  simp
structure FrK (ng : Nat) (ks xs : List Nat) (H : AHeap) : Prop where
  gl : ng ≤ H.next
  lt : ∀ i ∈ ks ++ xs, ng ≤ i ∧ i < H.next
  nodup : (ks ++ xs).Nodup
theorem FrK.all {ng : Nat} {ks xs : List Nat} {H : AHeap} (h : FrK ng ks xs H) : (kN ng ks xs).Nodup := by
  unfold kN
  rw [List.nodup_append]
  refine ⟨List.nodup_range, h.nodup, fun a ha b hb e => ?_⟩
  subst e
  have := (h.lt a hb).1
  rw [List.mem_range] at ha
  omega
structure FrIn (K : List Nat) (fr fr' : AFr) : Prop where
  n : fr'.n = fr.n
  rd : fr'.rd = fr.rd
  df : fr.df = [] ∧ fr'.df = []
  t : ∀ i y, fr'.t.get i = some y → ∃ x, fr.t.get i = some x ∧ Vq 0 K x = some y
mutual
def ltV (b : Nat) : AV → Bool
  | .ptr i _ => Nat.blt i b
  | .sl i _ _ _ => Nat.blt i b
  | .yld i => Nat.blt i b
  | .mapv i => Nat.blt i b
  | .fn _ x y => Zh2 b x && Zh2 b y
  | .iface _ x => ltV b x
  | .agg l => Zh2 b l
  | .tup l => Zh2 b l
  | .ext _ _ _ _ _ _ => false
  | .nilm | .opq _ | .bool _ | .int _ _ | .str _ | .nilp | .nils | .sl0 | .nilf | .nili => true
def Zh2 (b : Nat) : List AV → Bool
  | [] => true
  | v :: l => ltV b v && Zh2 b l
end
theorem Qu {i : Nat} : ∀ {K : List Nat} {k b : Nat}, K.Nodup → K[k]? = some i → Jm i K b = some (b + k)
  | [], k, b, _, h => by simp at h
  | j :: K, k, b, hn, h => by
    simp only [Jm, Bool.cond_eq_ite, Nat.beq_eq]
    rw [List.nodup_cons] at hn
    cases k with
    | zero =>
      simp only [List.getElem?_cons_zero, Option.some.injEq] at h
      rw [if_pos h.symm]; rfl
    | succ k =>
      rw [List.getElem?_cons_succ] at h
      have hne : ¬ i = j := fun e => hn.1 (by rw [← e]; exact List.mem_of_getElem? h)
      rw [if_neg hne, Qu hn.2 h]
      congr 1; omega
theorem Zjo {K : List Nat} {nx i : Nat} (hK : K.Nodup) (h : Nat.blt i K.length = true) : Jm (bkN K nx i) K 0 = some i := by
  rw [Nat.blt_eq] at h
  have e : K[i]? = some K[i] := List.getElem?_eq_getElem h
  rw [Zwg e, Qu hK e, Nat.zero_add]
mutual
theorem Zs6 {K : List Nat} {nx : Nat} {τ : Nat → AV} (hK : K.Nodup) : ∀ v : AV, ltV K.length v = true → Vq 0 K (lfV (bkN K nx) τ v) = some v
  | .ext _ _ _ _ _ _, h => by simp [ltV] at h
  | .ptr i o, h => by simp only [ltV] at h; simp only [lfV, Vq, Zjo hK h]
  | .sl i o n c, h => by simp only [ltV] at h; simp only [lfV, Vq, Zjo hK h]
  | .yld i, h => by simp only [ltV] at h; simp only [lfV, Vq, Zjo hK h]
  | .mapv i, h => by simp only [ltV] at h; simp only [lfV, Vq, Zjo hK h]
  | .fn f x y, h => by
    simp only [ltV, Bool.and_eq_true] at h
    simp only [lfV, Vq, Zgq hK x h.1, Zgq hK y h.2]
  | .iface t x, h => by
    simp only [ltV] at h
    simp only [lfV, Vq, Zs6 hK x h]
  | .agg l, h => by
    simp only [ltV] at h
    simp only [lfV, Vq, Zgq hK l h]
  | .tup l, h => by
    simp only [ltV] at h
    simp only [lfV, Vq, Zgq hK l h]
  | .nilm, _ | .opq _, _ | .bool _, _ | .int _ _, _ | .str _, _ | .nilp, _ | .nils, _ | .sl0, _ | .nilf, _ | .nili, _ => by simp only [lfV, Vq]
theorem Zgq {K : List Nat} {nx : Nat} {τ : Nat → AV} (hK : K.Nodup) : ∀ l : List AV, Zh2 K.length l = true → Zat 0 K (Zkn (bkN K nx) τ l) = some l
  | [], _ => rfl
  | v :: l, h => by
    simp only [Zh2, Bool.and_eq_true] at h
    simp only [Zkn, Zat, Zs6 hK v h.1, Zgq hK l h.2]
end
theorem Zs5 (β : Nat → Nat) (τ : Nat → AV) : ∀ (f : Nat) (t : Tr AV) (i : Nat) (v : AV), lfT β τ (Tr.setF f t i (some v)) = Tr.setF f (lfT β τ t) i (some (lfV β τ v)) := by
  intro f
  induction f with
  | zero => intro t i v; rfl
  | succ f ih =>
    intro t i v
    cases i with
    | zero => cases t <;> rfl
    | succ i =>
      cases t with
      | nil =>
        simp only [lfT, Tr.setF_ns]
        cases Nat.beq (i % 2) 0
        · simp only [cond_false, lfT, ih]; rfl
        · simp only [cond_true, lfT, ih]; rfl
      | node x l r =>
        simp only [lfT, Tr.setF_ts]
        cases Nat.beq (i % 2) 0
        · simp only [cond_false, lfT, ih]
        · simp only [cond_true, lfT, ih]
theorem Zkl (β : Nat → Nat) (τ : Nat → AV) : ∀ (S : List Nat) (vs : List AV), lfT β τ (Zfj S vs) = Zfj S (vs.map (lfV β τ))
  | [], _ => rfl
  | _ :: _, [] => rfl
  | s :: S, v :: vs => by
    show lfT β τ ((Zfj S vs).set s v) = (Zfj S (vs.map (lfV β τ))).set s (lfV β τ v)
    unfold Tr.set
    rw [Zs5, Zkl β τ S vs]
theorem Zmn {b : Nat} : ∀ {l : List AV} {v : AV}, Zh2 b l = true → v ∈ l → ltV b v = true
  | [], _, _, h => by cases h
  | a :: l, v, h, hv => by
    simp only [Zh2, Bool.and_eq_true] at h
    rcases List.mem_cons.1 hv with rfl | hv
    · exact h.1
    · exact Zmn h.2 hv
theorem FrIn.mk' {K : List Nat} {τ : Nat → AV} {nx n : Nat} {S : List Nat} {vs : List AV} (hK : K.Nodup) (h : Zh2 K.length vs = true) : FrIn K (Yq n S (vs.map (lfV (bkN K nx) τ))) (Yq n S vs) := by
  refine ⟨rfl, rfl, ⟨rfl, rfl⟩, fun i y hy => ⟨lfV (bkN K nx) τ y, ?_, ?_⟩⟩
  · show (Zfj S (vs.map (lfV (bkN K nx) τ))).get i = _
    rw [← Zkl, Zyj]
    have hy' : (Zfj S vs).get i = some y := hy
    rw [hy']; rfl
  · obtain ⟨j, _, hj⟩ := Zhh hy
    exact Zs6 hK y (Zmn h (List.mem_of_getElem? hj))
theorem FrIn.same {K : List Nat} {fr : AFr} (hd : fr.df = []) (h : Zgc fr.t) : FrIn K fr fr := ⟨rfl, rfl, ⟨hd, hd⟩, fun i y hy => ⟨y, hy, h i y hy 0 K⟩⟩
mutual
def noN : AV → Bool
  | .ptr _ _ | .sl _ _ _ _ | .yld _ | .mapv _ | .ext _ _ _ _ _ _ => false
  | .fn _ x y => Zm6 x && Zm6 y
  | .iface _ x => noN x
  | .agg l => Zm6 l
  | .tup l => Zm6 l
  | .nilm | .opq _ | .bool _ | .int _ _ | .str _ | .nilp | .nils | .sl0 | .nilf | .nili => true
def Zm6 : List AV → Bool
  | [] => true
  | v :: l => noN v && Zm6 l
end
mutual
theorem Zmq {b : Nat} {keep : List Nat} : ∀ v : AV, noN v = true → Vq b keep v = some v
  | .fn f x y, h => by
    simp only [noN, Bool.and_eq_true] at h
    simp only [Vq, Zc6 x h.1, Zc6 y h.2]
  | .iface t x, h => by
    simp only [noN] at h
    simp only [Vq, Zmq x h]
  | .agg l, h => by
    simp only [noN] at h
    simp only [Vq, Zc6 l h]
  | .tup l, h => by
    simp only [noN] at h
    simp only [Vq, Zc6 l h]
  | .nilm, _ | .opq _, _ | .bool _, _ | .int _ _, _ | .str _, _ | .nilp, _ | .nils, _ | .sl0, _ | .nilf, _ | .nili, _ => by simp only [Vq]
theorem Zc6 {b : Nat} {keep : List Nat} : ∀ l : List AV, Zm6 l = true → Zat b keep l = some l
  | [], _ => rfl
  | v :: l, h => by
    simp only [Zm6, Bool.and_eq_true] at h
    simp only [Zat, Zmq v h.1, Zc6 l h.2]
end
theorem Zrn {v : AV} (h : noN v = true) : Plain v := fun _ _ => Zmq v h
def noT (t : Tr AV) : Prop := ∀ i v, t.get i = some v → noN v = true
theorem noT.plain {t : Tr AV} (h : noT t) : Zgc t := fun i v hv => Zrn (h i v hv)
structure FrOut (ng : Nat) (ks xs : List Nat) (os : List AObj) (τ : Nat → AV) (H : AHeap) (next : Nat) (names : List Nat) (os2 : List (Option AObj)) (Hb : AHeap) : Prop where
  next : Hb.next = H.next + (next - (ng + (ks.length + xs.length)))
  new : ∀ (j k : Nat) (u : AObj), names[j]? = some k → os2[j]? = some (some u) → u.isRo = false → Hb.get (bkN (kN ng ks xs) H.next k) = some (lfO (bkN (kN ng ks xs) H.next) τ u)
  old : ∀ id o, H.get id = some o → (∀ (j : Nat) u, ks[j]? = some id → os[j]? = some u → u.isRo = true) → Hb.get id = some o
section
variable {E : Env} {P : Program} {I : List MEnt → AHeap → World → Prop} {ih : Task → Option TRes} {ro : Option Nat}
end
end
end Go.Vai
end
