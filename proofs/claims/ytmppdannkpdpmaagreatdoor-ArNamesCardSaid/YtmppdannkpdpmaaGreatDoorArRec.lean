/- ar.draft.record: a record is put behind the bytes so far. (It writes into the draft.) -/
import Derived.Test.YtmppdannkpdpmaaGreatDoorArRec0
import Derived.KernelRfl
namespace Go.Proofs.YtmppdannkpdpmaaGreatDoor
open Go Go.Vai
noncomputable section
set_option maxRecDepth 100000
def Zxj (H : AHeap) (di bi : Nat) (lo : List UInt8) (v2 : AV) (L : List UInt8) : AHeap := ((H.put di (.cells 3 (Tr.nil.putAll 0 [.sl H.next 0 L.length none, .str lo, v2]) 47 none 0 false false)).kill bi).new (.cells L.length (bT L) 5 (some 1) 0 false false)
def okX : AV → Bool
  | .sl _ _ _ _ => true
  | .nils => true
  | _ => false
theorem Znp {T : Tr AV} {L : List UInt8} (h : Xt T L) : ∀ i y, (bT L).get i = some y → T.get i = some y ∧ ∃ n, y = .int .u8 n := fun i y hy => by
  rcases Tr.get_putAll _ hy with ⟨q, rfl, hq⟩ | ⟨_, hu⟩
  · rw [List.getElem?_map] at hq
    obtain ⟨b, hb, rfl⟩ := Option.map_eq_some_iff.1 hq
    rw [Nat.zero_add]
    exact ⟨h q b hb, _, rfl⟩
  · simp [Tr.get_nil] at hu
theorem Qa {M : List MEnt} {H : AHeap} {w : World} {di bi : Nat} {xs : List Nat} {T : Tr AV} {m : Nat} {cap : Option Nat} {lo : List UInt8} {v2 : AV} {ob bS : AObj} {ex : List AObj} {args : List AV} {cargs : List Value} {k : Nat} {L : List UInt8} {pn : Pin} {o : Wc}
    (hj : JG gl M H w) (hg : GR 8 M) (hr : HRel M H w) (hd : H.get di = some (.cells 3 T 47 none 0 false false)) (h0 : T.get 0 = some (.sl bi 0 m cap)) (h1 : T.get 1 = some (.str lo)) (h2 : T.get 2 = some v2) (hv2 : okX v2 = true)
    (hb : H.get bi = some ob) (hbS : ∀ K D pl τ θ, Zas K D pl τ θ bi ob bS) (hks : (di :: bi :: xs).Nodup) (h8 : ∀ i ∈ di :: bi :: xs, 8 ≤ i ∧ i < H.next) (hl : ex.length = xs.length)
    (hex : ∀ (j : Nat) u, ex[j]? = some u → u.isRo = true ∧ ∃ i o, xs[j]? = some i ∧ H.get i = some o ∧ ∀ K D pl τ θ, Zas K D pl τ θ i o u)
    (hargs : Zs (Wa (kN 8 (di :: bi :: xs) []) M) args cargs)
    (hrun : ∀ y, ∃ T2, Zn ERc Kh pn 100 (.call 25 args (Z6 8 (.cells 3 (Tr.nil.putAll 0 [.sl 9 0 m cap, .str lo, y]) 47 none 0 false false :: bS :: ex))) o Kq = some (k, L.length, L.length, T2, some (.str lo), some y) ∧ Xt T2 L)
    (hk : 8 + (di :: bi :: xs).length ≤ k) : Vy Tryz.prog 25 cargs M H w (.ret (.tup []) (Zxj H di bi lo v2 L)) := by
  have hK : FrK 8 (di :: bi :: xs) [] H := ⟨by have := h8 di List.mem_cons_self; omega, fun i hi => h8 i (by simpa using hi), by simpa using hks⟩
  let D : Nat → Prop := fun j => j = 0 ∧ isX v2 = true
  let pl : Nat → Nat × Nat := fun _ => (di, 2)
  let τ : Nat → AV := fun _ => v2
  obtain ⟨θ, hth⟩ := Zrk (D := D) (pl := pl) (τ := τ) hr fun j hj => ⟨3, T, 47, none, 0, false, false, hd, h2, hj.2⟩
  obtain ⟨y, hy1, hy2, hy3, hyR⟩ : ∃ y, Zpj (kN 8 (di :: bi :: xs) []) D pl τ θ di 2 v2 y ∧ exV D θ y ∧ (∀ β, lfV β τ y = v2) ∧ ∀ R, inV R y := by
    cases v2 with
    | sl a b c d => exact ⟨.ext 0 (θ 0).1 (θ 0).2.1 (θ 0).2.2.1 (θ 0).2.2.2.1 (θ 0).2.2.2.2, .inr ⟨0, rfl, ⟨rfl, rfl⟩, rfl, rfl⟩, ⟨⟨rfl, rfl⟩, rfl⟩, fun _ => rfl, fun _ => trivial⟩
    | nils => exact ⟨.nils, .inl rfl, trivial, fun _ => rfl, fun _ => trivial⟩
    | _ => cases hv2
  obtain ⟨T2, e, hT2⟩ := hrun y
  obtain ⟨x, o', hr1, hkr⟩ := Xq ERc Zx8 pn 100 _ _ _ _ e
  unfold Kq at hkr
  split at hkr
  case h_2 => cases hkr
  rename_i H2
  split at hkr
  case h_2 => cases hkr
  rename_i T1 hd1
  split at hkr
  case h_2 => cases hkr
  rename_i k2 n2 hT1
  split at hkr
  case h_2 => cases hkr
  rename_i m2 Tr2 hrow
  simp only [Option.some.injEq, Prod.mk.injEq] at hkr
  obtain ⟨rfl, rfl, rfl, rfl, c1, c2⟩ := hkr
  have k9 : (kN 8 (di :: bi :: xs) [])[9]? = some bi := Xx (ng := 8) (j := 1) (ks := di :: bi :: xs) (xs := []) (by simp)
  have k8 : (kN 8 (di :: bi :: xs) [])[8]? = some di := Xx (ng := 8) (j := 0) (ks := di :: bi :: xs) (xs := []) (by simp)
  have b8 : mtN (kN 8 (di :: bi :: xs) []) [k2] H.next 8 = di := Zoy k8
  have kl : (kN 8 (di :: bi :: xs) []).length = 8 + (di :: bi :: xs).length := by rw [Zhp]; rfl
  have bk : mtN (kN 8 (di :: bi :: xs) []) [k2] H.next k2 = H.next := Zfr (j := 0) (by simp) rfl (by rw [kl]; exact hk)
  refine Zbj (E := ERc) (gl := gl) (nk := [k2]) (D := D) (pl := pl) (τ := τ) (θ := θ) (v := .tup []) (Z1g (fun _ _ _ h => h) (Zam gl)) (by kernel_rfl) hj hg hr hK ?_ ?_ hth hargs hr1 (by simp) ?_ ?_ ?_ ?_ ?_
  · simp [hl]
  · intro j u hu
    match j, hu with
    | 0, hu =>
      cases hu
      refine ⟨di, _, rfl, hd, .inr (.inl ⟨3, T, 47, none, 0, false, false, _, rfl, rfl, fun i z hz => ?_⟩)⟩
      rcases Tr.get_putAll _ hz with ⟨q, rfl, hq⟩ | ⟨_, hu⟩
      · rw [Nat.zero_add]
        match q, hq with
        | 0, hq =>
          cases hq
          refine ⟨_, h0, .inl ?_⟩
          have p9 := Qu (b := 0) hK.all k9
          simp only [Vq]
          rw [show Jm bi (kN ERc.ng (di :: bi :: xs) []) 0 = some (0 + 9) from p9]
        | 1, hq => cases hq; exact ⟨_, h1, .inl rfl⟩
        | 2, hq => cases hq; exact ⟨_, h2, hy1⟩
        | q + 3, hq => simp at hq
      · simp [Tr.get_nil] at hu
    | 1, hu =>
      cases hu
      exact ⟨bi, _, rfl, hb, hbS _ _ _ _ _⟩
    | j + 2, hu =>
      obtain ⟨_, i, o, a1, a2, a3⟩ := hex j u hu
      exact ⟨i, o, a1, a2, a3 _ _ _ _ _⟩
  · intro q hq
    rw [List.mem_singleton] at hq
    subst hq
    exact ⟨hk, _, hrow⟩
  · trivial
  · trivial
  · rfl
  · intro id p hp
    unfold Zxj at hp
    rcases AHeap.get_new hp with ⟨rfl, rfl⟩ | ⟨_, hp⟩
    · refine .inl ⟨k2, _, bk.symm, .inr (by simp), hrow, _, Tr2, bT L, 5, some 1, 0, false, rfl, rfl, fun i z hz => ?_⟩
      obtain ⟨a, n, rfl⟩ := Znp hT2 i z hz
      exact ⟨_, a, trivial, trivial, rfl⟩
    · obtain ⟨hnb, hp⟩ := AHeap.get_kill hp
      rcases AHeap.get_put hp with ⟨rfl, rfl⟩ | ⟨hnd, hp⟩
      · refine .inl ⟨8, _, b8.symm, .inl (by show 8 < 8 + _; simp), hd1, 3, T1, _, 47, none, 0, false, rfl, rfl, fun i z hz => ?_⟩
        rcases Tr.get_putAll _ hz with ⟨q, rfl, hq⟩ | ⟨_, hu⟩
        · rw [Nat.zero_add]
          match q, hq with
          | 0, hq =>
            cases hq
            exact ⟨_, hT1, .inr (by simp), trivial, (congrArg (fun i => AV.sl i 0 L.length none) bk).symm⟩
          | 1, hq => cases hq; exact ⟨_, c1, trivial, trivial, rfl⟩
          | 2, hq => cases hq; exact ⟨_, c2, hyR _, hy2, (hy3 _).symm⟩
          | q + 3, hq => simp at hq
        · simp [Tr.get_nil] at hu
      · refine .inr ⟨hp, fun j u hj2 hu => ?_⟩
        match j, hj2, hu with
        | 0, hj2, _ => simp only [List.getElem?_cons_zero, Option.some.injEq] at hj2; exact absurd hj2.symm hnd
        | 1, hj2, _ => simp only [List.getElem?_cons_succ, List.getElem?_cons_zero, Option.some.injEq] at hj2; exact absurd hj2.symm hnb
        | j + 2, _, hu => exact (hex j u hu).1
def by1 : AV → Bool
  | .int .u8 (.ofNat k) => Nat.blt k 256
  | _ => false
def byA (l : List AV) : Bool := l.all by1
def okB (cap g : Option Nat) (n m : Nat) (mk : Bool) : Bool := match cap, g, mk with
  | none, some 1, false => Nat.beq n m && Nat.ble m 50000
  | some 8, none, true => Nat.beq n 8 && Nat.beq m 8
  | _, _, _ => false
def slG (di bi x o n : Nat) (T : Tr AV) : Bool := Nat.blt n 1000 && (Nat.blt (Nat.add o n) 1099511627776 && (!(Nat.beq x di) && (!(Nat.beq x bi) && (Nat.ble 8 x && (Yj T o n && byA (Zc T o n))))))
def Zko (H : AHeap) (di bi : Nat) : AV → Option (List UInt8)
  | .nils => some []
  | .sl0 => some []
  | .sl _ _ 0 _ => some []
  | .sl x o (n + 1) _ => match H.get x with
    | some (.cells _ T _ _ _ _ _) => bif slG di bi x o (n + 1) T then some (Zd (Zc T o (n + 1))) else none
    | _ => none
  | _ => none
def Yy (di bi : Nat) (nm : List UInt8) (cap g : Option Nat) (n m : Nat) (mk : Bool) (Tb : Tr AV) (v2 : AV) : Bool := Nat.ble 8 di && (Nat.ble 8 bi && (!(Nat.beq di bi) && (okX v2 && (okB cap g n m mk && (Nat.ble nm.length 16 && (Yj Tb 0 m && byA (Zc Tb 0 m)))))))
def Ze0 (f : Nat) : Sm := fun g args H => match args with
  | [.ptr di 0, .str nm, dv] => bif Nat.beq g f then (match H.get di with
    | some (.cells 3 T 47 none 0 false false) => (match T.get 0, T.get 1, T.get 2 with
      | some (.sl bi 0 m cap), some (.str lo), some v2 => (match H.get bi with
        | some (.cells n Tb 5 g 0 false mk) => bif Yy di bi nm cap g n m mk Tb v2 then (match Zko H di bi dv with
          | some D => some (.tup [], Zxj H di bi lo v2 (Zg (Zd (Zc Tb 0 m)) nm D))
          | none => none) else none
        | _ => none)
      | _, _, _ => none)
    | _ => none) else none
  | _ => none
def Ztq {α : Type} (H : AHeap) (di bi : Nat) (k : List UInt8 → Option α) : AV → Option α
  | .nils => k []
  | .sl0 => k []
  | .sl _ _ 0 _ => k []
  | .sl x o (n + 1) _ => Zng (H.get x) fun T => bc (slG di bi x o (n + 1) T) (k (Zd (Zc T o (n + 1)))) none
  | _ => none
theorem Zms {α : Type} {H : AHeap} {di bi : Nat} {k : List UInt8 → Option α} {v : AV} {r : α} (h : Ztq H di bi k v = some r) : ∃ D, Zko H di bi v = some D ∧ k D = some r := by
  cases v <;> try (cases h; done)
  case nils => exact ⟨[], rfl, h⟩
  case sl0 => exact ⟨[], rfl, h⟩
  case sl x o n c =>
    cases n with
    | zero => exact ⟨[], rfl, h⟩
    | succ n =>
      simp only [Ztq, Zng] at h
      split at h
      case h_2 => cases h
      rename_i T _ _ _ _ _ hg
      obtain ⟨h1, h2⟩ := Zr h
      exact ⟨_, by simp only [Zko, hg, h1, cond_true], h2⟩
def Z0k {α : Type} (args : List AV) (H : AHeap) (k : AV → AHeap → Option α) : Option α := match args with
  | [.ptr di 0, .str nm, dv] => (match H.get di with
    | some (.cells 3 T 47 none 0 false false) => (match T.get 0, T.get 1, T.get 2 with
      | some (.sl bi 0 m cap), some (.str lo), some v2 => (match H.get bi with
        | some (.cells n Tb 5 g 0 false mk) => bc (Yy di bi nm cap g n m mk Tb v2) (Ztq H di bi (fun D => k (.tup []) (Zxj H di bi lo v2 (Zg (Zd (Zc Tb 0 m)) nm D))) dv) none
        | _ => none)
      | _, _, _ => none)
    | _ => none)
  | _ => none
theorem Zrc {α : Type} {f : Nat} {args : List AV} {H : AHeap} {k : AV → AHeap → Option α} {r : α} (h : Z0k args H k = some r) : ∃ v H', Ze0 f f args H = some (v, H') ∧ k v H' = some r := by
  unfold Z0k at h
  split at h
  case h_2 => cases h
  split at h
  case h_2 => cases h
  rename_i T hd
  split at h
  case h_2 => cases h
  rename_i bi m cap lo v2 h0 h1 h2
  split at h
  case h_2 => cases h
  rename_i n Tb g mk hb
  obtain ⟨hG, h⟩ := Zr h
  obtain ⟨D, hD, h⟩ := Zms h
  exact ⟨_, _, by simp only [Ze0, Nat.beq_refl, cond_true, hd, h0, h1, h2, hb, hG, hD], h⟩
theorem Zly : ∀ {l : List AV}, byA l = true → l = (Zd l).map Ze ∧ Wo l = some (Zd l)
  | [], _ => ⟨rfl, rfl⟩
  | v :: l, h => by
    unfold byA at h
    rw [List.all_cons, Bool.and_eq_true] at h
    obtain ⟨h1, h2⟩ := h
    obtain ⟨e1, e2⟩ := Zly (l := l) h2
    unfold by1 at h1
    split at h1
    case h_2 => cases h1
    rename_i k
    rw [Nat.blt_eq] at h1
    have e3 : Wo (.int .u8 (.ofNat k) :: l) = some (UInt8.ofNat k :: Zd l) := by
      simp only [Wo, e2]; rfl
    have e4 : Zd (.int .u8 (.ofNat k) :: l) = UInt8.ofNat k :: Zd l := by
      unfold Zd
      rw [e3]; rfl
    refine ⟨?_, by rw [e3, e4]⟩
    rw [e4, List.map_cons, ← e1]
    congr 1
    unfold Ze
    congr 1
    rw [UInt8.toNat_ofNat', Nat.mod_eq_of_lt (by omega)]
theorem Zbq : ∀ l : List UInt8, byA (l.map Ze) = true
  | [] => rfl
  | b :: l => by
    unfold byA
    rw [List.map_cons, List.all_cons, Bool.and_eq_true]
    refine ⟨?_, Zbq l⟩
    show Nat.blt b.toNat 256 = true
    exact Z4 b.toNat_lt
theorem Zad {T : Tr AV} {o n : Nat} (h1 : Yj T o n = true) (h2 : byA (Zc T o n) = true) : T.getAll o n = some ((Zd (Zc T o n)).map Ze) ∧ (Zd (Zc T o n)).length = n := by
  have a := Zjl h1
  have b := (Zly h2).1
  refine ⟨by rw [← b]; exact a, ?_⟩
  have c := Zcf a
  rw [b, List.length_map] at c
  exact c
theorem Zoq {T : Tr AV} {n : Nat} {L : List UInt8} (h : T.getAll 0 n = some (L.map Ze)) : Xt T L := fun i b hi => by
  have hl : i < L.length := (List.getElem?_eq_some_iff.1 hi).1
  have hn : L.length = n := by have := Zcf h; rwa [List.length_map] at this
  have := Zcj h i (by omega)
  rw [Nat.zero_add, List.getElem?_map, hi] at this
  exact this
theorem V7 {K : List Nat} {D : Nat → Prop} {pl : Nat → Nat × Nat} {τ : Nat → AV} {θ : Nat → Tag} {id n : Nat} {T : Tr AV} {L : List UInt8} {e : TypeId} {g : Option Nat} {fz : Nat} {ro mk : Bool} (h : Xt T L) : Zas K D pl τ θ id (.cells n T e g fz ro mk) (.cells n (bT L) e g fz ro mk) :=
  .inr (.inl ⟨_, _, _, _, _, _, _, _, rfl, rfl, fun i y hy => by
    obtain ⟨a, k, rfl⟩ := Znp h i y hy
    exact ⟨_, a, .inl rfl⟩⟩)
theorem Y3 {K : List Nat} {D : Nat → Prop} {pl : Nat → Nat × Nat} {τ : Nat → AV} {θ : Nat → Tag} {id n o : Nat} {T : Tr AV} {L : List UInt8} {e : TypeId} {g : Option Nat} {fz : Nat} {ro mk : Bool} (h : T.getAll o L.length = some (L.map Ze)) : Zas K D pl τ θ id (.cells n T e g fz ro mk) (.cells n (Tr.nil.putAll o (L.map Ze)) 0 none 0 true false) :=
  .inr (.inr ⟨_, _, _, _, _, _, _, _, _, _, _, _, rfl, rfl, .inl rfl, fun i y hy => by
    rcases Tr.get_putAll _ hy with ⟨q, rfl, hq⟩ | ⟨_, hu⟩
    · have hq2 : q < L.length := by have := (List.getElem?_eq_some_iff.1 hq).1; rwa [List.length_map] at this
      refine ⟨y, by rw [Zcj h q hq2]; exact hq, .inl ?_⟩
      rw [List.getElem?_map] at hq
      obtain ⟨b, _, rfl⟩ := Option.map_eq_some_iff.1 hq
      rfl
    · simp [Tr.get_nil] at hu⟩)
theorem Zd1 {M : List MEnt} {ks : List Nat} {j i : Nat} (hlt : ∀ i ∈ kN 8 ks [], i < M.length) (h : ks[j]? = some i) : (Wa (kN 8 ks []) M)[8 + j]? = M[i]? := by
  have := Jv hlt (8 + j) i (by rw [Xx (List.getElem?_eq_some_iff.1 h).1]; exact h)
  rwa [Nat.zero_add] at this
theorem Zu2 {M M2 : List MEnt} {i k o n : Nat} {cap : Option Nat} {cv : Value} (he : M2[k]? = M[i]?) (h : Zm M (.sl i o n cap) cv) : ∃ c, Zm M2 (.sl k o n (some c)) cv := by
  obtain ⟨m, c, hm, rfl, h1, h2⟩ := h
  exact ⟨c, m, c, by rw [he]; exact hm, rfl, (fun d e => by cases e; rfl), (fun e => by cases e)⟩
theorem Zkc {M M2 : List MEnt} {i k o : Nat} {cv : Value} (he : M2[k]? = M[i]?) (h : Zm M (.ptr i o) cv) : Zm M2 (.ptr k o) cv := by
  obtain ⟨m, hm, rfl⟩ := h
  exact ⟨m, by rw [he]; exact hm, rfl⟩
theorem Znz {H : AHeap} {di bi : Nat} {dv : AV} {D : List UInt8} (h : Zko H di bi dv = some D) : (dv = .nils ∧ D = []) ∨ (D = [] ∧ (dv = .sl0 ∨ ∃ x o c, dv = .sl x o 0 c)) ∨
    ∃ x o cp T n e g fz ro mk, dv = .sl x o D.length cp ∧ H.get x = some (.cells n T e g fz ro mk) ∧ 0 < D.length ∧ slG di bi x o D.length T = true ∧ T.getAll o D.length = some (D.map Ze) := by
  unfold Zko at h
  split at h
  · simp only [Option.some.injEq] at h; exact .inl ⟨rfl, h.symm⟩
  · simp only [Option.some.injEq] at h; exact .inr (.inl ⟨h.symm, .inl rfl⟩)
  · simp only [Option.some.injEq] at h; exact .inr (.inl ⟨h.symm, .inr ⟨_, _, _, rfl⟩⟩)
  · rename_i x o n cp
    split at h
    case h_2 => cases h
    rename_i m T e g fz ro mk hg
    rw [Bool.cond_eq_ite] at h
    split at h
    case isFalse => cases h
    rename_i hG
    simp only [Option.some.injEq] at h
    have hG2 := hG
    unfold slG at hG2
    simp only [Bool.and_eq_true] at hG2
    obtain ⟨_, _, _, _, _, q1, q2⟩ := hG2
    obtain ⟨b1, b2⟩ := Zad q1 q2
    subst h
    rw [b2]
    exact .inr (.inr ⟨x, o, cp, T, m, e, g, fz, ro, mk, rfl, hg, Nat.succ_pos _, hG, b1⟩)
  · cases h
theorem Zdw {cap g : Option Nat} {n m : Nat} {mk : Bool} (h : okB cap g n m mk = true) : (cap = none ∧ g = some 1 ∧ mk = false ∧ m = n ∧ n ≤ 50000) ∨ (cap = some 8 ∧ g = none ∧ mk = true ∧ n = 8 ∧ m = 8) := by
  unfold okB at h
  split at h
  · simp only [Bool.and_eq_true, Nat.beq_eq, Nat.ble_eq] at h
    exact .inl ⟨rfl, rfl, rfl, h.1.symm, by omega⟩
  · simp only [Bool.and_eq_true, Nat.beq_eq] at h
    exact .inr ⟨rfl, rfl, rfl, h.1, h.2⟩
  · cases h
theorem Z0d : Zds Tryz.prog gl 8 (Ze0 25) := by
  intro g args H v H' M w cargs hs hj hg hr ha
  unfold Ze0 at hs
  split at hs
  case h_2 => cases hs
  rename_i di nm dv
  cases hbf : Nat.beq g 25 with
  | false => rw [hbf] at hs; cases hs
  | true =>
  rw [hbf] at hs
  rw [Nat.beq_eq] at hbf
  subst hbf
  simp only [cond_true] at hs
  split at hs
  case h_2 => cases hs
  rename_i T hd
  split at hs
  case h_2 => cases hs
  rename_i bi m cap lo v2 h0 h1 h2
  split at hs
  case h_2 => cases hs
  rename_i n Tb gb mk hb
  rw [Bool.cond_eq_ite] at hs
  split at hs
  case isFalse => cases hs
  rename_i hG
  split at hs
  case h_2 => cases hs
  rename_i D hD
  simp only [Option.some.injEq, Prod.mk.injEq] at hs
  obtain ⟨rfl, rfl⟩ := hs
  unfold Yy at hG
  simp only [Bool.and_eq_true, Bool.not_eq_true', Nat.ble_eq] at hG
  obtain ⟨g1, g2, g3, g4, g5, g6, g7, g8⟩ := hG
  have hne : di ≠ bi := by rintro rfl; rw [Nat.beq_refl] at g3; cases g3
  obtain ⟨b1, bl⟩ := Zad g7 g8
  generalize Zd (Zc Tb 0 m) = B at b1 bl ⊢
  have hB := Zoq b1
  have ltn : ∀ {i o}, H.get i = some o → i < H.next := fun e => by have := hr.lt e; rwa [hr.len] at this
  have two : ∀ {x : Nat}, x ≠ di → x ≠ bi → (di :: bi :: [x]).Nodup := fun h1 h2 => by
    simp only [List.nodup_cons, List.mem_cons, List.not_mem_nil, or_false, not_or, not_false_eq_true, List.nodup_nil, and_true]
    exact ⟨⟨hne, fun e => h1 e.symm⟩, fun e => h2 e.symm⟩
  match cargs, ha with
  | [c0, c1, c2], ⟨a0, a1, a2, _⟩ =>
  have one : (di :: bi :: []).Nodup := by
    simp only [List.nodup_cons, List.mem_cons, List.not_mem_nil, or_false, not_false_eq_true, List.nodup_nil, and_true]
    exact hne
  have lt2 : ∀ i ∈ di :: bi :: [], 8 ≤ i ∧ i < H.next := fun i hi => by
    simp only [List.mem_cons, List.not_mem_nil, or_false] at hi
    rcases hi with rfl | rfl
    · exact ⟨g1, ltn hd⟩
    · exact ⟨g2, ltn hb⟩
  have ltM : ∀ {ks : List Nat}, (∀ i ∈ ks, 8 ≤ i ∧ i < H.next) → ∀ i ∈ kN 8 ks [], i < M.length := fun hks i hi => by
    rw [hr.len]
    unfold kN at hi
    rcases List.mem_append.1 hi with hi | hi
    · rw [List.mem_range] at hi
      have := ltn hd
      omega
    · exact (hks i (by simpa using hi)).2
  rcases Znz hD with ⟨rfl, rfl⟩ | ⟨rfl, hz⟩ | ⟨x, o, cp, Tx, nx, ex, gx, fx, rx, mx, rfl, hx, hk, hs, hx2⟩
  · have p0 := Zkc (k := 8) (Zd1 (ltM lt2) (j := 0) rfl) a0
    rcases Zdw g5 with ⟨rfl, rfl, rfl, rfl, hm⟩ | ⟨rfl, rfl, rfl, rfl, rfl⟩
    · rcases Nat.mod_two_eq_zero_or_one m with hp | hp
      · exact Qa (xs := []) (ex := []) (args := [.ptr 8 0, .str nm, .nils]) (k := 10) (pn := Vp [(19, 0), (31, 0), (33, 2)]) (o := [false]) hj hg hr hd h0 h1 h2 g4 hb (fun _ _ _ _ _ => V7 hB) one lt2 rfl (fun j u hu => by simp at hu) ⟨p0, a1, a2, trivial⟩ (fun y => Zwf bl hm hp g6) (by show 8 + 2 ≤ 10; decide)
      · exact Qa (xs := []) (ex := []) (args := [.ptr 8 0, .str nm, .nils]) (k := 12) (pn := Vp [(19, 0), (31, 0), (33, 2)]) (o := [true]) hj hg hr hd h0 h1 h2 g4 hb (fun _ _ _ _ _ => V7 hB) one lt2 rfl (fun j u hu => by simp at hu) ⟨p0, a1, a2, trivial⟩ (fun y => Zx2 bl hm hp g6) (by show 8 + 2 ≤ 12; decide)
    · exact Qa (xs := []) (ex := []) (args := [.ptr 8 0, .str nm, .nils]) (k := 10) (pn := Vp [(19, 0), (31, 0), (33, 2)]) (o := []) hj hg hr hd h0 h1 h2 g4 hb (fun _ _ _ _ _ => V7 hB) one lt2 rfl (fun j u hu => by simp at hu) ⟨p0, a1, a2, trivial⟩ (fun y => Zwx bl g6) (by show 8 + 2 ≤ 10; decide)
  · have p0 := Zkc (k := 8) (Zd1 (ltM lt2) (j := 0) rfl) a0
    have hz2 : Zm (Wa (kN 8 (di :: bi :: []) []) M) .sl0 c2 := by
      rcases hz with rfl | ⟨x, o, c, rfl⟩
      · exact a2
      · obtain ⟨_, _, _, rfl, _⟩ := a2
        exact ⟨_, _, rfl⟩
    rcases Zdw g5 with ⟨rfl, rfl, rfl, rfl, hm⟩ | ⟨rfl, rfl, rfl, rfl, rfl⟩
    · rcases Nat.mod_two_eq_zero_or_one m with hp | hp
      · exact Qa (xs := []) (ex := []) (args := [.ptr 8 0, .str nm, .sl0]) (k := 10) (pn := Vp [(19, 0), (31, 0), (33, 2)]) (o := [false]) hj hg hr hd h0 h1 h2 g4 hb (fun _ _ _ _ _ => V7 hB) one lt2 rfl (fun j u hu => by simp at hu) ⟨p0, a1, hz2, trivial⟩ (fun y => Zwp bl hm hp g6) (by show 8 + 2 ≤ 10; decide)
      · exact Qa (xs := []) (ex := []) (args := [.ptr 8 0, .str nm, .sl0]) (k := 12) (pn := Vp [(19, 0), (31, 0), (33, 2)]) (o := [true]) hj hg hr hd h0 h1 h2 g4 hb (fun _ _ _ _ _ => V7 hB) one lt2 rfl (fun j u hu => by simp at hu) ⟨p0, a1, hz2, trivial⟩ (fun y => Zvs bl hm hp g6) (by show 8 + 2 ≤ 12; decide)
    · exact Qa (xs := []) (ex := []) (args := [.ptr 8 0, .str nm, .sl0]) (k := 10) (pn := Vp [(19, 0), (31, 0), (33, 2)]) (o := []) hj hg hr hd h0 h1 h2 g4 hb (fun _ _ _ _ _ => V7 hB) one lt2 rfl (fun j u hu => by simp at hu) ⟨p0, a1, hz2, trivial⟩ (fun y => Zxl bl g6) (by show 8 + 2 ≤ 10; decide)
  · unfold slG at hs
    simp only [Bool.and_eq_true, Bool.not_eq_true', Nat.ble_eq, Nat.blt_eq] at hs
    obtain ⟨hD2, hO1, q1, q2, q3, _, _⟩ := hs
    have hO : o + D.length < 2 ^ 46 := Nat.lt_of_lt_of_le hO1 (by decide)
    have hxd : x ≠ di := by rintro rfl; rw [Nat.beq_refl] at q1; cases q1
    have hxb : x ≠ bi := by rintro rfl; rw [Nat.beq_refl] at q2; cases q2
    have lt3 : ∀ i ∈ di :: bi :: [x], 8 ≤ i ∧ i < H.next := fun i hi => by
      simp only [List.mem_cons, List.not_mem_nil, or_false] at hi
      rcases hi with rfl | rfl | rfl
      · exact ⟨g1, ltn hd⟩
      · exact ⟨g2, ltn hb⟩
      · exact ⟨q3, ltn hx⟩
    have p0 := Zkc (k := 8) (Zd1 (ltM lt3) (j := 0) rfl) a0
    obtain ⟨c, hc⟩ := Zu2 (k := 10) (Zd1 (ltM lt3) (j := 2) rfl) a2
    rcases Zdw g5 with ⟨rfl, rfl, rfl, rfl, hm⟩ | ⟨rfl, rfl, rfl, rfl, rfl⟩
    · rcases Nat.mod_two_eq_zero_or_one m with hp | hp
      · exact Qa (xs := [x]) (ex := [.cells nx (Tr.nil.putAll o (D.map Ze)) 0 none 0 true false]) (args := [.ptr 8 0, .str nm, .sl 10 o D.length (some c)]) (k := 12) (pn := Vp [(19, 0), (31, 0), (33, 0)]) (o := [false]) hj hg hr hd h0 h1 h2 g4 hb (fun _ _ _ _ _ => V7 hB) (two hxd hxb) lt3 rfl (fun j u hu => by match j, hu with | 0, hu => cases hu; exact ⟨rfl, x, _, rfl, hx, fun _ _ _ _ _ => Y3 hx2⟩ | j + 1, hu => simp at hu) ⟨p0, a1, hc, trivial⟩ (fun y => Zwj bl hm hp g6 ⟨hk, hD2⟩ hO) (by show 8 + 3 ≤ 12; decide)
      · exact Qa (xs := [x]) (ex := [.cells nx (Tr.nil.putAll o (D.map Ze)) 0 none 0 true false]) (args := [.ptr 8 0, .str nm, .sl 10 o D.length (some c)]) (k := 14) (pn := Vp [(19, 0), (31, 0), (33, 0)]) (o := [true]) hj hg hr hd h0 h1 h2 g4 hb (fun _ _ _ _ _ => V7 hB) (two hxd hxb) lt3 rfl (fun j u hu => by match j, hu with | 0, hu => cases hu; exact ⟨rfl, x, _, rfl, hx, fun _ _ _ _ _ => Y3 hx2⟩ | j + 1, hu => simp at hu) ⟨p0, a1, hc, trivial⟩ (fun y => Zv5 bl hm hp g6 ⟨hk, hD2⟩ hO) (by show 8 + 3 ≤ 14; decide)
    · exact Qa (xs := [x]) (ex := [.cells nx (Tr.nil.putAll o (D.map Ze)) 0 none 0 true false]) (args := [.ptr 8 0, .str nm, .sl 10 o D.length (some c)]) (k := 12) (pn := Vp [(19, 0), (31, 0), (33, 0)]) (o := []) hj hg hr hd h0 h1 h2 g4 hb (fun _ _ _ _ _ => V7 hB) (two hxd hxb) lt3 rfl (fun j u hu => by match j, hu with | 0, hu => cases hu; exact ⟨rfl, x, _, rfl, hx, fun _ _ _ _ _ => Y3 hx2⟩ | j + 1, hu => simp at hu) ⟨p0, a1, hc, trivial⟩ (fun y => Zw2 bl g6 ⟨hk, hD2⟩ hO) (by show 8 + 3 ≤ 12; decide)
  | [], ha => exact ha.elim
  | [_], ha => exact ha.2.elim
  | [_, _], ha => exact ha.2.2.elim
  | _ :: _ :: _ :: _ :: _, ha => exact ha.2.2.2.elim
end
end Go.Proofs.YtmppdannkpdpmaaGreatDoor
