/- The document's Cut: a text's lines. -/
import Derived.Test.YtdpkmhnpbbapcaaDoorRfLine
import Derived.Test.YtdpkmhnpbbapcaaDoorVaiSplit
import Derived.KernelRfl
namespace Go.Proofs.YtdpkmhnpbbapcaaDoor
open Go Go.Vai
noncomputable section
set_option maxRecDepth 100000
def Ki (L : List (List UInt8)) : Tr AV := Tr.nil.putAll 0 (L.map .str)
abbrev Zr1 (L : List (List UInt8)) : AObj := .cells L.length (Ki L) 9 (some 1) 0 false false
def rcV : List (List UInt8) → AV
  | [] => .nils
  | p :: L => .sl 8 0 (p :: L).length none
def rcO : List (List UInt8) → List AObj
  | [] => []
  | p :: L => [Zr1 (p :: L)]
theorem Zp4 (L : List (List UInt8)) : ∀ i y, (Ki L).get i = some y → J9 y = true := fun i y h => by
  rcases Tr.get_putAll _ h with ⟨q, _, h2⟩ | ⟨_, h2⟩
  · have hm := List.mem_of_getElem? h2
    obtain ⟨b, _, rfl⟩ := List.mem_map.1 hm
    rfl
  · simp [Tr.get_nil] at h2
theorem Zv3 (L : List (List UInt8)) : Za4 (Ki L) := fun i y h => Ji (Zp4 L i y h)
theorem Zjk {keep : List Nat} (L : List (List UInt8)) : ∀ (j : Nat) o o2, (rcO L)[j]? = some o → (rcO L)[j]? = some o2 → We 0 keep o o2 := Yy fun o ho => by
  cases L with
  | nil => cases ho
  | cons p L =>
    obtain rfl := List.mem_singleton.1 ho
    exact ⟨_, _, _, _, _, _, _, rfl, Zv3 _⟩
theorem Zz1 (L : List (List UInt8)) (x : List UInt8) : Tr.putAll (Ki L) L.length [.str x] = Ki (L ++ [x]) := by
  unfold Ki
  rw [List.map_append, Jr, List.length_map, Nat.zero_add]; rfl
theorem Z3b (L : List (List UInt8)) (x : List UInt8) : rcV (L ++ [x]) = .sl 8 0 (L.length + 1) none := by
  cases L with
  | nil => rfl
  | cons q L =>
    show AV.sl _ _ (q :: (L ++ [x])).length _ = _
    simp
theorem Z0j (L : List (List UInt8)) (x : List UInt8) : rcO (L ++ [x]) = [.cells (L.length + 1) (Ki (L ++ [x])) 9 (some 1) 0 false false] := by
  cases L with
  | nil => rfl
  | cons d L =>
    show [Zr1 (d :: (L ++ [x]))] = _
    simp [Zr1]
def rcS : List Nat := [0, 2, 3, 4, 5]
def rcF (s : List UInt8) (L : List (List UInt8)) (f i : Nat) : List AV := [.str s, .nils, rcV L, .int .i64 (.ofNat f), .int .i64 (.ofNat i)]
def Zc3 : AFunc := (Yb.fn 12).getD default
theorem Z55 : Yb.fn 12 = some Zc3 := by kernel_rfl
theorem Zvp : flat Zc3.body = (flat Zc3.body).take 4 ++ .block 0 (.loop (Zc [4, 0] Zc3.body)) :: (flat Zc3.body).drop 5 := by kernel_rfl
theorem Z4a : Zc3.results = [2].map .tmp := by kernel_rfl
theorem Yeh (s : List UInt8) : Zu Yb (Yw Yb 3) ((flat Zc3.body).take 4) (Yj 8 [0, 2, 3, 4, 5] [0, 1, 2, 3, 4, 5, 6, 7]) (Z8 Zc3 [.str s]) (Zs 8 []) = lf .normal 32 ([.str s, .nils, .nils, .int .i64 (.ofNat 0), .int .i64 (.ofNat 0)].map some) ([].map some) := by kernel_rfl
theorem Zmz (s : List UInt8) (f i : Nat) : Zu Yb (Yw Yb 3) (flat (Zc [4, 0] Zc3.body)) (Jw 8 [0, 2, 3, 4, 5] [(8, [0, 1, 2, 3, 4, 5, 6, 7]), (10, [0, 1, 2, 3, 4, 5, 6, 7, 9])]) (Zd 32 [0, 2, 3, 4, 5] [.str s, .nils, .nils, .int .i64 (.ofNat f), .int .i64 (.ofNat i)]) (Zs 8 []) = bc (!(Nat.blt (Zb s) i)) (bc (Nat.beq i (Zb s)) (bc (Nat.ble i (Zb s)) (bc (Nat.ble f i) (lf .normal 32 ([.str s, .nils, .sl 8 0 1 none, .int .i64 (up i), .int .i64 (up i)].map some) ([.cells 1 ((Tr.nil.putAll 0 [.str (List.take (Nat.sub i f) (List.drop f s))])) 9 (some 1) 0 false false].map some)) (none)) (none)) (bc (Nat.blt i (Zb s)) (bc (Nat.beq (UInt8.toNat (Za s i)) 10) (bc (Nat.ble i (Zb s)) (bc (Nat.ble f i) (lf .normal 32 ([.str s, .nils, .sl 8 0 1 none, .int .i64 (up i), .int .i64 (up i)].map some) ([.cells 1 ((Tr.nil.putAll 0 [.str (List.take (Nat.sub i f) (List.drop f s))])) 9 (some 1) 0 false false].map some)) (none)) (none)) (lf .normal 32 ([.str s, .nils, .nils, .int .i64 (.ofNat f), .int .i64 (up i)].map some) ([].map some))) (none))) (lf (.exit 0) 32 ([.str s, .nils, .nils, .int .i64 (.ofNat f), .int .i64 (.ofNat i)].map some) ([].map some)) := by kernel_rfl
theorem Znm (s : List UInt8) (f i n : Nat) (T : Tr AV) : Zu Yb (Yw Yb 3) (flat (Zc [4, 0] Zc3.body)) (Jw 8 [0, 2, 3, 4, 5] [(9, [0, 1, 2, 3, 4, 5, 6, 7, 8]), (11, [0, 1, 2, 3, 4, 5, 6, 7, 10])]) (Zd 32 [0, 2, 3, 4, 5] [.str s, .nils, .sl 8 0 n none, .int .i64 (.ofNat f), .int .i64 (.ofNat i)]) (Zs 8 [.cells n T 9 (some 1) 0 false false]) = bc (!(Nat.blt (Zb s) i)) (bc (Nat.beq i (Zb s)) (bc (Nat.ble i (Zb s)) (bc (Nat.ble f i) (bc (Nat.blt (Nat.mul n 1) n) (bc (Vl T 0 (Nat.mul n 1)) (bc (Nat.beq (Nat.mul n 1) (Nat.mul n 1)) (bc (Zz (Nat.succ n) 16) (lf .normal 32 ([.str s, .nils, .sl 8 0 (Nat.succ n) none, .int .i64 (up i), .int .i64 (up i)].map some) ([.cells (Nat.succ (Nat.mul n 1)) (Tr.putAll (Tr.putAll Tr.nil 0 (Wo T 0 (Nat.mul n 1))) (Nat.mul n 1) [.str (List.take (Nat.sub i f) (List.drop f s))]) 9 (some 1) 0 false false].map some)) (none)) (none)) (none)) (bc (Nat.beq n (Nat.mul n 1)) (bc (Zz (Nat.succ n) 16) (lf .normal 32 ([.str s, .nils, .sl 8 0 (Nat.succ n) none, .int .i64 (up i), .int .i64 (up i)].map some) ([.cells (Nat.succ n) (Tr.putAll T n [.str (List.take (Nat.sub i f) (List.drop f s))]) 9 (some 1) 0 false false].map some)) (none)) (none))) (none)) (none)) (bc (Nat.blt i (Zb s)) (bc (Nat.beq (UInt8.toNat (Za s i)) 10) (bc (Nat.ble i (Zb s)) (bc (Nat.ble f i) (bc (Nat.blt (Nat.mul n 1) n) (bc (Vl T 0 (Nat.mul n 1)) (bc (Nat.beq (Nat.mul n 1) (Nat.mul n 1)) (bc (Zz (Nat.succ n) 16) (lf .normal 32 ([.str s, .nils, .sl 8 0 (Nat.succ n) none, .int .i64 (up i), .int .i64 (up i)].map some) ([.cells (Nat.succ (Nat.mul n 1)) (Tr.putAll (Tr.putAll Tr.nil 0 (Wo T 0 (Nat.mul n 1))) (Nat.mul n 1) [.str (List.take (Nat.sub i f) (List.drop f s))]) 9 (some 1) 0 false false].map some)) (none)) (none)) (none)) (bc (Nat.beq n (Nat.mul n 1)) (bc (Zz (Nat.succ n) 16) (lf .normal 32 ([.str s, .nils, .sl 8 0 (Nat.succ n) none, .int .i64 (up i), .int .i64 (up i)].map some) ([.cells (Nat.succ n) (Tr.putAll T n [.str (List.take (Nat.sub i f) (List.drop f s))]) 9 (some 1) 0 false false].map some)) (none)) (none))) (none)) (none)) (lf .normal 32 ([.str s, .nils, .sl 8 0 n none, .int .i64 (.ofNat f), .int .i64 (up i)].map some) ([.cells n T 9 (some 1) 0 false false].map some))) (none))) (lf (.exit 0) 32 ([.str s, .nils, .sl 8 0 n none, .int .i64 (.ofNat f), .int .i64 (.ofNat i)].map some) ([.cells n T 9 (some 1) 0 false false].map some)) := by kernel_rfl
theorem Yey (s : List UInt8) (f i n : Nat) (T : Tr AV) : Zu Yb (Yw Yb 3) ((flat Zc3.body).drop 5) (Yj 8 [2] [0, 1, 2, 3, 4, 5, 6, 7, 8]) (Zd 32 [0, 2, 3, 4, 5] [.str s, .nils, .sl 8 0 n none, .int .i64 (.ofNat f), .int .i64 (.ofNat i)]) (Zs 8 [.cells n T 9 (some 1) 0 false false]) = lf .ret 32 ([.sl 8 0 n none].map some) ([.cells n T 9 (some 1) 0 false false].map some) := by kernel_rfl
def rcK (L : List (List UInt8)) : KC Leaf := Jw 8 rcS (match L with | [] => [(8, [0, 1, 2, 3, 4, 5, 6, 7]), (10, [0, 1, 2, 3, 4, 5, 6, 7, 9])] | _ :: _ => [(9, [0, 1, 2, 3, 4, 5, 6, 7, 8]), (11, [0, 1, 2, 3, 4, 5, 6, 7, 10])])
def rcR (s : List UInt8) (L : List (List UInt8)) (f i : Nat) : Option Leaf := Zu Yb (Yw Yb 3) (flat (Zc [4, 0] Zc3.body)) (rcK L) (Zd 32 rcS (rcF s L f i)) (Zs 8 (rcO L))
theorem Yeg {L : List (List UInt8)} (hL : L.length < 4294967296) : Nat.blt (Nat.mul L.length 1) L.length = false ∧ Nat.beq L.length (Nat.mul L.length 1) = true ∧ Zz (Nat.succ L.length) 16 = true := by
  refine ⟨Yg (by rw [show Nat.mul L.length 1 = L.length from Nat.mul_one _]; omega), Zat (Nat.mul_one _).symm, ?_⟩
  unfold Zz
  rw [Bool.or_eq_true, Bool.and_eq_true, Nat.ble_eq, Nat.ble_eq, Nat.ble_eq]; right; omega
section
variable {s : List UInt8} {L : List (List UInt8)} {f i : Nat} (hs : s.length < 4294967296) (hL : L.length < 4294967296)
theorem Ye3 (h : s.length < i) : rcR s L f i = lf (.exit 0) 32 ((rcF s L f i).map some) ((rcO L).map some) := by
  have h1 : Nat.blt (Zb s) i = true := Zm (show s.length < i from h)
  cases L with
  | nil => exact (Zmz s f i).trans (by rw [h1]; rfl)
  | cons c L => exact (Znm s f i _ _).trans (by rw [h1]; rfl)
include hs
theorem Yg3 (h : i < s.length) (h2 : Nat.beq (Za s i).toNat 10 = false) : rcR s L f i = lf .normal 32 ((rcF s L f (i + 1)).map some) ((rcO L).map some) := by
  have h1 : Nat.blt (Zb s) i = false := Yg (show ¬ s.length < i by omega)
  have h3 : Nat.beq i (Zb s) = false := J2 (show ¬ i = s.length by omega)
  have h4 : Nat.blt i (Zb s) = true := Zm h
  have hu := Yv (k := i) (by omega)
  cases L with
  | nil => exact (Zmz s f i).trans (by rw [h1, h3, h4, h2, hu]; rfl)
  | cons c L => exact (Znm s f i _ _).trans (by rw [h1, h3, h4, h2, hu]; rfl)
include hL
theorem Yb9 (hf : f ≤ i) (h : i ≤ s.length) (h2 : i < s.length → Nat.beq (Za s i).toNat 10 = true) : rcR s L f i = lf .normal 32 ((rcF s (L ++ [(s.drop f).take (i - f)]) (i + 1) (i + 1)).map some) ((rcO (L ++ [(s.drop f).take (i - f)])).map some) := by
  have h1 : Nat.blt (Zb s) i = false := Yg (show ¬ s.length < i by omega)
  have h5 : Nat.ble i (Zb s) = true := Yn h
  have h6 : Nat.ble f i = true := Yn hf
  have hu := Yv (k := i) (by omega)
  obtain ⟨e5, e6, e7⟩ := Yeg hL
  have b := Zz1 L ((s.drop f).take (i - f))
  unfold rcF
  rw [Z3b, Z0j]
  by_cases h3 : i = s.length
  · have h3' : Nat.beq i (Zb s) = true := Zat (show i = s.length from h3)
    cases L with
    | nil => exact (Zmz s f i).trans (by rw [h1, h3', h5, h6, hu]; rfl)
    | cons c L => exact (Znm s f i _ _).trans (by rw [h1, h3', h5, h6, hu, e5, e6, e7, ← b]; rfl)
  · have h3' : Nat.beq i (Zb s) = false := J2 (show ¬ i = s.length from h3)
    have h4 : Nat.blt i (Zb s) = true := Zm (show i < s.length by omega)
    have h7 := h2 (by omega)
    cases L with
    | nil => exact (Zmz s f i).trans (by rw [h1, h3', h4, h7, h5, h6, hu]; rfl)
    | cons c L => exact (Znm s f i _ _).trans (by rw [h1, h3', h4, h7, h5, h6, hu, e5, e6, e7, ← b]; rfl)
end
theorem Ye0 : Zde 8 [(8, [0, 1, 2, 3, 4, 5, 6, 7]), (10, [0, 1, 2, 3, 4, 5, 6, 7, 9])] = true := by decide
theorem Ydt : Zde 8 [(9, [0, 1, 2, 3, 4, 5, 6, 7, 8]), (11, [0, 1, 2, 3, 4, 5, 6, 7, 10])] = true := by decide
section
variable {P : Program} {I : List MEnt → AHeap → World → Prop} {ro : Option Nat}
theorem Zm9 (hE : EnvOk Yb P I) {s : List UInt8} {L L2 : List (List UInt8)} {f i : Nat} {e : AExit} {vs : List AV} {Q : TQ} (h : rcR s L f i = lf e 32 (vs.map some) ((rcO L2).map some)) (hm : ∀ fr' H' keep, Ren 8 keep fr' H' (Zd 32 rcS vs) (Zs 8 (rcO L2)) → Q e fr' H') : Zg Yb P I ro (flat (Zc [4, 0] Zc3.body)) (Zd 32 rcS (rcF s L f i)) (Zs 8 (rcO L)) Q := by
  unfold rcR rcK at h
  cases L with
  | nil => exact Zg.leafFC hE (Vu Yb 3) h Ye0 rfl (fun keep _ => Zjk L2) hm
  | cons c L => exact Zg.leafFC hE (Vu Yb 3) h Ydt rfl (fun keep _ => Zjk L2) hm
def rcI (s : List UInt8) (x : List (List UInt8) × Nat × Nat) : Prop := x.1.length ≤ x.2.2 ∧ ((x.2.1 ≤ s.length ∧ x.2.1 ≤ x.2.2 ∧ x.2.2 ≤ x.2.1 + Zi (V4 10) (s.drop x.2.1) ∧ Zl 10 s = x.1 ++ Zl 10 (s.drop x.2.1)) ∨ (x.2.2 = s.length + 1 ∧ Zl 10 s = x.1))
theorem Z9y (c : UInt8) : V4 10 c = !(Nat.beq c.toNat 10) := rfl
theorem Z8i (hE : EnvOk Yb P I) (hI : Carried I) {s : List UInt8} (hs : s.length < 4294967290) : Yk Yb P I ro (.loop (Zc [4, 0] Zc3.body)) (Zd 32 rcS (rcF s [] 0 0)) (Zs 8 (rcO [])) fun e fr H => e = .exit 0 ∧ ∃ f i keep, Ren 8 keep fr H (Zd 32 rcS (rcF s (Zl 10 s) f i)) (Zs 8 (rcO (Zl 10 s))) := by
  refine Yk.loop (X := List (List UInt8) × Nat × Nat) (fr := fun x => Zd 32 rcS (rcF s x.1 x.2.1 x.2.2)) (H := fun x => Zs 8 (rcO x.1)) (Inv := rcI s) (fun x => s.length + 1 - x.2.2) hI ?_ ([], 0, 0) ⟨Nat.le_refl _, .inl ⟨Nat.zero_le _, Nat.le_refl _, Nat.zero_le _, rfl⟩⟩
  rintro ⟨L, f, i⟩ ⟨i1, i2⟩
  simp only at i1 i2
  refine Z0 _ ?_
  rcases i2 with ⟨a1, a2, a3, a4⟩ | ⟨rfl, a4⟩
  · have hrl := X4 (V4 10) (s.drop f)
    rw [List.length_drop] at hrl
    have hL : L.length < 4294967296 := by omega
    by_cases h : i < f + Zi (V4 10) (s.drop f)
    · have hp := Zav (p := V4 10) (s := s.drop f) (k := i - f) (by omega)
      rw [Y7, show f + (i - f) = i by omega, Z9y, Bool.not_eq_true'] at hp
      exact Zm9 hE (Yg3 (L := L) (f := f) (i := i) (by omega) (by omega) hp) fun fr' H' keep r => .inl ⟨rfl, (L, f, i + 1), keep, ⟨by simp only; omega, .inl ⟨a1, by simp only; omega, by simp only; omega, a4⟩⟩, by simp only; omega, r⟩
    · obtain rfl : i = f + Zi (V4 10) (s.drop f) := by omega
      have hc := Zmy 10 (s.drop f)
      rw [List.length_drop] at hc
      refine Zm9 hE (Yb9 (L := L) (f := f) (i := f + Zi (V4 10) (s.drop f)) (by omega) hL a2 (by omega) fun h2 => ?_) fun fr' H' keep r => .inl ⟨rfl, (L ++ [(s.drop f).take (f + Zi (V4 10) (s.drop f) - f)], f + Zi (V4 10) (s.drop f) + 1, f + Zi (V4 10) (s.drop f) + 1), keep, ⟨by simp only [List.length_append, List.length_cons, List.length_nil]; omega, ?_⟩, by simp only; omega, r⟩
      · have := J1 (p := V4 10) (s := s.drop f) (by rw [List.length_drop]; omega)
        rw [Y7, Z9y, Bool.not_eq_false'] at this
        exact this
      · simp only
        rw [show f + Zi (V4 10) (s.drop f) - f = Zi (V4 10) (s.drop f) by omega]
        by_cases h2 : Zi (V4 10) (s.drop f) < s.length - f
        · rw [if_pos h2, List.drop_drop] at hc
          refine .inl ⟨by omega, Nat.le_refl _, Nat.le_add_right _ _, ?_⟩
          rw [a4, hc, List.append_assoc]
          rw [show f + (Zi (V4 10) (s.drop f) + 1) = f + Zi (V4 10) (s.drop f) + 1 by omega]; rfl
        · rw [if_neg h2] at hc
          refine .inr ⟨by omega, ?_⟩
          rw [a4, hc, List.take_of_length_le (by rw [List.length_drop]; omega)]
  · exact Zm9 hE (Ye3 (L := L) (f := f) (Nat.lt_succ_self _)) fun fr' H' keep r => .inr ⟨(by intro h; cases h), rfl, f, s.length + 1, keep, by rw [a4]; exact r⟩
def rcQ (s : List UInt8) (v : AV) (H : AHeap) : Prop := ∃ (i : Nat) (o : AObj) (keep : List Nat), v = .sl i 0 (Zl 10 s).length none ∧ H.get i = some o ∧ We 0 keep o (Zr1 (Zl 10 s))
theorem Yep (hE : EnvOk Yb P I) (hI : Carried I) {s : List UInt8} (hs : s.length < 4294967290) : Yk Yb P I ro Zc3.body (Z8 Zc3 [.str s]) (Zs 8 []) fun e fr H => (e = .normal ∨ e = .ret) ∧ fr.df = [] ∧ ∃ l, Xm Yb fr.t H Zc3.results = some l ∧ rcQ s (Ja l) H := by
  refine Z0 _ ?_
  rw [Zvp]
  refine Zg.leafX hE hI (vs := rcF s [] 0 0) (Yeh s) (by decide) rfl rfl Y3 (.inl ⟨rfl, ?_⟩)
  refine Yk.mono (Yk.block (Q := fun e fr H => e = .normal ∧ ∃ f i keep, Ren 8 keep fr H (Zd 32 rcS (rcF s (Zl 10 s) f i)) (Zs 8 (rcO (Zl 10 s)))) ((Z8i hE hI hs).mono ?_)) ?_
  · rintro e fr H ⟨rfl, h⟩
    exact ⟨rfl, h⟩
  · rintro e fr H ⟨rfl, f, i, keep, r⟩
    refine .inl ⟨rfl, Zg.ren hI r ?_⟩
    unfold rcQ
    cases hc : Zl 10 s with
    | nil =>
      have := J0 10 s
      rw [hc] at this
      simp at this
    | cons p L =>
      refine Zg.leafE hE (vs := [.sl 8 0 (p :: L).length none]) (os := rcO (p :: L)) (os2 := rcO (p :: L)) (Yey s f i (p :: L).length (Ki (p :: L))) (by decide) rfl rfl (Zjk (p :: L)) fun fr' H' r2 => ⟨.inr rfl, r2.df.1, ?_⟩
      obtain ⟨y, a2, b2⟩ := r2.t 2 _ rfl
      obtain ⟨q, rfl, h3⟩ := Z9q b2
      obtain ⟨i2, ob, o1, o2, o3⟩ := r2.obj 8 (Zr1 (p :: L)) rfl
      obtain ⟨_, h4⟩ := Zjn h3
      rw [show ((8 : Nat) - 0) = 8 from rfl, o1] at h4
      cases h4
      exact ⟨[AV.sl q 0 (p :: L).length none], by rw [Z4a]; simp only [List.map_cons, List.map_nil, Xm, a2], q, ob, _, rfl, o2, o3⟩
end
def Zac : Sm := fun f args H => match args with
  | [.str s] => bif Nat.beq f 12 && Nat.blt (Zb s) 4294967290 then some (.sl H.next 0 (Zl 10 s).length none, H.new (Zr1 (Zl 10 s))) else none
  | _ => none
theorem Zwb : Qm Tryd.prog gl Zac := by
  intro f args H v H' M w cargs hs hw hr ha
  unfold Zac at hs
  split at hs
  case h_2 => cases hs
  rename_i s
  rw [Bool.cond_eq_ite] at hs
  split at hs
  case isFalse => cases hs
  rename_i hb
  rw [Bool.and_eq_true, Nat.beq_eq, Nat.blt_eq] at hb
  obtain ⟨rfl, hlen⟩ := hb
  simp only [Option.some.injEq, Prod.mk.injEq] at hs
  obtain ⟨rfl, rfl⟩ := hs
  have hp : ∀ v ∈ [AV.str s], Plain v := Z2 rfl
  have b : X6 Tryd.prog gl 12 cargs (rcQ s) := Zec Ql Wl Z55 (Zq.anyPlain hp ha _) fun w hw => Yk.ren (Zt hw) (Jg hp) (Yep (Ql w hw) (Zt hw) hlen)
  refine X6.calls (os := [Zr1 (Zl 10 s)]) b hw hr ?_
  rintro v2 H2 ⟨i, o, keep, rfl, h2, h3⟩
  refine ⟨[i], by simp, rfl, ?_, fun j x hx => ?_⟩
  · simp [X0, Qu]
  · match j, hx with
    | 0, hx =>
      cases hx
      cases o with
      | cells n t e g fz ro mk =>
        obtain ⟨t', h4, h5⟩ := h3
        cases h4
        refine ⟨i, _, rfl, h2, ⟨_, rfl, fun q y hy => ?_⟩, rfl⟩
        obtain ⟨x, e1, e2⟩ := h5 q y hy
        have hf := Zp4 _ q y hy
        rw [Zf4 x y hf e2] at e1
        exact ⟨y, e1, Zdl y hf⟩
      | loop => obtain ⟨_, _, h4, _⟩ := h3; cases h4
      | siter => cases h3
      | dfr => cases h3
      | mp => obtain ⟨_, h4, _⟩ := h3; cases h4
      | miter => obtain ⟨_, h4, _⟩ := h3; cases h4
    | j + 1, hx => simp at hx
end
end Go.Proofs.YtdpkmhnpbbapcaaDoor
