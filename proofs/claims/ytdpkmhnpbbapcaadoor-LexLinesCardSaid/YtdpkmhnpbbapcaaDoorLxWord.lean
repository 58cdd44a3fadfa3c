/- lex.word: the word at the front. -/
import Derived.Test.YtdpkmhnpbbapcaaDoorLxNum
import Derived.KernelRfl
namespace Go.Proofs.YtdpkmhnpbbapcaaDoor
open Go Go.Vai
noncomputable section
set_option maxRecDepth 100000
def Zzq (s : List UInt8) : Bool := Nat.ble 1 (Zb s) && (Z1 (Za s 0) && Nat.blt (Zb s) 4294967296)
def Z0y (s : List UInt8) : Bool := Nat.ble 1 (Zb s) && Nat.blt (Zb s) 4294967296
def Yea {α : Type} (args : List AV) (H : AHeap) (k : AV → AHeap → Option α) : Option α := match args with
  | [.str s] => bc (Zzq s) (k (Zkx (Qy s)) H) none
  | _ => none
theorem Zx1 {α : Type} {args : List AV} {H : AHeap} {k : AV → AHeap → Option α} {r : α} (h : Yea args H k = some r) : ∃ v H', Zx Zju 33 args H = some (v, H') ∧ k v H' = some r := by
  unfold Yea at h
  split at h
  case h_2 => cases h
  rename_i s
  obtain ⟨h1, h⟩ := Zr h
  refine ⟨_, _, ?_, h⟩
  unfold Zzq at h1
  unfold Zx Zju
  simp only [Nat.beq_refl, h1, Bool.and_self, cond_true]
def Yds {α : Type} (args : List AV) (H : AHeap) (k : AV → AHeap → Option α) : Option α := match args with
  | [.str s] => bc (Z0y s) (k (.tup [.str (Y9 s).1, .int .i64 (.ofNat (Y9 s).2.1), .int .i64 (.ofNat (Y9 s).2.2)]) H) none
  | _ => none
theorem Zvf {α : Type} {args : List AV} {H : AHeap} {k : AV → AHeap → Option α} {r : α} (h : Yds args H k = some r) : ∃ v H', Zx Zjp 34 args H = some (v, H') ∧ k v H' = some r := by
  unfold Yds at h
  split at h
  case h_2 => cases h
  rename_i s
  obtain ⟨h1, h⟩ := Zr h
  refine ⟨_, _, ?_, h⟩
  unfold Z0y at h1
  unfold Zx Zjp
  simp only [Nat.beq_refl, h1, Bool.and_self, cond_true]
def Zqe {α : Type} (args : List AV) (H : AHeap) (k : AV → AHeap → Option α) : Option α := match args with
  | [.str s, .int .u8 (.ofNat n)] => bc (Nat.ble n 255) (k (.int .i64 (Zf7 n s 0)) H) none
  | _ => none
theorem Zwc {α : Type} {args : List AV} {H : AHeap} {k : AV → AHeap → Option α} {r : α} (h : Zqe args H k = some r) : ∃ v H', Za1 kinds 45 args H = some (v, H') ∧ k v H' = some r := by
  unfold Zqe at h
  split at h
  case h_2 => cases h
  rename_i s n
  obtain ⟨h1, h⟩ := Zr h
  refine ⟨_, _, ?_, h⟩
  show (match Qg (.int .u8 (.ofNat n)) 255 with | some n => some (AV.int .i64 (Zf7 n s 0), H) | none => none) = _
  have : Qg (.int .u8 (.ofNat n)) 255 = some n := by
    show (bif Nat.ble n 255 then some n else none) = some n
    rw [h1]; rfl
  rw [this]
def EWd : Env := V3 Tryd.prog 8 [30, 33, 34, 29, 32, 24, 19, 20, 44, 51, 42, 31, 28] (Wv (Za1 kinds) (Wv (Zx Zh0) (Wv (Zx Zju) (Wv (Zx Zjp) (Wv (Zx FT0) (Zx FT1))))))
theorem Yeq (w : World) (hw : Yf gl w) : EnvOk EWd Tryd.prog (Kept gl w) := Vp (by kernel_rfl) ((Jt Zch).or (Z10.or (Yd7.or (Z85.or ((W3 Zgs).or (W3 Zkm)))))) W1 (fun _ _ _ h => h.1) (Zt hw).ext
def Z4c {α : Type} : Smk α := fun f args H k => bif Nat.beq f 30 then Z9j args H k else bif Nat.beq f 33 then Yea args H k else bif Nat.beq f 34 then Yds args H k else bif Nat.beq f 45 then Zqe args H k else smC EWd f args H k
theorem Z37 {g : Nat} (h : g ≠ 30) (args : List AV) : Zh0 g args = none := by
  unfold Zh0
  split
  · rw [Znf h]; rfl
  · rfl
theorem Yci {g : Nat} (h : g ≠ 33) (args : List AV) : Zju g args = none := by
  unfold Zju
  split
  · rw [Znf h]; rfl
  · rfl
theorem Z50 {α : Type} : Vj (α := α) EWd Z4c := by
  intro f args H k r h
  unfold Z4c at h
  simp only [Bool.cond_eq_ite, Nat.beq_eq] at h
  split at h
  · rename_i e
    subst e
    obtain ⟨u, H', h1, h2⟩ := Zlv h
    exact ⟨u, H', (V5 (by kernel_rfl)).trans (Q8 h1), h2⟩
  split at h
  · rename_i e
    subst e
    obtain ⟨u, H', h1, h2⟩ := Zx1 h
    exact ⟨u, H', (V5 (by kernel_rfl)).trans ((Zbs (Z37 (by decide) _)).trans (Q8 h1)), h2⟩
  split at h
  · rename_i e
    subst e
    obtain ⟨u, H', h1, h2⟩ := Zvf h
    exact ⟨u, H', (V5 (by kernel_rfl)).trans ((Zbs (Z37 (by decide) _)).trans ((Zbs (Yci (by decide) _)).trans (Q8 h1))), h2⟩
  split at h
  · rename_i e
    subst e
    obtain ⟨u, H', h1, h2⟩ := Zwc h
    exact ⟨u, H', Q0 h1, h2⟩
  · exact Vr _ _ _ _ _ _ h
def Zh6 (c : UInt8) : Bool := Zeo (cI c)
def Zkg (c : UInt8) : Bool := !(Yc (Zf7 c.toNat [44, 58, 43, 45, 40, 41, 64, 61] 0) (.ofNat 0))
structure Wd where
  (kind : Nat)
  (text : List UInt8)
  (num : Nat)
def Z3 (s : List UInt8) : Wd × Nat × Nat :=
  bif Zh6 (Za s 0) then (bif Nat.blt 128 (Zi Qq s) then (⟨0, [], 0⟩, 0, 7) else (⟨1, s.take (Zi Qq s), 0⟩, Zi Qq s, 0)) else
  bif Z1 (Za s 0) then (⟨2, [], (Qy s).1⟩, (Qy s).2.1, (Qy s).2.2) else
  bif Nat.beq (Za s 0).toNat 34 then (⟨3, (Y9 s).1, 0⟩, (Y9 s).2.1, (Y9 s).2.2) else
  bif Zkg (Za s 0) then (⟨4, s.take 1, 0⟩, 1, 0) else (⟨0, [], 0⟩, 0, 12)
def wdC (x : Wd) (at_ : Nat) : List AV := [.int .i64 (.ofNat x.kind), .str x.text, .int .u64 (.ofNat x.num), .int .i64 (.ofNat at_)]
def Z2q (x : Wd × Nat × Nat) : AV := .tup [.agg (wdC x.1 0), .int .i64 (.ofNat x.2.1), .int .i64 (.ofNat x.2.2)]
theorem Z38 (s : List UInt8) : Zk EWd Z4c Zn 1000 (.call 25 [.str s] (Xf 8 gl)) [] jK = bc (Nat.blt 0 (Zb s)) (bc (Zeo (.ofNat (UInt8.toNat (Za s 0)))) (bc (runT (.fn 31 [] []) s) (bc (Nat.blt 128 (Zee (.fn 31 [] []) s)) (some (.tup [.agg [.int .i64 (.ofNat 0), .str [], .int .u64 (.ofNat 0), .int .i64 (.ofNat 0)], .int .i64 (.ofNat 0), .int .i64 (.ofNat 7)])) (bc (Nat.ble (Zee (.fn 31 [] []) s) (Zb s)) (some (.tup [.agg [.int .i64 (.ofNat 1), .str (List.take (Zee (.fn 31 [] []) s) (List.drop 0 s)), .int .u64 (.ofNat 0), .int .i64 (.ofNat 0)], .int .i64 (.ofNat (Zee (.fn 31 [] []) s)), .int .i64 (.ofNat 0)])) (none))) (none)) (bc (K6 (.ofNat (UInt8.toNat (Za s 0)))) (bc (Zzq s) (some (.tup [.agg [.int .i64 (.ofNat 2), .str [], .int .u64 (.ofNat (Prod.fst (Qy s))), .int .i64 (.ofNat 0)], .int .i64 (.ofNat (Prod.fst (Prod.snd (Qy s)))), .int .i64 (.ofNat (Prod.snd (Prod.snd (Qy s))))])) (none)) (bc (Nat.beq (UInt8.toNat (Za s 0)) 34) (bc (Z0y s) (some (.tup [.agg [.int .i64 (.ofNat 3), .str (Prod.fst (Y9 s)), .int .u64 (.ofNat 0), .int .i64 (.ofNat 0)], .int .i64 (.ofNat (Prod.fst (Prod.snd (Y9 s)))), .int .i64 (.ofNat (Prod.snd (Prod.snd (Y9 s))))])) (none)) (bc (Nat.ble (UInt8.toNat (Za s 0)) 255) (bc (!(Yc (Zf7 (UInt8.toNat (Za s 0)) [44, 58, 43, 45, 40, 41, 64, 61] 0) (.ofNat 0))) (bc (Nat.ble 1 (Zb s)) (some (.tup [.agg [.int .i64 (.ofNat 4), .str (List.take 1 (List.drop 0 s)), .int .u64 (.ofNat 0), .int .i64 (.ofNat 0)], .int .i64 (.ofNat 1), .int .i64 (.ofNat 0)])) (none)) (some (.tup [.agg [.int .i64 (.ofNat 0), .str [], .int .u64 (.ofNat 0), .int .i64 (.ofNat 0)], .int .i64 (.ofNat 0), .int .i64 (.ofNat 12)]))) (none))))) (none) := by kernel_rfl
theorem Zyu {s : List UInt8} (h1 : 1 ≤ s.length) (hs : s.length < 4294967296) : Zk EWd Z4c Zn 1000 (.call 25 [.str s] (Xf 8 gl)) [] jK = some (Z2q (Z3 s)) := by
  refine (Z38 s).trans ?_
  have hl : Zb s = s.length := rfl
  have e0 : Nat.blt 0 (Zb s) = true := Zm (by omega)
  have e1 : runT (.fn 31 [] []) s = true := by
    show (true && Nat.blt s.length 4294967296) = true
    rw [Zm hs]; rfl
  have e2 : Z0y s = true := by unfold Z0y; rw [Yn (by omega), Zm (by omega)]; rfl
  have e3 : Nat.ble (Zee (.fn 31 [] []) s) (Zb s) = true := Yn (X4 Qq s)
  have e4 : Nat.ble (UInt8.toNat (Za s 0)) 255 = true := Yn (by have := (Za s 0).toNat_lt; omega)
  rw [e0, e1, e2, e3, e4, Y8]
  unfold Z3
  rw [show Zeo (.ofNat (UInt8.toNat (Za s 0))) = Zh6 (Za s 0) from rfl, show K6 (.ofNat (UInt8.toNat (Za s 0))) = Z1 (Za s 0) from rfl, show Zee (.fn 31 [] []) s = Zi Qq s from rfl]
  cases Zh6 (Za s 0) with
  | true => cases Nat.blt 128 (Zi Qq s) <;> rfl
  | false =>
    cases hd : Z1 (Za s 0) with
    | true =>
      have e5 : Zzq s = true := by unfold Zzq; rw [hd, Yn (by omega), Zm (by omega)]; rfl
      rw [e5]; rfl
    | false =>
      cases Nat.beq (Za s 0).toNat 34 with
      | true => rfl
      | false =>
        have e6 : Nat.ble 1 (Zb s) = true := Yn (by omega)
        rw [show Zkg (Za s 0) = !(Yc (Zf7 (UInt8.toNat (Za s 0)) [44, 58, 43, 45, 40, 41, 64, 61] 0) (.ofNat 0)) from rfl]
        cases Yc (Zf7 (UInt8.toNat (Za s 0)) [44, 58, 43, 45, 40, 41, 64, 61] 0) (.ofNat 0) with
        | true => rfl
        | false => first | rfl | (rw [e6]; rfl) | (rw [List.drop_zero, e6]; rfl)
def Zkk (s : List UInt8) : Bool := Nat.ble 1 (Zb s) && Nat.blt (Zb s) 4294967296
def Zi2 : Nat → List AV → Option AV := fun g args => match args with
  | [.str s] => bif Nat.beq g 25 && Zkk s then some (Z2q (Z3 s)) else none
  | _ => none
theorem Z9m : Qm Tryd.prog gl (Zx Zi2) := Zlq fun g args v h => by
  unfold Zi2 at h
  split at h
  case h_2 => cases h
  rename_i s
  rw [Bool.cond_eq_ite] at h
  split at h
  case isFalse => cases h
  rename_i hb
  unfold Zkk at hb
  simp only [Bool.and_eq_true, Nat.beq_eq, Nat.blt_eq, Nat.ble_eq] at hb
  obtain ⟨rfl, h1, hs⟩ := hb
  simp only [Option.some.injEq] at h
  subst h
  exact ⟨EWd, 1000, Z4c, Z50, Yeq, Wl, by kernel_rfl, Z2 rfl, [], Zyu h1 hs⟩
end
end Go.Proofs.YtdpkmhnpbbapcaaDoor
