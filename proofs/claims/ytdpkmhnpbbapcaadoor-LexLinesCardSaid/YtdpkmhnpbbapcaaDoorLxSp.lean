/- strconv.ParseUint on digits of base 10 or 16: their worth, or a fault of which nothing is told. -/
import Derived.Test.YtdpkmhnpbbapcaaDoorLxParse
import Derived.KernelRfl
namespace Go.Proofs.YtdpkmhnpbbapcaaDoor
open Go Go.Vai
noncomputable section
set_option maxRecDepth 100000
theorem Zx9 (c0 c1 c2 c3 c4 c5 c6 c7 c8 c9 c10 c11 c12 c13 c14 c15 c16 c17 c18 c19 : UInt8) : Xn E1 1000 (.call 57 [.str [c0, c1, c2, c3, c4, c5, c6, c7, c8, c9, c10, c11, c12, c13, c14, c15, c16, c17, c18, c19]] (Xf 8 gl)) [] jK = some (.str ([c0, c1, c2, c3, c4, c5, c6, c7, c8, c9, c10, c11, c12, c13, c14, c15, c16, c17, c18, c19].map fun c => UInt8.ofNat (Int.ofNat c.toNat).toNat)) := by kernel_rfl
theorem Ye6 {s : List UInt8} (h : s.length = 20) : ∃ c0 c1 c2 c3 c4 c5 c6 c7 c8 c9 c10 c11 c12 c13 c14 c15 c16 c17 c18 c19, s = [c0, c1, c2, c3, c4, c5, c6, c7, c8, c9, c10, c11, c12, c13, c14, c15, c16, c17, c18, c19] := by
  match s, h with
  | [c0, c1, c2, c3, c4, c5, c6, c7, c8, c9, c10, c11, c12, c13, c14, c15, c16, c17, c18, c19], _ => exact ⟨c0, c1, c2, c3, c4, c5, c6, c7, c8, c9, c10, c11, c12, c13, c14, c15, c16, c17, c18, c19, rfl⟩
def Z35 : Nat → List AV → Option AV := fun g args => match args with
  | [.str s] => bif Nat.beq g 57 && Nat.beq (Zb s) 20 then some (.str s) else none
  | _ => none
theorem Yf8 : Qm Tryd.prog gl (Zx Z35) := W3 fun g args v h => by
  unfold Z35 at h
  split at h
  case h_2 => cases h
  rename_i s
  rw [Bool.cond_eq_ite] at h
  split at h
  case isFalse => cases h
  rename_i hb
  simp only [Bool.and_eq_true, Nat.beq_eq] at hb
  obtain ⟨rfl, hs⟩ := hb
  simp only [Option.some.injEq] at h
  subst h
  refine ⟨E1, 1000, Zcp, Wl, by kernel_rfl, Z2 rfl, [], ?_⟩
  obtain ⟨c0, c1, c2, c3, c4, c5, c6, c7, c8, c9, c10, c11, c12, c13, c14, c15, c16, c17, c18, c19, rfl⟩ := Ye6 hs
  refine (Zx9 c0 c1 c2 c3 c4 c5 c6 c7 c8 c9 c10 c11 c12 c13 c14 c15 c16 c17 c18 c19).trans ?_
  simp only [byte_back, List.map_id']
def ESp : Env := V3 Tryd.prog 8 [49, 57] (Wv (Za1 kinds) (Wv (Zx Zr6) (Zx Z35)))
theorem Zy8 (w : World) (hw : Yf gl w) : EnvOk ESp Tryd.prog (Kept gl w) := Vp (by kernel_rfl) ((Jt Zch).or (Yfm.or Yf8)) W1 (fun _ _ _ h => h.1) (Zt hw).ext
def puK {α : Type} (ok : Bool) (args : List AV) (H : AHeap) (k : AV → AHeap → Option α) : Option α := match args with
  | [.str s, .int .i64 b, .int .i64 (.ofNat 64)] => bc (Zk0 b s) (match ok with
    | true => bc (Nat.blt (Ym b.toNat s) 18446744073709551616) (k (.tup [.int .u64 (.ofNat (Ym b.toNat s)), .nili]) H) none
    | false => bc (Nat.blt (Ym b.toNat s) 18446744073709551616) none (k (.tup [.int .u64 (.ofNat 18446744073709551615), .iface 81 (.int .i64 (.ofNat 1))]) H)) none
  | _ => none
theorem Zps {α : Type} {b : Bool} {x : Option α} {r : α} (h : bc b none x = some r) : b = false ∧ x = some r := by
  cases b with
  | true => cases h
  | false => exact ⟨rfl, h⟩
theorem Zzc {α : Type} {ok : Bool} {args : List AV} {H : AHeap} {k : AV → AHeap → Option α} {r : α} (h : puK ok args H k = some r) : ∃ v H', Zx Zr6 49 args H = some (v, H') ∧ k v H' = some r := by
  unfold puK at h
  split at h
  case h_2 => cases h
  rename_i s b
  obtain ⟨h1, h⟩ := Zr h
  have e : ∀ H, Zx Zr6 49 [.str s, .int .i64 b, .int .i64 (.ofNat 64)] H = some (puR b s, H) := fun H => by
    unfold Zx Zr6
    simp only [Nat.beq_refl, h1, Bool.and_self, cond_true]
  refine ⟨_, _, e H, ?_⟩
  unfold puR
  cases ok with
  | true =>
    obtain ⟨h2, h⟩ := Zr h
    rw [h2]; exact h
  | false =>
    obtain ⟨h2, h⟩ := Zps h
    rw [h2]; exact h
def clK {α : Type} (args : List AV) (H : AHeap) (k : AV → AHeap → Option α) : Option α := match args with
  | [.str s] => bc (Nat.beq (Zb s) 20) (k (.str s) H) none
  | _ => none
theorem Z22 {α : Type} {args : List AV} {H : AHeap} {k : AV → AHeap → Option α} {r : α} (h : clK args H k = some r) : ∃ v H', Zx Z35 57 args H = some (v, H') ∧ k v H' = some r := by
  unfold clK at h
  split at h
  case h_2 => cases h
  rename_i s
  obtain ⟨h1, h⟩ := Zr h
  refine ⟨_, _, ?_, h⟩
  unfold Zx Z35
  simp only [Nat.beq_refl, h1, Bool.and_self, cond_true]
theorem Q8 {F : Nat → List AV → Option AV} {b : Sm} {f : Nat} {args : List AV} {H : AHeap} {x : AV × AHeap} (h : Zx F f args H = some x) : Wv (Zx F) b f args H = some x := by unfold Wv; rw [h]
theorem Zbs {F : Nat → List AV → Option AV} {b : Sm} {f : Nat} {args : List AV} {H : AHeap} (h : F f args = none) : Wv (Zx F) b f args H = b f args H := by unfold Wv Zx; rw [h]
theorem V5 {b : Sm} {f : Nat} {args : List AV} {H : AHeap} (h : Zh4 kinds f = none) : Wv (Za1 kinds) b f args H = b f args H := Za0 (Yd9 h args H)
def Zxc (ok : Bool) {α : Type} : Smk α := fun f args H k => bif Nat.beq f 49 then puK ok args H k else bif Nat.beq f 57 then clK args H k else smC ESp f args H k
theorem Ztv (ok : Bool) {α : Type} : Vj (α := α) ESp (Zxc ok) := by
  intro f args H k r h
  unfold Zxc at h
  simp only [Bool.cond_eq_ite, Nat.beq_eq] at h
  split at h
  · rename_i e
    subst e
    obtain ⟨u, H', h1, h2⟩ := Zzc h
    exact ⟨u, H', (V5 (by kernel_rfl)).trans (Q8 h1), h2⟩
  split at h
  · rename_i e
    subst e
    obtain ⟨u, H', h1, h2⟩ := Z22 h
    refine ⟨u, H', (V5 (by kernel_rfl)).trans ((Zbs ?_).trans h1), h2⟩
    unfold Zr6
    split
    · rfl
    · rfl
  · exact Vr _ _ _ _ _ _ h
theorem spA (s : List UInt8) (b : Int) : Zk ESp (Zxc true) Zn 1000 (.call 43 [.str s, .int .i64 b, .int .i64 (.ofNat 64)] (Xf 8 gl)) [] jW = bc (Zk0 b s) (bc (Nat.blt (Ym b.toNat s) 18446744073709551616) (some (.tup [.int .u64 (.ofNat (Ym b.toNat s)), .nili])) none) none := by kernel_rfl
theorem spB (s : List UInt8) (b : Int) : Zk ESp (Zxc false) Zn 1000 (.call 43 [.str s, .int .i64 b, .int .i64 (.ofNat 64)] (Xf 8 gl)) [] jW = bc (Zk0 b s) (bc (Nat.blt (Ym b.toNat s) 18446744073709551616) none (bc (Nat.beq (Zb s) 20) (some (.tup [.int .u64 (.ofNat 18446744073709551615), .iface 83 (.opq none)])) none)) none := by kernel_rfl
def spR (b : Int) (s : List UInt8) : AV := bif Nat.blt (Ym b.toNat s) 18446744073709551616 then .tup [.int .u64 (.ofNat (Ym b.toNat s)), .nili] else .tup [.int .u64 (.ofNat 18446744073709551615), .iface 83 (.opq none)]
def Zh9 (b : Int) (s : List UInt8) : Bool := Zk0 b s && (Nat.blt (Ym b.toNat s) 18446744073709551616 || Nat.beq (Zb s) 20)
def Zqy : Nat → List AV → Option AV := fun g args => match args with
  | [.str s, .int .i64 b, .int .i64 (.ofNat 64)] => bif Nat.beq g 43 && Zh9 b s then some (spR b s) else none
  | _ => none
theorem Yhu : Qm Tryd.prog gl (Zx Zqy) := Yho fun g args v h => by
  unfold Zqy at h
  split at h
  case h_2 => cases h
  rename_i s b
  rw [Bool.cond_eq_ite] at h
  split at h
  case isFalse => cases h
  rename_i hb
  unfold Zh9 at hb
  simp only [Bool.and_eq_true, Nat.beq_eq] at hb
  obtain ⟨rfl, h1, h2⟩ := hb
  simp only [Option.some.injEq] at h
  subst h
  unfold spR
  cases hv : Nat.blt (Ym b.toNat s) 18446744073709551616 with
  | true => exact ⟨ESp, 1000, Zxc true, Ztv true, Zy8, Wl, by kernel_rfl, Z2 rfl, [], (spA s b).trans (by rw [h1, hv]; rfl)⟩
  | false =>
    rw [hv, Bool.false_or] at h2
    exact ⟨ESp, 1000, Zxc false, Ztv false, Zy8, Wl, by kernel_rfl, Z2 rfl, [], (spB s b).trans (by rw [h1, hv, h2]; rfl)⟩
end
end Go.Proofs.YtdpkmhnpbbapcaaDoor
