/- strconv.ParseUint on digits of base 10 or 16: their worth, or a fault of which nothing is told. -/
import Derived.Test.YthlcgkebfodnmaaGreatDoorLxParse
namespace Go.Proofs.YthlcgkebfodnmaaGreatDoor
open Go Go.Vai
noncomputable section
set_option maxRecDepth 100000
theorem clone_run (c0 c1 c2 c3 c4 c5 c6 c7 c8 c9 c10 c11 c12 c13 c14 c15 c16 c17 c18 c19 : UInt8) : callP E1 1000 (.call 363 [.str [c0, c1, c2, c3, c4, c5, c6, c7, c8, c9, c10, c11, c12, c13, c14, c15, c16, c17, c18, c19]] (gHeap 12 gl)) [] jK = some (.str ([c0, c1, c2, c3, c4, c5, c6, c7, c8, c9, c10, c11, c12, c13, c14, c15, c16, c17, c18, c19].map fun c => UInt8.ofNat (Int.ofNat c.toNat).toNat)) := by kernel_rfl
theorem list20 {s : List UInt8} (h : s.length = 20) : ∃ c0 c1 c2 c3 c4 c5 c6 c7 c8 c9 c10 c11 c12 c13 c14 c15 c16 c17 c18 c19, s = [c0, c1, c2, c3, c4, c5, c6, c7, c8, c9, c10, c11, c12, c13, c14, c15, c16, c17, c18, c19] := by
  match s, h with
  | [c0, c1, c2, c3, c4, c5, c6, c7, c8, c9, c10, c11, c12, c13, c14, c15, c16, c17, c18, c19], _ => exact ⟨c0, c1, c2, c3, c4, c5, c6, c7, c8, c9, c10, c11, c12, c13, c14, c15, c16, c17, c18, c19, rfl⟩
def clFv : Nat → List AV → Option AV := fun g args => match args with
  | [.str s] => bif Nat.beq g 363 && Nat.beq (lenU s) 20 then some (.str s) else none
  | _ => none
theorem cl_ok : SmOk Tryz.prog gl (plainSm clFv) := plain_ok fun g args v h => by
  unfold clFv at h
  split at h
  case h_2 => cases h
  rename_i s
  rw [Bool.cond_eq_ite] at h
  split at h
  case isFalse => cases h
  rename_i hb
  simp only [Bool.and_eq_true, Nat.beq_eq] at hb
  obtain ⟨rfl, hs⟩ := hb
  simp only [Option.some.injEq] at h
  subst h
  refine ⟨E1, 1000, e1_ok, gl_ok, by kernel_rfl, plain_list rfl, [], ?_⟩
  obtain ⟨c0, c1, c2, c3, c4, c5, c6, c7, c8, c9, c10, c11, c12, c13, c14, c15, c16, c17, c18, c19, rfl⟩ := list20 hs
  refine (clone_run c0 c1 c2 c3 c4 c5 c6 c7 c8 c9 c10 c11 c12 c13 c14 c15 c16 c17 c18 c19).trans ?_
  simp only [byte_back, List.map_id']
def ESp : Env := envOf Tryz.prog 12 [325, 363] (orSm (extSm kinds) (orSm (plainSm puFv) (plainSm clFv)))
theorem esp_ok (w : World) (hw : GlobOk gl w) : EnvOk ESp Tryz.prog (Kept gl w) := envOk_sm (by kernel_rfl) ((smOk_ext ext_ok).or (pu_ok.or cl_ok)) mixed_ok (fun _ _ _ h => h.1) (kept_carried hw).ext
def puK {α : Type} (ok : Bool) (args : List AV) (H : AHeap) (k : AV → AHeap → Option α) : Option α := match args with
  | [.str s, .int .i64 b, .int .i64 (.ofNat 64)] => bc (puOk b s) (match ok with
    | true => bc (Nat.blt (valD b.toNat s) 18446744073709551616) (k (.tup [.int .u64 (.ofNat (valD b.toNat s)), .nili]) H) none
    | false => bc (Nat.blt (valD b.toNat s) 18446744073709551616) none (k (.tup [.int .u64 (.ofNat 18446744073709551615), .iface 455 (.int .i64 (.ofNat 1))]) H)) none
  | _ => none
theorem bc_none2 {α : Type} {b : Bool} {x : Option α} {r : α} (h : bc b none x = some r) : b = false ∧ x = some r := by
  cases b with
  | true => cases h
  | false => exact ⟨rfl, h⟩
theorem puK_some {α : Type} {ok : Bool} {args : List AV} {H : AHeap} {k : AV → AHeap → Option α} {r : α} (h : puK ok args H k = some r) : ∃ v H', plainSm puFv 325 args H = some (v, H') ∧ k v H' = some r := by
  unfold puK at h
  split at h
  case h_2 => cases h
  rename_i s b
  obtain ⟨h1, h⟩ := bc_none h
  have e : ∀ H, plainSm puFv 325 [.str s, .int .i64 b, .int .i64 (.ofNat 64)] H = some (puR b s, H) := fun H => by
    unfold plainSm puFv
    simp only [Nat.beq_refl, h1, Bool.and_self, cond_true]
  refine ⟨_, _, e H, ?_⟩
  unfold puR
  cases ok with
  | true =>
    obtain ⟨h2, h⟩ := bc_none h
    rw [h2]; exact h
  | false =>
    obtain ⟨h2, h⟩ := bc_none2 h
    rw [h2]; exact h
def clK {α : Type} (args : List AV) (H : AHeap) (k : AV → AHeap → Option α) : Option α := match args with
  | [.str s] => bc (Nat.beq (lenU s) 20) (k (.str s) H) none
  | _ => none
theorem clK_some {α : Type} {args : List AV} {H : AHeap} {k : AV → AHeap → Option α} {r : α} (h : clK args H k = some r) : ∃ v H', plainSm clFv 363 args H = some (v, H') ∧ k v H' = some r := by
  unfold clK at h
  split at h
  case h_2 => cases h
  rename_i s
  obtain ⟨h1, h⟩ := bc_none h
  refine ⟨_, _, ?_, h⟩
  unfold plainSm clFv
  simp only [Nat.beq_refl, h1, Bool.and_self, cond_true]
theorem plain_or {F : Nat → List AV → Option AV} {b : Sm} {f : Nat} {args : List AV} {H : AHeap} {x : AV × AHeap} (h : plainSm F f args H = some x) : orSm (plainSm F) b f args H = some x := by unfold orSm; rw [h]
theorem plain_ne {F : Nat → List AV → Option AV} {b : Sm} {f : Nat} {args : List AV} {H : AHeap} (h : F f args = none) : orSm (plainSm F) b f args H = b f args H := by unfold orSm plainSm; rw [h]
theorem ext_pass {b : Sm} {f : Nat} {args : List AV} {H : AHeap} (h : extAt kinds f = none) : orSm (extSm kinds) b f args H = b f args H := or_ne (ext_ne h args H)
def SKsp (ok : Bool) {α : Type} : Smk α := fun f args H k => bif Nat.beq f 325 then puK ok args H k else bif Nat.beq f 363 then clK args H k else smC ESp f args H k
theorem sksp_ok (ok : Bool) {α : Type} : SmkOk (α := α) ESp (SKsp ok) := by
  intro f args H k r h
  unfold SKsp at h
  simp only [Bool.cond_eq_ite, Nat.beq_eq] at h
  split at h
  · rename_i e
    subst e
    obtain ⟨u, H', h1, h2⟩ := puK_some h
    exact ⟨u, H', (ext_pass (by kernel_rfl)).trans (plain_or h1), h2⟩
  split at h
  · rename_i e
    subst e
    obtain ⟨u, H', h1, h2⟩ := clK_some h
    refine ⟨u, H', (ext_pass (by kernel_rfl)).trans ((plain_ne ?_).trans h1), h2⟩
    unfold puFv
    split
    · rfl
    · rfl
  · exact smC_ok _ _ _ _ _ _ h
theorem spA (s : List UInt8) (b : Int) : callPS ESp (SKsp true) noPin 1000 (.call 276 [.str s, .int .i64 b, .int .i64 (.ofNat 64)] (gHeap 12 gl)) [] jW = bc (puOk b s) (bc (Nat.blt (valD b.toNat s) 18446744073709551616) (some (.tup [.int .u64 (.ofNat (valD b.toNat s)), .nili])) none) none := by kernel_rfl
theorem spB (s : List UInt8) (b : Int) : callPS ESp (SKsp false) noPin 1000 (.call 276 [.str s, .int .i64 b, .int .i64 (.ofNat 64)] (gHeap 12 gl)) [] jW = bc (puOk b s) (bc (Nat.blt (valD b.toNat s) 18446744073709551616) none (bc (Nat.beq (lenU s) 20) (some (.tup [.int .u64 (.ofNat 18446744073709551615), .iface 458 (.opq none)])) none)) none := by kernel_rfl
def spR (b : Int) (s : List UInt8) : AV := bif Nat.blt (valD b.toNat s) 18446744073709551616 then .tup [.int .u64 (.ofNat (valD b.toNat s)), .nili] else .tup [.int .u64 (.ofNat 18446744073709551615), .iface 458 (.opq none)]
def spOk (b : Int) (s : List UInt8) : Bool := puOk b s && (Nat.blt (valD b.toNat s) 18446744073709551616 || Nat.beq (lenU s) 20)
def spFv : Nat → List AV → Option AV := fun g args => match args with
  | [.str s, .int .i64 b, .int .i64 (.ofNat 64)] => bif Nat.beq g 276 && spOk b s then some (spR b s) else none
  | _ => none
theorem sp_ok : SmOk Tryz.prog gl (plainSm spFv) := w_okS fun g args v h => by
  unfold spFv at h
  split at h
  case h_2 => cases h
  rename_i s b
  rw [Bool.cond_eq_ite] at h
  split at h
  case isFalse => cases h
  rename_i hb
  unfold spOk at hb
  simp only [Bool.and_eq_true, Nat.beq_eq] at hb
  obtain ⟨rfl, h1, h2⟩ := hb
  simp only [Option.some.injEq] at h
  subst h
  unfold spR
  cases hv : Nat.blt (valD b.toNat s) 18446744073709551616 with
  | true => exact ⟨ESp, 1000, SKsp true, sksp_ok true, esp_ok, gl_ok, by kernel_rfl, plain_list rfl, [], (spA s b).trans (by rw [h1, hv]; rfl)⟩
  | false =>
    rw [hv, Bool.false_or] at h2
    exact ⟨ESp, 1000, SKsp false, sksp_ok false, esp_ok, gl_ok, by kernel_rfl, plain_list rfl, [], (spB s b).trans (by rw [h1, hv, h2]; rfl)⟩
end
end Go.Proofs.YthlcgkebfodnmaaGreatDoor
