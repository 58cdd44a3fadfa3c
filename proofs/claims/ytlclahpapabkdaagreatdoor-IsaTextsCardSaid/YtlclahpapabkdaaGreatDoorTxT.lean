/- isa.Text: its environment, with Encode and name as whatever they are. -/
import Derived.Test.YtlclahpapabkdaaGreatDoorTxCl
import Derived.Test.YtlclahpapabkdaaGreatDoorTxFld
import Derived.Test.YtlclahpapabkdaaGreatDoorVaiNum
import Derived.Test.YtlclahpapabkdaaGreatDoorVaiOpq
import Derived.KernelRfl
namespace Go.Proofs.YtlclahpapabkdaaGreatDoor
open Go Go.Vai
noncomputable section
set_option maxRecDepth 100000
theorem or_none {a b : Sm} {f : Nat} {args : List AV} {H : AHeap} (h : a f args H = none) : orSm a b f args H = b f args H := by unfold orSm; rw [h]
theorem or_some {a b : Sm} {f : Nat} {args : List AV} {H : AHeap} {r : AV × AHeap} (h : a f args H = some r) : orSm a b f args H = some r := by unfold orSm; rw [h]
def encFv (ev : EvT) : Nat → List AV → Option AV := fun f args => bif Nat.beq f 9 then (match args with
  | [.int .i64 t, .agg [.str nm, .int .i64 A, .int .i64 B, .int .i64 C, .int .i64 D, .int .i64 I]] => some (.tup [.opq none, .int .i64 (ev t nm A B C D I)])
  | _ => none) else none
def inT (t : Int) : Bool := ieq t (.ofNat 1) || (ieq t (.ofNat 2) || ieq t (.ofNat 3))
def nameFv (nv : Int → Int → List UInt8) : Nat → List AV → Option AV := fun f args => bif Nat.beq f 13 then (match args with
  | [.int .i64 t, .int .i64 n] => bif inT t then some (.str (nv t n)) else none
  | _ => none) else none
def E4a (ev : EvT) (nv : Int → Int → List UInt8) : Sm := orSm (plainSm (encFv ev)) (orSm (plainSm (nameFv nv)) (orSm (itoaSm 14) (orSm (fmtSm 17) (orSm (joinSmS 18) fldSm))))
def E4 (ev : EvT) (nv : Int → Int → List UInt8) : Env := envOf Tryz.prog 12 [156, 47, 53, 105, 113, 9, 13, 14, 17, 18, 103] (orSm (extSm kinds) (orSm (contSm 156) (orSm (plainSm findF) (E4a ev nv))))
def itoaK {α : Type} (args : List AV) (H : AHeap) (k : AV → AHeap → Option α) : Option α := match args with
  | [.int .i64 n] => bc (i64In n) (k (.str (Lib.itoa n)) H) none
  | _ => none
def fmtK {α : Type} (args : List AV) (H : AHeap) (k : AV → AHeap → Option α) : Option α := match args with
  | [.int .i64 n, .int .i64 b] => bc (ieq b (.ofNat 10)) (bc (i64In n) (k (.str (Lib.itoa n)) H) none) none
  | _ => none
def joinK {α : Type} (args : List AV) (H : AHeap) (k : AV → AHeap → Option α) : Option α := match args with
  | [.sl id off len none, .str sep] => bc (Nat.ble len 1000 && Nat.ble sep.length 1000) (ob ((sliceCells H 1 len (.sl id off len none)).bind strsA) fun xs => bc (shortL xs) (k (.str (joinV xs sep)) H) none) none
  | _ => none
def SK4 {α : Type} (ev : EvT) (nv : Int → Int → List UInt8) : Smk α := fun f args H k => bif Nat.beq f 14 then itoaK args H k else bif Nat.beq f 17 then fmtK args H k else bif Nat.beq f 18 then joinK args H k else smC (E4 ev nv) f args H k
theorem e4_pre (ev : EvT) (nv : Int → Int → List UInt8) {f : Nat} (hf : f = 14 ∨ f = 17 ∨ f = 18) (args : List AV) (H : AHeap) : (E4 ev nv).sm f args H = E4a ev nv f args H := by
  show orSm (extSm kinds) (orSm (contSm 156) (orSm (plainSm findF) (E4a ev nv))) f args H = _
  rcases hf with rfl | rfl | rfl
  all_goals
    rw [or_none (by rfl), or_none (by unfold contSm; split <;> rfl), or_none (by unfold plainSm findF; split <;> rfl)]
theorem sk4_ok {α : Type} (ev : EvT) (nv : Int → Int → List UInt8) : SmkOk (α := α) (E4 ev nv) (SK4 ev nv) := by
  intro f args H k r h
  unfold SK4 at h
  simp only [Bool.cond_eq_ite, Nat.beq_eq] at h
  split at h
  · rename_i e
    subst e
    unfold itoaK at h
    split at h
    case h_2 => cases h
    rename_i n
    obtain ⟨h1, h2⟩ := bc_none h
    refine ⟨_, _, ?_, h2⟩
    rw [e4_pre ev nv (.inl rfl)]
    show orSm _ _ _ _ _ = _
    rw [or_none (by rfl), or_none (by rfl)]
    refine or_some ?_
    unfold itoaSm
    simp only [Nat.beq_refl, h1, Bool.and_self, cond_true]
  split at h
  · rename_i e
    subst e
    unfold fmtK at h
    split at h
    case h_2 => cases h
    rename_i n b
    obtain ⟨h0, h⟩ := bc_none h
    obtain ⟨h1, h2⟩ := bc_none h
    refine ⟨_, _, ?_, h2⟩
    rw [e4_pre ev nv (.inr (.inl rfl))]
    show orSm _ _ _ _ _ = _
    rw [or_none (by rfl), or_none (by rfl), or_none (by rfl)]
    refine or_some ?_
    unfold fmtSm
    simp only [Nat.beq_refl, h0, h1, Bool.and_self, cond_true]
  split at h
  · rename_i e
    subst e
    unfold joinK at h
    split at h
    case h_2 => cases h
    rename_i id off len sep
    obtain ⟨h0, h⟩ := bc_none h
    obtain ⟨xs, hx, h⟩ := ob_some' h
    obtain ⟨h1, h2⟩ := bc_none h
    refine ⟨_, _, ?_, h2⟩
    rw [e4_pre ev nv (.inr (.inr rfl))]
    show orSm _ _ _ _ _ = _
    rw [or_none (by rfl), or_none (by rfl), or_none (by rfl), or_none (by rfl)]
    refine or_some ?_
    unfold joinSmS
    simp only [Nat.beq_refl, h0, hx, h1, Bool.and_self, cond_true]
  exact smC_ok _ _ _ _ _ _ h
def go5 (ev : EvT) (nv : Int → Int → List UInt8) (t : Nat) (nm : List UInt8) (A B C D I : Int) : Option AV := callPS (E4 ev nv) (SK4 ev nv) noPin 100000 (.call 5 [.int .i64 (.ofNat t), insV nm A B C D I] (gHeap 12 gl)) [] jK
end
end Go.Proofs.YtlclahpapabkdaaGreatDoor
