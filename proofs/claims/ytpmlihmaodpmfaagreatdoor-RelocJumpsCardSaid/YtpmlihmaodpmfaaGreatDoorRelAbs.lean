/- Summaries of the numbers' functions, with these functions as variables. -/
import Derived.Test.YtpmlihmaodpmfaaGreatDoorHeads
import Derived.Test.YtpmlihmaodpmfaaGreatDoorRvLib1
import Derived.Test.YtpmlihmaodpmfaaGreatDoorArmLib1
import Derived.Test.YtpmlihmaodpmfaaGreatDoorRelVal
import Derived.KernelRfl
namespace Go.Proofs.YtpmlihmaodpmfaaGreatDoor
open Go Go.Vai
noncomputable section
set_option maxRecDepth 100000
def uOf (N : Int → List UInt8) (A B C D I S E : Int → Int) (w : Int) : AV := .tup [.agg [.str (N w), .int .i64 (A w), .int .i64 (B w), .int .i64 (C w), .int .i64 (D w), .int .i64 (I w)], .int .i64 (S w), .int .i64 (E w)]
def rvFaultG (rvFault : List UInt8 → Int → Int → List UInt8 → Int → Int → Int → Int → Int → Int) : List AV → Option AV
  | [.agg [.str rn, .int .i64 fm, .int .u32 rw], .agg [.str nm, .int .i64 a, .int .i64 b, .int .i64 c, .int .i64 d, .int .i64 im]] => some (.int .i64 (rvFault rn fm rw nm a b c d im))
  | _ => none
def rvWordEG (rvWordE : List UInt8 → Int → Int → List UInt8 → Int → Int → Int → Int → Int → Int) : List AV → Option AV
  | [.agg [.str rn, .int .i64 fm, .int .u32 rw], .agg [.str nm, .int .i64 a, .int .i64 b, .int .i64 c, .int .i64 d, .int .i64 im]] => some (.int .u32 (rvWordE rn fm rw nm a b c d im))
  | _ => none
def arFaultG (arFault : List UInt8 → Int → Int → Int → Int → Int → Int → Int → Int → Int → Int → Int → Int → Int → Int → Int → Int → Int → Int → Int → Int → Int → Int → Int → Int → Int → Int → Int → Int → Int → Int → Int → List UInt8 → List UInt8 → Int → Int → Int → Int → Int → Int) : List AV → Option AV
  | [.agg (.str rn :: .int .u32 rw :: .int .i8 qat :: .int .i8 qab :: .int .i8 qak :: .int .i8 qay :: .int .i32 qal :: .int .i32 qah :: .int .i8 qbt :: .int .i8 qbb :: .int .i8 qbk :: .int .i8 qby :: .int .i32 qbl :: .int .i32 qbh :: .int .i8 qct :: .int .i8 qcb :: .int .i8 qck :: .int .i8 qcy :: .int .i32 qcl :: .int .i32 qch :: .int .i8 qdt :: .int .i8 qdb :: .int .i8 qdk :: .int .i8 qdy :: .int .i32 qdl :: .int .i32 qdh :: .int .i8 qmt :: .int .i8 qmb :: .int .i8 qmk :: .int .i8 qmy :: .int .i32 qml :: .int .i32 qmh :: .str ro :: []), .agg [.str nm, .int .i64 a, .int .i64 b, .int .i64 c, .int .i64 d, .int .i64 im]] => bif okImm qmk qmy then some (.int .i64 (arFault rn rw qat qab qak qay qal qah qbt qbb qbk qby qbl qbh qct qcb qck qcy qcl qch qdt qdb qdk qdy qdl qdh qmt qmb qmk qmy qml qmh ro nm a b c d im)) else none
  | _ => none
def arBitsVG (arBitsV : List UInt8 → Int → Int → Int → Int → Int → Int → Int → Int → Int → Int → Int → Int → Int → Int → Int → Int → Int → Int → Int → Int → Int → Int → Int → Int → Int → Int → Int → Int → Int → Int → Int → List UInt8 → List UInt8 → Int → Int → Int → Int → Int → Int) : List AV → Option AV
  | [.agg (.str rn :: .int .u32 rw :: .int .i8 qat :: .int .i8 qab :: .int .i8 qak :: .int .i8 qay :: .int .i32 qal :: .int .i32 qah :: .int .i8 qbt :: .int .i8 qbb :: .int .i8 qbk :: .int .i8 qby :: .int .i32 qbl :: .int .i32 qbh :: .int .i8 qct :: .int .i8 qcb :: .int .i8 qck :: .int .i8 qcy :: .int .i32 qcl :: .int .i32 qch :: .int .i8 qdt :: .int .i8 qdb :: .int .i8 qdk :: .int .i8 qdy :: .int .i32 qdl :: .int .i32 qdh :: .int .i8 qmt :: .int .i8 qmb :: .int .i8 qmk :: .int .i8 qmy :: .int .i32 qml :: .int .i32 qmh :: .str ro :: []), .agg [.str nm, .int .i64 a, .int .i64 b, .int .i64 c, .int .i64 d, .int .i64 im]] => bif (okNum qat qab qak qay && (okNum qbt qbb qbk qby && (okNum qct qcb qck qcy && (okNum qdt qdb qdk qdy && okNum qmt qmb qmk qmy)))) then some (.int .u32 (arBitsV rn rw qat qab qak qay qal qah qbt qbb qbk qby qbl qbh qct qcb qck qcy qcl qch qdt qdb qdk qdy qdl qdh qmt qmb qmk qmy qml qmh ro nm a b c d im)) else none
  | _ => none
def rlNearVG (rlNearV : Int → Int → Int) : List AV → Option AV
  | [.int .u64 s, .int .u64 p] => some (.tup [.int .i64 (rlNearV s p), .bool true])
  | _ => none
def rlLow12VG (rlLow12V : Int → Int → Int) : List AV → Option AV
  | [.int .u64 s, .int .u64 p] => some (.tup [.int .i64 (rlLow12V s p), .bool true])
  | _ => none
def rlLowVG (rlLowV : Int → Int → Int) : List AV → Option AV
  | [.int .u64 s, .int .u64 p] => some (.tup [.int .i64 (rlLowV s p), .bool true])
  | _ => none
def rlHighVG (rlHighV : Int → Int → Int) : List AV → Option AV
  | [.int .u64 s, .int .u64 p] => some (.tup [.int .i64 (rlHighV s p), .bool true])
  | _ => none
def rlHighNearVG (rlHighNearV : Int → Int → Int) : List AV → Option AV
  | [.int .u64 s, .int .u64 p] => some (.tup [.int .i64 (rlHighNearV s p), .bool true])
  | _ => none
def rlPagesVG (rlPagesV : Int → Int → Int) : List AV → Option AV
  | [.int .u64 s, .int .u64 p] => some (.tup [.int .i64 (rlPagesV s p), .bool true])
  | _ => none
def absT (rvFault : List UInt8 → Int → Int → List UInt8 → Int → Int → Int → Int → Int → Int) (rvWordE : List UInt8 → Int → Int → List UInt8 → Int → Int → Int → Int → Int → Int) (arFault : List UInt8 → Int → Int → Int → Int → Int → Int → Int → Int → Int → Int → Int → Int → Int → Int → Int → Int → Int → Int → Int → Int → Int → Int → Int → Int → Int → Int → Int → Int → Int → Int → Int → List UInt8 → List UInt8 → Int → Int → Int → Int → Int → Int) (arBitsV : List UInt8 → Int → Int → Int → Int → Int → Int → Int → Int → Int → Int → Int → Int → Int → Int → Int → Int → Int → Int → Int → Int → Int → Int → Int → Int → Int → Int → Int → Int → Int → Int → Int → List UInt8 → List UInt8 → Int → Int → Int → Int → Int → Int) (rlNearV : Int → Int → Int) (rlLow12V : Int → Int → Int) (rlLowV : Int → Int → Int) (rlHighV : Int → Int → Int) (rlHighNearV : Int → Int → Int) (rlPagesV : Int → Int → Int) (f : Nat) (args : List AV) : Option AV := bif Nat.beq f 105 then rvFaultG rvFault args else bif Nat.beq f 106 then rvWordEG rvWordE args else bif Nat.beq f 51 then arFaultG arFault args else bif Nat.beq f 52 then arBitsVG arBitsV args else bif Nat.beq f 65 then rlNearVG rlNearV args else bif Nat.beq f 67 then rlLow12VG rlLow12V args else bif Nat.beq f 71 then rlLowVG rlLowV args else bif Nat.beq f 69 then rlHighVG rlHighV args else bif Nat.beq f 70 then rlHighNearVG rlHighNearV args else bif Nat.beq f 66 then rlPagesVG rlPagesV args else none
theorem plain_sub {P : Program} {gl : List (Nat × List AV)} {T : Nat → List AV → Option AV} (h : ∀ f args v, T f args = some v → ∃ s, SmOk P gl s ∧ ∀ H, s f args H = some (v, H)) : SmOk P gl (plainSm T) := by
  intro f args H v H' M w cargs hs hw hr ha
  unfold plainSm at hs
  cases hT : T f args with
  | none => rw [hT] at hs; cases hs
  | some u =>
    rw [hT] at hs
    obtain ⟨s, h1, h2⟩ := h f args u hT
    have e : some (u, H) = some (v, H') := hs
    exact h1 f args H v H' M w cargs ((h2 H).trans e) hw hr ha
theorem rvFaultG_sub (args : List AV) (v : AV) (h : rvFaultG rvFault args = some v) : ∃ s, SmOk Tryz.prog gl s ∧ ∀ H, s 105 args H = some (v, H) := by
  have e : rvFaultyF args = some v := by
    unfold rvFaultG at h
    unfold rvFaultyF
    exact h
  refine ⟨plainSm FT1, plain_ok ft1_ok, fun H => ?_⟩
  unfold plainSm
  rw [show FT1 105 args = some v from e]
theorem rvWordEG_sub (args : List AV) (v : AV) (h : rvWordEG rvWordE args = some v) : ∃ s, SmOk Tryz.prog gl s ∧ ∀ H, s 106 args H = some (v, H) := by
  have e : rvWordF args = some v := by
    unfold rvWordEG at h
    unfold rvWordF
    exact h
  refine ⟨plainSm FT1, plain_ok ft1_ok, fun H => ?_⟩
  unfold plainSm
  rw [show FT1 106 args = some v from e]
theorem arFaultG_sub (args : List AV) (v : AV) (h : arFaultG arFault args = some v) : ∃ s, SmOk Tryz.prog gl s ∧ ∀ H, s 51 args H = some (v, H) := by
  have e : arFaultyF args = some v := by
    unfold arFaultG at h
    unfold arFaultyF
    exact h
  refine ⟨plainSm AF5, plain_okS af5_ok, fun H => ?_⟩
  unfold plainSm
  rw [show AF5 51 args = some v from e]
theorem arBitsVG_sub (args : List AV) (v : AV) (h : arBitsVG arBitsV args = some v) : ∃ s, SmOk Tryz.prog gl s ∧ ∀ H, s 52 args H = some (v, H) := by
  have e : arBitsF args = some v := by
    unfold arBitsVG at h
    unfold arBitsF
    exact h
  refine ⟨plainSm AF5, plain_okS af5_ok, fun H => ?_⟩
  unfold plainSm
  rw [show AF5 52 args = some v from e]
theorem rlNearVG_sub (args : List AV) (v : AV) (h : rlNearVG rlNearV args = some v) : ∃ s, SmOk Tryz.prog gl s ∧ ∀ H, s 65 args H = some (v, H) := by
  have e : rlNearF args = some v := by
    unfold rlNearVG at h
    unfold rlNearF
    exact h
  refine ⟨plainSm VT0, plain_okS vt0_ok, fun H => ?_⟩
  unfold plainSm
  rw [show VT0 65 args = some v from e]
theorem rlLow12VG_sub (args : List AV) (v : AV) (h : rlLow12VG rlLow12V args = some v) : ∃ s, SmOk Tryz.prog gl s ∧ ∀ H, s 67 args H = some (v, H) := by
  have e : rlLow12F args = some v := by
    unfold rlLow12VG at h
    unfold rlLow12F
    exact h
  refine ⟨plainSm VT0, plain_okS vt0_ok, fun H => ?_⟩
  unfold plainSm
  rw [show VT0 67 args = some v from e]
theorem rlLowVG_sub (args : List AV) (v : AV) (h : rlLowVG rlLowV args = some v) : ∃ s, SmOk Tryz.prog gl s ∧ ∀ H, s 71 args H = some (v, H) := by
  have e : rlLowF args = some v := by
    unfold rlLowVG at h
    unfold rlLowF
    exact h
  refine ⟨plainSm VT0, plain_okS vt0_ok, fun H => ?_⟩
  unfold plainSm
  rw [show VT0 71 args = some v from e]
theorem rlHighVG_sub (args : List AV) (v : AV) (h : rlHighVG rlHighV args = some v) : ∃ s, SmOk Tryz.prog gl s ∧ ∀ H, s 69 args H = some (v, H) := by
  have e : rlHighF args = some v := by
    unfold rlHighVG at h
    unfold rlHighF
    exact h
  refine ⟨plainSm VT0, plain_okS vt0_ok, fun H => ?_⟩
  unfold plainSm
  rw [show VT0 69 args = some v from e]
theorem rlHighNearVG_sub (args : List AV) (v : AV) (h : rlHighNearVG rlHighNearV args = some v) : ∃ s, SmOk Tryz.prog gl s ∧ ∀ H, s 70 args H = some (v, H) := by
  have e : rlHighNearF args = some v := by
    unfold rlHighNearVG at h
    unfold rlHighNearF
    exact h
  refine ⟨plainSm VT0, plain_okS vt0_ok, fun H => ?_⟩
  unfold plainSm
  rw [show VT0 70 args = some v from e]
theorem rlPagesVG_sub (args : List AV) (v : AV) (h : rlPagesVG rlPagesV args = some v) : ∃ s, SmOk Tryz.prog gl s ∧ ∀ H, s 66 args H = some (v, H) := by
  have e : rlPagesF args = some v := by
    unfold rlPagesVG at h
    unfold rlPagesF
    exact h
  refine ⟨plainSm VT0, plain_okS vt0_ok, fun H => ?_⟩
  unfold plainSm
  rw [show VT0 66 args = some v from e]
theorem abs_ok : SmOk Tryz.prog gl (plainSm (absT rvFault rvWordE arFault arBitsV rlNearV rlLow12V rlLowV rlHighV rlHighNearV rlPagesV)) := by
  refine plain_sub fun f args v h => ?_
  unfold absT at h
  simp only [Bool.cond_eq_ite, Nat.beq_eq] at h
  split at h
  · rename_i e; subst e; exact rvFaultG_sub _ _ h
  split at h
  · rename_i e; subst e; exact rvWordEG_sub _ _ h
  split at h
  · rename_i e; subst e; exact arFaultG_sub _ _ h
  split at h
  · rename_i e; subst e; exact arBitsVG_sub _ _ h
  split at h
  · rename_i e; subst e; exact rlNearVG_sub _ _ h
  split at h
  · rename_i e; subst e; exact rlLow12VG_sub _ _ h
  split at h
  · rename_i e; subst e; exact rlLowVG_sub _ _ h
  split at h
  · rename_i e; subst e; exact rlHighVG_sub _ _ h
  split at h
  · rename_i e; subst e; exact rlHighNearVG_sub _ _ h
  split at h
  · rename_i e; subst e; exact rlPagesVG_sub _ _ h
  cases h
end
end Go.Proofs.YtpmlihmaodpmfaaGreatDoor
