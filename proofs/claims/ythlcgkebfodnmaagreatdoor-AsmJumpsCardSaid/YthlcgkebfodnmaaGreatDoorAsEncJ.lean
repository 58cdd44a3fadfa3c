/- isa.Encode of a jump, isa.Operands of its name, as summaries. -/
import Derived.Test.YthlcgkebfodnmaaGreatDoorAsDecJ
namespace Go.Proofs.YthlcgkebfodnmaaGreatDoor
open Go Go.Vai
noncomputable section
set_option maxRecDepth 100000
def opD : Done := ⟨131, [.int .i64 (.ofNat 1), .str [106, 109, 112]], [], .tup [.str [106], .bool true], []⟩
theorem op_fnJ : (EEn.fn 131).isSome = true := by kernel_rfl
theorem enc_fnJ : (EEn.fn 29).isSome = true := by kernel_rfl
theorem opD_run : pack opD.keep (runR EEn 100000 (.call 131 opD.args (gHeap 12 gl))) = some (opD.v, opD.os.map some) := by kernel_rfl
theorem opD_ok : SmOk Tryz.prog gl (closedSm opD) := closed_ok (E := EEn) (n := 100000) een_ok gl_ok op_fnJ (plain_list rfl) (by have := opD_run; rw [runR_eq] at this; exact this) (by decide) (by kernel_rfl)
def jcI (z : Nat) (d : Int) : List Int := bif Nat.beq z 2 then [.ofNat 235, wrapR .u8 (shrI d 0)] else [.ofNat 233, wrapR .u8 (shrI d 0), wrapR .u8 (shrI d 8), wrapR .u8 (shrI d 16), wrapR .u8 (shrI d 24)]
def encO (z : Nat) (d : Int) : Obj1 := ⟨z, 5, some 1, 0, false, false, (jcI z d).map fun x => some (.int .u8 x)⟩
def insJ (nm : List UInt8) (d : Int) : List AV := [.int .i64 (.ofNat 1), .agg [.str nm, .int .i64 (.ofNat 0), .int .i64 (.ofNat 0), .int .i64 (.ofNat 0), .int .i64 (.ofNat 0), .int .i64 d]]
theorem enS_run (d : Int) : callPS EEn (smC EEn) noPin 1000 (.call 29 (insJ nmS d) (gHeap 12 gl)) (pO 273 22232197690472693641478753465956258302627625318115518938045004598291714144564565) (kPack [255]) = bc (ilt d (.negSucc 127)) none (bc (ilt (.ofNat 127) d) none (some (.tup [.sl 255 0 2 none, .int .i64 (.ofNat 0)], [encO 2 d].map some))) := by kernel_rfl
theorem enA_run (d : Int) : callPS EEn (smC EEn) noPin 1000 (.call 29 (insJ nmS d) (gHeap 12 gl)) (pO 249 904570698875279564118494973511336457847320130537168524470705138169762116949) (kPack []) = bc (ilt d (.negSucc 127)) (some (.tup [.nils, .int .i64 (.ofNat 3)], [])) none := by kernel_rfl
theorem enB_run (d : Int) : callPS EEn (smC EEn) noPin 1000 (.call 29 (insJ nmS d) (gHeap 12 gl)) (pO 249 795026180859019735684330528465275509866016128930880149067165553689619690837) (kPack []) = bc (ilt d (.negSucc 127)) none (bc (ilt (.ofNat 127) d) (some (.tup [.nils, .int .i64 (.ofNat 3)], [])) none) := by kernel_rfl
theorem enL_run (d : Int) : callPS EEn (smC EEn) noPin 1000 (.call 29 (insJ nmL d) (gHeap 12 gl)) (pO 273 28716467270081412495184318995992833038532275893428315222004924340753634325525845) (kPack [260]) = bc (ilt d (.negSucc 2147483647)) none (bc (ilt (.ofNat 2147483647) d) none (some (.tup [.sl 260 0 5 none, .int .i64 (.ofNat 0)], [encO 5 d].map some))) := by kernel_rfl
def encA (z : Nat) (d : Int) (H : AHeap) : AV × AHeap := (.tup [.sl H.next 0 z none, .int .i64 (.ofNat 0)], news H ([encO z d].map (mkO H.next [0])))
def encErr (H : AHeap) : AV × AHeap := (.tup [.nils, .int .i64 (.ofNat 3)], H)
def encJ : Sm := fun f args H => match args with
  | [.int .i64 (.ofNat t), .agg [.str nm, .int .i64 (.ofNat a), .int .i64 (.ofNat b), .int .i64 (.ofNat c), .int .i64 (.ofNat e), .int .i64 d]] => bif Nat.beq f 29 && (Nat.beq t 1 && (Nat.beq a 0 && (Nat.beq b 0 && (Nat.beq c 0 && Nat.beq e 0)))) then
      (bif leq nm nmS then (bif ilt d (.negSucc 127) || ilt (.ofNat 127) d then some (encErr H) else some (encA 2 d H))
      else bif leq nm nmL && (!(ilt d (.negSucc 2147483647)) && !(ilt (.ofNat 2147483647) d)) then some (encA 5 d H) else none) else none
  | _ => none
theorem insJ_plain (nm : List UInt8) (d : Int) : ∀ v ∈ insJ nm d, Plain v := plain_list rfl
theorem mkO_enc (b k z : Nat) (d : Int) : mkO b [k] (encO z d) = mkO b [0] (encO z d) := by
  unfold mkO encO jcI
  cases Nat.beq z 2 <;> rfl
theorem encJ_ok : SmOk Tryz.prog gl encJ := by
  intro f args H v H' M w cargs hs hw hr ha
  unfold encJ at hs
  split at hs
  case h_2 => cases hs
  rename_i t nm a b c e d
  rw [Bool.cond_eq_ite] at hs
  split at hs
  case isFalse => cases hs
  rename_i hc
  simp only [Bool.and_eq_true, Nat.beq_eq] at hc
  obtain ⟨rfl, rfl, rfl, rfl, rfl, rfl⟩ := hc
  rw [Bool.cond_eq_ite] at hs
  split at hs
  · rename_i hn
    rw [leq_iff, decide_eq_true_eq] at hn
    subst hn
    rw [Bool.cond_eq_ite] at hs
    split at hs
    · rename_i he
      cases hs
      cases h1 : ilt d (.negSucc 127) with
      | true =>
        have hrun := enA_run d
        rw [h1, bc_true] at hrun
        exact doneS_calls (os := []) (args := insJ nmS d) een_ok (smC_ok EEn) gl_ok enc_fnJ (insJ_plain _ _) hrun List.nodup_nil rfl hw hr ha rfl
      | false =>
        rw [h1, Bool.false_or] at he
        have hrun := enB_run d
        rw [h1, bc_false, he, bc_true] at hrun
        exact doneS_calls (os := []) (args := insJ nmS d) een_ok (smC_ok EEn) gl_ok enc_fnJ (insJ_plain _ _) hrun List.nodup_nil rfl hw hr ha rfl
    · rename_i he
      rw [Bool.or_eq_true, not_or] at he
      simp only [Bool.not_eq_true] at he
      cases hs
      have hrun := enS_run d
      rw [he.1, bc_false, he.2, bc_false] at hrun
      have := doneS_calls (os := [encO 2 d]) (args := insJ nmS d) (u := .tup [.sl H.next 0 2 none, .int .i64 (.ofNat 0)]) een_ok (smC_ok EEn) gl_ok enc_fnJ (insJ_plain _ _) hrun (by decide) rfl hw hr ha rfl
      rw [List.map_cons, List.map_nil, mkO_enc] at this
      exact this
  · rw [Bool.cond_eq_ite] at hs
    split at hs
    case isFalse => cases hs
    rename_i he
    simp only [Bool.and_eq_true, Bool.not_eq_true'] at he
    obtain ⟨hn, h1, h2⟩ := he
    rw [leq_iff, decide_eq_true_eq] at hn
    subst hn
    cases hs
    have hrun := enL_run d
    rw [h1, bc_false, h2, bc_false] at hrun
    have := doneS_calls (os := [encO 5 d]) (args := insJ nmL d) (u := .tup [.sl H.next 0 5 none, .int .i64 (.ofNat 0)]) een_ok (smC_ok EEn) gl_ok enc_fnJ (insJ_plain _ _) hrun (by decide) rfl hw hr ha rfl
    rw [List.map_cons, List.map_nil, mkO_enc] at this
    exact this
def memN (x : Nat) : List Nat → Bool
  | [] => false
  | y :: l => Nat.beq x y || memN x l
def encK {α : Type} (errs : List Nat) (args : List AV) (H : AHeap) (k : AV → AHeap → Option α) : Option α := match args with
  | [.int .i64 (.ofNat t), .agg [.str nm, .int .i64 (.ofNat a), .int .i64 (.ofNat b), .int .i64 (.ofNat c), .int .i64 (.ofNat e), .int .i64 d]] => bc (Nat.beq t 1 && (Nat.beq a 0 && (Nat.beq b 0 && (Nat.beq c 0 && Nat.beq e 0))))
      (bif leq nm nmS then (bif memN H.next errs then bc ((ilt d (.negSucc 127)) || (ilt (.ofNat 127) d)) (k (encErr H).1 (encErr H).2) none else bc (!(ilt d (.negSucc 127))) (bc (!(ilt (.ofNat 127) d)) (k (encA 2 d H).1 (encA 2 d H).2) none) none)
      else bc (leq nm nmL) (bc (!(ilt d (.negSucc 2147483647))) (bc (!(ilt (.ofNat 2147483647) d)) (k (encA 5 d H).1 (encA 5 d H).2) none) none) none) none
  | _ => none
theorem encK_some {α : Type} {errs : List Nat} {args : List AV} {H : AHeap} {k : AV → AHeap → Option α} {r : α} (h : encK errs args H k = some r) : ∃ v H', encJ 29 args H = some (v, H') ∧ k v H' = some r := by
  unfold encK at h
  split at h
  case h_2 => cases h
  rename_i t nm a b c e d
  obtain ⟨h0, h1⟩ := bc_none h
  clear h
  unfold encJ
  simp only [Nat.beq_refl, Bool.true_and, h0, cond_true]
  cases hn : leq nm nmS with
  | true =>
    rw [hn, cond_true] at h1
    rw [cond_true]
    cases hm : memN H.next errs with
    | true =>
      rw [hm, cond_true] at h1
      obtain ⟨h2, h3⟩ := bc_none h1
      rw [h2, cond_true]
      exact ⟨_, _, rfl, h3⟩
    | false =>
      rw [hm, cond_false] at h1
      obtain ⟨h2, h3⟩ := bc_none h1
      obtain ⟨h4, h5⟩ := bc_none h3
      rw [not_f h2, not_f h4]
      exact ⟨_, _, rfl, h5⟩
  | false =>
    rw [hn, cond_false] at h1
    obtain ⟨h2, h3⟩ := bc_none h1
    obtain ⟨h4, h5⟩ := bc_none h3
    obtain ⟨h6, h7⟩ := bc_none h5
    rw [h2, not_f h4, not_f h6]
    exact ⟨_, _, rfl, h7⟩
end
end Go.Proofs.YthlcgkebfodnmaaGreatDoor
