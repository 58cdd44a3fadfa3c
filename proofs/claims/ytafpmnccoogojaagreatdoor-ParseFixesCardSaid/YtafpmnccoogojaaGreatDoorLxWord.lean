/- lex.word: the word at the front. -/
import Derived.Test.YtafpmnccoogojaaGreatDoorLxNum
import Derived.KernelRfl
namespace Go.Proofs.YtafpmnccoogojaaGreatDoor
open Go Go.Vai
noncomputable section
set_option maxRecDepth 100000
def numT (s : List UInt8) : Bool := Nat.ble 1 (lenU s) && (digP (byteAt s 0) && Nat.blt (lenU s) 4294967296)
def texT (s : List UInt8) : Bool := Nat.ble 1 (lenU s) && Nat.blt (lenU s) 4294967296
def numK {α : Type} (args : List AV) (H : AHeap) (k : AV → AHeap → Option α) : Option α := match args with
  | [.str s] => bc (numT s) (k (numA (numR s)) H) none
  | _ => none
theorem numK_some {α : Type} {args : List AV} {H : AHeap} {k : AV → AHeap → Option α} {r : α} (h : numK args H k = some r) : ∃ v H', plainSm numFv 39 args H = some (v, H') ∧ k v H' = some r := by
  unfold numK at h
  split at h
  case h_2 => cases h
  rename_i s
  obtain ⟨h1, h⟩ := bc_none h
  refine ⟨_, _, ?_, h⟩
  unfold numT at h1
  unfold plainSm numFv
  simp only [Nat.beq_refl, h1, Bool.and_self, cond_true]
def texK {α : Type} (args : List AV) (H : AHeap) (k : AV → AHeap → Option α) : Option α := match args with
  | [.str s] => bc (texT s) (k (.tup [.str (textR s).1, .int .i64 (.ofNat (textR s).2.1), .int .i64 (.ofNat (textR s).2.2)]) H) none
  | _ => none
theorem texK_some {α : Type} {args : List AV} {H : AHeap} {k : AV → AHeap → Option α} {r : α} (h : texK args H k = some r) : ∃ v H', plainSm textFv 40 args H = some (v, H') ∧ k v H' = some r := by
  unfold texK at h
  split at h
  case h_2 => cases h
  rename_i s
  obtain ⟨h1, h⟩ := bc_none h
  refine ⟨_, _, ?_, h⟩
  unfold texT at h1
  unfold plainSm textFv
  simp only [Nat.beq_refl, h1, Bool.and_self, cond_true]
def idxK {α : Type} (args : List AV) (H : AHeap) (k : AV → AHeap → Option α) : Option α := match args with
  | [.str s, .int .u8 (.ofNat n)] => bc (Nat.ble n 255) (k (.int .i64 (idxI n s 0)) H) none
  | _ => none
theorem idxK_some {α : Type} {args : List AV} {H : AHeap} {k : AV → AHeap → Option α} {r : α} (h : idxK args H k = some r) : ∃ v H', extSm kinds 84 args H = some (v, H') ∧ k v H' = some r := by
  unfold idxK at h
  split at h
  case h_2 => cases h
  rename_i s n
  obtain ⟨h1, h⟩ := bc_none h
  refine ⟨_, _, ?_, h⟩
  show (match bndV (.int .u8 (.ofNat n)) 255 with | some n => some (AV.int .i64 (idxI n s 0), H) | none => none) = _
  have : bndV (.int .u8 (.ofNat n)) 255 = some n := by
    show (bif Nat.ble n 255 then some n else none) = some n
    rw [h1]; rfl
  rw [this]
def EWd : Env := envOf Tryz.prog 12 [36, 39, 40, 35, 38, 23, 62, 106, 60, 37] (orSm (extSm kinds) (orSm (plainSm runFv) (orSm (plainSm numFv) (orSm (plainSm textFv) (orSm (plainSm FT0) (plainSm FT1))))))
theorem ewd_ok (w : World) (hw : GlobOk gl w) : EnvOk EWd Tryz.prog (Kept gl w) := envOk_sm (by kernel_rfl) ((smOk_ext ext_ok).or (run_ok.or (num_ok.or (text_ok.or ((plain_ok ft0_ok).or (plain_ok ft1_ok)))))) mixed_ok (fun _ _ _ h => h.1) (kept_carried hw).ext
def SKwd {α : Type} : Smk α := fun f args H k => bif Nat.beq f 36 then runK args H k else bif Nat.beq f 39 then numK args H k else bif Nat.beq f 40 then texK args H k else bif Nat.beq f 84 then idxK args H k else smC EWd f args H k
theorem run_ne {g : Nat} (h : g ≠ 36) (args : List AV) : runFv g args = none := by
  unfold runFv
  split
  · rw [beqF h]; rfl
  · rfl
theorem num_ne {g : Nat} (h : g ≠ 39) (args : List AV) : numFv g args = none := by
  unfold numFv
  split
  · rw [beqF h]; rfl
  · rfl
theorem skwd_ok {α : Type} : SmkOk (α := α) EWd SKwd := by
  intro f args H k r h
  unfold SKwd at h
  simp only [Bool.cond_eq_ite, Nat.beq_eq] at h
  split at h
  · rename_i e
    subst e
    obtain ⟨u, H', h1, h2⟩ := runK_some h
    exact ⟨u, H', (ext_pass (by kernel_rfl)).trans (plain_or h1), h2⟩
  split at h
  · rename_i e
    subst e
    obtain ⟨u, H', h1, h2⟩ := numK_some h
    exact ⟨u, H', (ext_pass (by kernel_rfl)).trans ((plain_ne (run_ne (by decide) _)).trans (plain_or h1)), h2⟩
  split at h
  · rename_i e
    subst e
    obtain ⟨u, H', h1, h2⟩ := texK_some h
    exact ⟨u, H', (ext_pass (by kernel_rfl)).trans ((plain_ne (run_ne (by decide) _)).trans ((plain_ne (num_ne (by decide) _)).trans (plain_or h1))), h2⟩
  split at h
  · rename_i e
    subst e
    obtain ⟨u, H', h1, h2⟩ := idxK_some h
    exact ⟨u, H', or_yes h1, h2⟩
  · exact smC_ok _ _ _ _ _ _ h
def begP (c : UInt8) : Bool := cBegB (cI c)
def signP (c : UInt8) : Bool := !(ilt (idxI c.toNat [44, 58, 43, 45, 40, 41, 64, 61] 0) (.ofNat 0))
structure Wd where
  (kind : Nat)
  (text : List UInt8)
  (num : Nat)
def wordR (s : List UInt8) : Wd × Nat × Nat :=
  bif begP (byteAt s 0) then (bif Nat.blt 128 (runL goP s) then (⟨0, [], 0⟩, 0, 7) else (⟨1, s.take (runL goP s), 0⟩, runL goP s, 0)) else
  bif digP (byteAt s 0) then (⟨2, [], (numR s).1⟩, (numR s).2.1, (numR s).2.2) else
  bif Nat.beq (byteAt s 0).toNat 34 then (⟨3, (textR s).1, 0⟩, (textR s).2.1, (textR s).2.2) else
  bif signP (byteAt s 0) then (⟨4, s.take 1, 0⟩, 1, 0) else (⟨0, [], 0⟩, 0, 12)
def wdC (x : Wd) (at_ : Nat) : List AV := [.int .i64 (.ofNat x.kind), .str x.text, .int .u64 (.ofNat x.num), .int .i64 (.ofNat at_)]
def wordA (x : Wd × Nat × Nat) : AV := .tup [.agg (wdC x.1 0), .int .i64 (.ofNat x.2.1), .int .i64 (.ofNat x.2.2)]
theorem word_run (s : List UInt8) : callPS EWd SKwd noPin 1000 (.call 24 [.str s] (gHeap 12 gl)) [] jK = bc (Nat.blt 0 (lenU s)) (bc (cBegB (.ofNat (UInt8.toNat (byteAt s 0)))) (bc (runT (.fn 37 [] []) s) (bc (Nat.blt 128 (runV (.fn 37 [] []) s)) (some (.tup [.agg [.int .i64 (.ofNat 0), .str [], .int .u64 (.ofNat 0), .int .i64 (.ofNat 0)], .int .i64 (.ofNat 0), .int .i64 (.ofNat 7)])) (bc (Nat.ble (runV (.fn 37 [] []) s) (lenU s)) (some (.tup [.agg [.int .i64 (.ofNat 1), .str (List.take (runV (.fn 37 [] []) s) (List.drop 0 s)), .int .u64 (.ofNat 0), .int .i64 (.ofNat 0)], .int .i64 (.ofNat (runV (.fn 37 [] []) s)), .int .i64 (.ofNat 0)])) (none))) (none)) (bc (cDigB (.ofNat (UInt8.toNat (byteAt s 0)))) (bc (numT s) (some (.tup [.agg [.int .i64 (.ofNat 2), .str [], .int .u64 (.ofNat (Prod.fst (numR s))), .int .i64 (.ofNat 0)], .int .i64 (.ofNat (Prod.fst (Prod.snd (numR s)))), .int .i64 (.ofNat (Prod.snd (Prod.snd (numR s))))])) (none)) (bc (Nat.beq (UInt8.toNat (byteAt s 0)) 34) (bc (texT s) (some (.tup [.agg [.int .i64 (.ofNat 3), .str (Prod.fst (textR s)), .int .u64 (.ofNat 0), .int .i64 (.ofNat 0)], .int .i64 (.ofNat (Prod.fst (Prod.snd (textR s)))), .int .i64 (.ofNat (Prod.snd (Prod.snd (textR s))))])) (none)) (bc (Nat.ble (UInt8.toNat (byteAt s 0)) 255) (bc (!(ilt (idxI (UInt8.toNat (byteAt s 0)) [44, 58, 43, 45, 40, 41, 64, 61] 0) (.ofNat 0))) (bc (Nat.ble 1 (lenU s)) (some (.tup [.agg [.int .i64 (.ofNat 4), .str (List.take 1 (List.drop 0 s)), .int .u64 (.ofNat 0), .int .i64 (.ofNat 0)], .int .i64 (.ofNat 1), .int .i64 (.ofNat 0)])) (none)) (some (.tup [.agg [.int .i64 (.ofNat 0), .str [], .int .u64 (.ofNat 0), .int .i64 (.ofNat 0)], .int .i64 (.ofNat 0), .int .i64 (.ofNat 12)]))) (none))))) (none) := by kernel_rfl
theorem word_val {s : List UInt8} (h1 : 1 ≤ s.length) (hs : s.length < 4294967296) : callPS EWd SKwd noPin 1000 (.call 24 [.str s] (gHeap 12 gl)) [] jK = some (wordA (wordR s)) := by
  refine (word_run s).trans ?_
  have hl : lenU s = s.length := rfl
  have e0 : Nat.blt 0 (lenU s) = true := blt_t (by omega)
  have e1 : runT (.fn 37 [] []) s = true := by
    show (true && Nat.blt s.length 4294967296) = true
    rw [blt_t hs]; rfl
  have e2 : texT s = true := by unfold texT; rw [ble_t (by omega), blt_t (by omega)]; rfl
  have e3 : Nat.ble (runV (.fn 37 [] []) s) (lenU s) = true := ble_t (runL_le goP s)
  have e4 : Nat.ble (UInt8.toNat (byteAt s 0)) 255 = true := ble_t (by have := (byteAt s 0).toNat_lt; omega)
  rw [e0, e1, e2, e3, e4, bc_true]
  unfold wordR
  rw [show cBegB (.ofNat (UInt8.toNat (byteAt s 0))) = begP (byteAt s 0) from rfl, show cDigB (.ofNat (UInt8.toNat (byteAt s 0))) = digP (byteAt s 0) from rfl, show runV (.fn 37 [] []) s = runL goP s from rfl]
  cases begP (byteAt s 0) with
  | true => cases Nat.blt 128 (runL goP s) <;> rfl
  | false =>
    cases hd : digP (byteAt s 0) with
    | true =>
      have e5 : numT s = true := by unfold numT; rw [hd, ble_t (by omega), blt_t (by omega)]; rfl
      rw [e5]; rfl
    | false =>
      cases Nat.beq (byteAt s 0).toNat 34 with
      | true => rfl
      | false =>
        have e6 : Nat.ble 1 (lenU s) = true := ble_t (by omega)
        rw [show signP (byteAt s 0) = !(ilt (idxI (UInt8.toNat (byteAt s 0)) [44, 58, 43, 45, 40, 41, 64, 61] 0) (.ofNat 0)) from rfl]
        cases ilt (idxI (UInt8.toNat (byteAt s 0)) [44, 58, 43, 45, 40, 41, 64, 61] 0) (.ofNat 0) with
        | true => rfl
        | false => first | rfl | (rw [e6]; rfl) | (rw [List.drop_zero, e6]; rfl)
def worT (s : List UInt8) : Bool := Nat.ble 1 (lenU s) && Nat.blt (lenU s) 4294967296
def wordFv : Nat → List AV → Option AV := fun g args => match args with
  | [.str s] => bif Nat.beq g 24 && worT s then some (wordA (wordR s)) else none
  | _ => none
theorem word_ok : SmOk Tryz.prog gl (plainSm wordFv) := plain_okS fun g args v h => by
  unfold wordFv at h
  split at h
  case h_2 => cases h
  rename_i s
  rw [Bool.cond_eq_ite] at h
  split at h
  case isFalse => cases h
  rename_i hb
  unfold worT at hb
  simp only [Bool.and_eq_true, Nat.beq_eq, Nat.blt_eq, Nat.ble_eq] at hb
  obtain ⟨rfl, h1, hs⟩ := hb
  simp only [Option.some.injEq] at h
  subst h
  exact ⟨EWd, 1000, SKwd, skwd_ok, ewd_ok, gl_ok, by kernel_rfl, plain_list rfl, [], word_val h1 hs⟩
end
end Go.Proofs.YtafpmnccoogojaaGreatDoor
