/- lex.word: the word at the front. -/
import Derived.Test.YthlcgkebfodnmaaGreatDoorLxNum
namespace Go.Proofs.YthlcgkebfodnmaaGreatDoor
open Go Go.Vai
noncomputable section
set_option maxRecDepth 100000
def numT (s : List UInt8) : Bool := Nat.ble 1 (lenU s) && (digP (byteAt s 0) && Nat.blt (lenU s) 4294967296)
def texT (s : List UInt8) : Bool := Nat.ble 1 (lenU s) && Nat.blt (lenU s) 4294967296
def numK {α : Type} (args : List AV) (H : AHeap) (k : AV → AHeap → Option α) : Option α := match args with
  | [.str s] => bc (numT s) (k (numA (numR s)) H) none
  | _ => none
theorem numK_some {α : Type} {args : List AV} {H : AHeap} {k : AV → AHeap → Option α} {r : α} (h : numK args H k = some r) : ∃ v H', plainSm numFv 301 args H = some (v, H') ∧ k v H' = some r := by
  unfold numK at h
  split at h
  case h_2 => cases h
  rename_i s
  obtain ⟨h1, h⟩ := bc_none h
  refine ⟨_, _, ?_, h⟩
  unfold numT at h1
  unfold plainSm numFv
  simp only [Nat.beq_refl, h1, Bool.and_self, cond_true]
def texK {α : Type} (args : List AV) (H : AHeap) (k : AV → AHeap → Option α) : Option α := match args with
  | [.str s] => bc (texT s) (k (.tup [.str (textR s).1, .int .i64 (.ofNat (textR s).2.1), .int .i64 (.ofNat (textR s).2.2)]) H) none
  | _ => none
theorem texK_some {α : Type} {args : List AV} {H : AHeap} {k : AV → AHeap → Option α} {r : α} (h : texK args H k = some r) : ∃ v H', plainSm textFv 302 args H = some (v, H') ∧ k v H' = some r := by
  unfold texK at h
  split at h
  case h_2 => cases h
  rename_i s
  obtain ⟨h1, h⟩ := bc_none h
  refine ⟨_, _, ?_, h⟩
  unfold texT at h1
  unfold plainSm textFv
  simp only [Nat.beq_refl, h1, Bool.and_self, cond_true]
def idxK {α : Type} (args : List AV) (H : AHeap) (k : AV → AHeap → Option α) : Option α := match args with
  | [.str s, .int .u8 (.ofNat n)] => bc (Nat.ble n 255) (k (.int .i64 (idxI n s 0)) H) none
  | _ => none
theorem idxK_some {α : Type} {args : List AV} {H : AHeap} {k : AV → AHeap → Option α} {r : α} (h : idxK args H k = some r) : ∃ v H', extSm kinds 335 args H = some (v, H') ∧ k v H' = some r := by
  unfold idxK at h
  split at h
  case h_2 => cases h
  rename_i s n
  obtain ⟨h1, h⟩ := bc_none h
  refine ⟨_, _, ?_, h⟩
  show (match bndV (.int .u8 (.ofNat n)) 255 with | some n => some (AV.int .i64 (idxI n s 0), H) | none => none) = _
  have : bndV (.int .u8 (.ofNat n)) 255 = some n := by
    show (bif Nat.ble n 255 then some n else none) = some n
    rw [h1]; rfl
  rw [this]
def EWd : Env := envOf Tryz.prog 12 [298, 301, 302, 297, 300, 218, 339, 352, 338, 299] (orSm (extSm kinds) (orSm (plainSm runFv) (orSm (plainSm numFv) (orSm (plainSm textFv) (orSm (plainSm FT0) (plainSm FT1))))))
theorem ewd_ok (w : World) (hw : GlobOk gl w) : EnvOk EWd Tryz.prog (Kept gl w) := envOk_sm (by kernel_rfl) ((smOk_ext ext_ok).or (run_ok.or (num_ok.or (text_ok.or ((plain_ok ft0_ok).or (plain_ok ft1_ok)))))) mixed_ok (fun _ _ _ h => h.1) (kept_carried hw).ext
def SKwd {α : Type} : Smk α := fun f args H k => bif Nat.beq f 298 then runK args H k else bif Nat.beq f 301 then numK args H k else bif Nat.beq f 302 then texK args H k else bif Nat.beq f 335 then idxK args H k else smC EWd f args H k
theorem run_ne {g : Nat} (h : g ≠ 298) (args : List AV) : runFv g args = none := by
  unfold runFv
  split
  · rw [beqF h]; rfl
  · rfl
theorem num_ne {g : Nat} (h : g ≠ 301) (args : List AV) : numFv g args = none := by
  unfold numFv
  split
  · rw [beqF h]; rfl
  · rfl
theorem skwd_ok {α : Type} : SmkOk (α := α) EWd SKwd := by
  intro f args H k r h
  unfold SKwd at h
  simp only [Bool.cond_eq_ite, Nat.beq_eq] at h
  split at h
  · rename_i e
    subst e
    obtain ⟨u, H', h1, h2⟩ := runK_some h
    exact ⟨u, H', (ext_pass (by kernel_rfl)).trans (plain_or h1), h2⟩
  split at h
  · rename_i e
    subst e
    obtain ⟨u, H', h1, h2⟩ := numK_some h
    exact ⟨u, H', (ext_pass (by kernel_rfl)).trans ((plain_ne (run_ne (by decide) _)).trans (plain_or h1)), h2⟩
  split at h
  · rename_i e
    subst e
    obtain ⟨u, H', h1, h2⟩ := texK_some h
    exact ⟨u, H', (ext_pass (by kernel_rfl)).trans ((plain_ne (run_ne (by decide) _)).trans ((plain_ne (num_ne (by decide) _)).trans (plain_or h1))), h2⟩
  split at h
  · rename_i e
    subst e
    obtain ⟨u, H', h1, h2⟩ := idxK_some h
    exact ⟨u, H', or_yes h1, h2⟩
  · exact smC_ok _ _ _ _ _ _ h
def begP (c : UInt8) : Bool := cBegB (cI c)
def signP (c : UInt8) : Bool := !(ilt (idxI c.toNat [44, 58, 43, 45, 40, 41, 64, 61] 0) (.ofNat 0))
structure Wd where
  (kind : Nat)
  (text : List UInt8)
  (num : Nat)
def wordR (s : List UInt8) : Wd × Nat × Nat :=
  bif begP (byteAt s 0) then (bif Nat.blt 128 (runL goP s) then (⟨0, [], 0⟩, 0, 7) else (⟨1, s.take (runL goP s), 0⟩, runL goP s, 0)) else
  bif digP (byteAt s 0) then (⟨2, [], (numR s).1⟩, (numR s).2.1, (numR s).2.2) else
  bif Nat.beq (byteAt s 0).toNat 34 then (⟨3, (textR s).1, 0⟩, (textR s).2.1, (textR s).2.2) else
  bif signP (byteAt s 0) then (⟨4, s.take 1, 0⟩, 1, 0) else (⟨0, [], 0⟩, 0, 12)
def wdC (x : Wd) (at_ : Nat) : List AV := [.int .i64 (.ofNat x.kind), .str x.text, .int .u64 (.ofNat x.num), .int .i64 (.ofNat at_)]
def wordA (x : Wd × Nat × Nat) : AV := .tup [.agg (wdC x.1 0), .int .i64 (.ofNat x.2.1), .int .i64 (.ofNat x.2.2)]
theorem word_run (s : List UInt8) : callPS EWd SKwd noPin 1000 (.call 219 [.str s] (gHeap 12 gl)) [] jK = bc (Nat.blt 0 (lenU s)) (bc (cBegB (.ofNat (UInt8.toNat (byteAt s 0)))) (bc (runT (.fn 299 [] []) s) (bc (Nat.blt 128 (runV (.fn 299 [] []) s)) (some (.tup [.agg [.int .i64 (.ofNat 0), .str [], .int .u64 (.ofNat 0), .int .i64 (.ofNat 0)], .int .i64 (.ofNat 0), .int .i64 (.ofNat 7)])) (bc (Nat.ble (runV (.fn 299 [] []) s) (lenU s)) (some (.tup [.agg [.int .i64 (.ofNat 1), .str (List.take (runV (.fn 299 [] []) s) (List.drop 0 s)), .int .u64 (.ofNat 0), .int .i64 (.ofNat 0)], .int .i64 (.ofNat (runV (.fn 299 [] []) s)), .int .i64 (.ofNat 0)])) (none))) (none)) (bc (cDigB (.ofNat (UInt8.toNat (byteAt s 0)))) (bc (numT s) (some (.tup [.agg [.int .i64 (.ofNat 2), .str [], .int .u64 (.ofNat (Prod.fst (numR s))), .int .i64 (.ofNat 0)], .int .i64 (.ofNat (Prod.fst (Prod.snd (numR s)))), .int .i64 (.ofNat (Prod.snd (Prod.snd (numR s))))])) (none)) (bc (Nat.beq (UInt8.toNat (byteAt s 0)) 34) (bc (texT s) (some (.tup [.agg [.int .i64 (.ofNat 3), .str (Prod.fst (textR s)), .int .u64 (.ofNat 0), .int .i64 (.ofNat 0)], .int .i64 (.ofNat (Prod.fst (Prod.snd (textR s)))), .int .i64 (.ofNat (Prod.snd (Prod.snd (textR s))))])) (none)) (bc (Nat.ble (UInt8.toNat (byteAt s 0)) 255) (bc (!(ilt (idxI (UInt8.toNat (byteAt s 0)) [44, 58, 43, 45, 40, 41, 64, 61] 0) (.ofNat 0))) (bc (Nat.ble 1 (lenU s)) (some (.tup [.agg [.int .i64 (.ofNat 4), .str (List.take 1 (List.drop 0 s)), .int .u64 (.ofNat 0), .int .i64 (.ofNat 0)], .int .i64 (.ofNat 1), .int .i64 (.ofNat 0)])) (none)) (some (.tup [.agg [.int .i64 (.ofNat 0), .str [], .int .u64 (.ofNat 0), .int .i64 (.ofNat 0)], .int .i64 (.ofNat 0), .int .i64 (.ofNat 12)]))) (none))))) (none) := by kernel_rfl
theorem word_val {s : List UInt8} (h1 : 1 ≤ s.length) (hs : s.length < 4294967296) : callPS EWd SKwd noPin 1000 (.call 219 [.str s] (gHeap 12 gl)) [] jK = some (wordA (wordR s)) := by
  refine (word_run s).trans ?_
  have hl : lenU s = s.length := rfl
  have e0 : Nat.blt 0 (lenU s) = true := blt_t (by omega)
  have e1 : runT (.fn 299 [] []) s = true := by
    show (true && Nat.blt s.length 4294967296) = true
    rw [blt_t hs]; rfl
  have e2 : texT s = true := by unfold texT; rw [ble_t (by omega), blt_t (by omega)]; rfl
  have e3 : Nat.ble (runV (.fn 299 [] []) s) (lenU s) = true := ble_t (runL_le goP s)
  have e4 : Nat.ble (UInt8.toNat (byteAt s 0)) 255 = true := ble_t (by have := (byteAt s 0).toNat_lt; omega)
  rw [e0, e1, e2, e3, e4, bc_true]
  unfold wordR
  rw [show cBegB (.ofNat (UInt8.toNat (byteAt s 0))) = begP (byteAt s 0) from rfl, show cDigB (.ofNat (UInt8.toNat (byteAt s 0))) = digP (byteAt s 0) from rfl, show runV (.fn 299 [] []) s = runL goP s from rfl]
  cases begP (byteAt s 0) with
  | true => cases Nat.blt 128 (runL goP s) <;> rfl
  | false =>
    cases hd : digP (byteAt s 0) with
    | true =>
      have e5 : numT s = true := by unfold numT; rw [hd, ble_t (by omega), blt_t (by omega)]; rfl
      rw [e5]; rfl
    | false =>
      cases Nat.beq (byteAt s 0).toNat 34 with
      | true => rfl
      | false =>
        have e6 : Nat.ble 1 (lenU s) = true := ble_t (by omega)
        rw [show signP (byteAt s 0) = !(ilt (idxI (UInt8.toNat (byteAt s 0)) [44, 58, 43, 45, 40, 41, 64, 61] 0) (.ofNat 0)) from rfl]
        cases ilt (idxI (UInt8.toNat (byteAt s 0)) [44, 58, 43, 45, 40, 41, 64, 61] 0) (.ofNat 0) with
        | true => rfl
        | false => first | rfl | (rw [e6]; rfl) | (rw [List.drop_zero, e6]; rfl)
def worT (s : List UInt8) : Bool := Nat.ble 1 (lenU s) && Nat.blt (lenU s) 4294967296
def wordFv : Nat → List AV → Option AV := fun g args => match args with
  | [.str s] => bif Nat.beq g 219 && worT s then some (wordA (wordR s)) else none
  | _ => none
theorem word_ok : SmOk Tryz.prog gl (plainSm wordFv) := plain_okS fun g args v h => by
  unfold wordFv at h
  split at h
  case h_2 => cases h
  rename_i s
  rw [Bool.cond_eq_ite] at h
  split at h
  case isFalse => cases h
  rename_i hb
  unfold worT at hb
  simp only [Bool.and_eq_true, Nat.beq_eq, Nat.blt_eq, Nat.ble_eq] at hb
  obtain ⟨rfl, h1, hs⟩ := hb
  simp only [Option.some.injEq] at h
  subst h
  exact ⟨EWd, 1000, SKwd, skwd_ok, ewd_ok, gl_ok, by kernel_rfl, plain_list rfl, [], word_val h1 hs⟩
end
end Go.Proofs.YthlcgkebfodnmaaGreatDoor
namespace Go.Proofs.YthlcgkebfodnmaaGreatDoor
open Go Go.Vai
noncomputable section
def blP (c : UInt8) : Bool := cBlB (cI c)
def preW (L : List (Wd × Nat)) (r : List (Wd × Nat) × Nat × Nat) : List (Wd × Nat) × Nat × Nat := bif Nat.beq r.2.2 0 then (L ++ r.1, 0, 0) else ([], r.2.1, r.2.2)
def lexF : Nat → List UInt8 → Nat → List (Wd × Nat) × Nat × Nat
  | 0, _, _ => ([], 0, 0)
  | n + 1, s, j => bif !(Nat.blt j s.length) || Nat.beq (byteAt s j).toNat 35 then ([], 0, 0) else
    bif blP (byteAt s j) then lexF n s (j + 1) else
    bif Nat.beq (wordR (s.drop j)).2.2 0 then preW [((wordR (s.drop j)).1, j)] (lexF n s (j + (wordR (s.drop j)).2.1)) else ([], j, (wordR (s.drop j)).2.2)
def lexR (s : List UInt8) : List (Wd × Nat) × Nat × Nat := lexF (s.length + 1) s 0
theorem preW_nil (r : List (Wd × Nat) × Nat × Nat) (h : r.2.2 = 0 → r.2.1 = 0) (h2 : r.2.2 ≠ 0 → r.1 = []) : preW [] r = r := by
  obtain ⟨a, b, c⟩ := r
  unfold preW
  cases c with
  | zero => obtain rfl : b = 0 := h rfl; rfl
  | succ c => obtain rfl : a = [] := h2 (by intro h; cases h); rfl
theorem preW_preW (L M : List (Wd × Nat)) (r : List (Wd × Nat) × Nat × Nat) : preW L (preW M r) = preW (L ++ M) r := by
  unfold preW
  cases h : Nat.beq r.2.2 0 with
  | true => simp
  | false => simp [h]
theorem lexF_shape : ∀ (n : Nat) (s : List UInt8) (j : Nat), ((lexF n s j).2.2 = 0 → (lexF n s j).2.1 = 0) ∧ ((lexF n s j).2.2 ≠ 0 → (lexF n s j).1 = [])
  | 0, _, _ => ⟨fun _ => rfl, fun _ => rfl⟩
  | n + 1, s, j => by
    unfold lexF
    cases (!(Nat.blt j s.length) || Nat.beq (byteAt s j).toNat 35) with
    | true => exact ⟨fun _ => rfl, fun _ => rfl⟩
    | false =>
      simp only [cond_false]
      cases blP (byteAt s j) with
      | true => exact lexF_shape n s (j + 1)
      | false =>
        simp only [cond_false]
        cases h : Nat.beq (wordR (s.drop j)).2.2 0 with
        | true =>
          simp only [cond_true]
          unfold preW
          cases h2 : Nat.beq (lexF n s (j + (wordR (s.drop j)).2.1)).2.2 0 with
          | true => exact ⟨fun _ => rfl, fun h => absurd rfl h⟩
          | false =>
            refine ⟨fun h3 => ?_, fun _ => rfl⟩
            simp only [cond_false] at h3
            rw [h3] at h2; cases h2
        | false =>
          refine ⟨fun h3 => ?_, fun _ => rfl⟩
          simp only [cond_false] at h3
          rw [h3] at h; cases h
theorem textL_len : ∀ (s : List UInt8) (p : List UInt8 × Nat), textL s = some p → 1 ≤ p.2 ∧ p.2 ≤ s.length
  | [], p, h => by rw [textL.eq_def] at h; cases h
  | c :: r, p, h => by
    rw [textL.eq_def] at h
    simp only at h
    cases h1 : Nat.beq c.toNat 34 with
    | true =>
      rw [h1] at h
      simp only [cond_true, Option.some.injEq] at h
      subst h
      exact ⟨Nat.le_refl _, Nat.succ_le_succ (Nat.zero_le _)⟩
    | false =>
      rw [h1] at h
      simp only [cond_false] at h
      cases h2 : Nat.beq c.toNat 92 with
      | true =>
        rw [h2] at h
        simp only [cond_true] at h
        cases r with
        | nil => cases h
        | cons d q =>
          simp only at h
          cases h3 : escP d with
          | false => rw [h3] at h; cases h
          | true =>
            rw [h3] at h
            simp only [cond_true] at h
            cases h4 : textL q with
            | none => rw [h4] at h; cases h
            | some x =>
              rw [h4] at h
              simp only [Option.map_some, Option.some.injEq] at h
              subst h
              have := textL_len q x h4
              simp only [List.length_cons]
              omega
      | false =>
        rw [h2] at h
        simp only [cond_false] at h
        cases h3 : (Nat.blt c.toNat 32 || Nat.blt 126 c.toNat) with
        | true => rw [h3] at h; cases h
        | false =>
          rw [h3] at h
          simp only [cond_false] at h
          cases h4 : textL r with
          | none => rw [h4] at h; cases h
          | some x =>
            rw [h4] at h
            simp only [Option.map_some, Option.some.injEq] at h
            subst h
            have := textL_len r x h4
            simp only [List.length_cons]
            omega
theorem beg_go {c : UInt8} (h : begP c = true) : goP c = true := by
  have e : cGoT (cI c) = some (.bool true) := by
    unfold cGoT
    rw [show cBegB (cI c) = true from h]; rfl
  have := cGoT_val (cI c)
  rw [e] at this
  simp only [Option.some.injEq, AV.bool.injEq] at this
  exact this.symm
theorem dig_go {c : UInt8} (h : digP c = true) : goP c = true := by
  have e : cGoT (cI c) = some (.bool true) := by
    unfold cGoT
    rw [show cDigB (cI c) = true from h]
    cases cBegB (cI c) <;> rfl
  have := cGoT_val (cI c)
  rw [e] at this
  simp only [Option.some.injEq, AV.bool.injEq] at this
  exact this.symm
theorem runL_pos {p : UInt8 → Bool} {s : List UInt8} (h1 : 1 ≤ s.length) (h : p (byteAt s 0) = true) : 1 ≤ runL p s := by
  cases s with
  | nil => simp at h1
  | cons c s =>
    unfold runL
    rw [show p c = true from h]
    exact Nat.le_add_left _ _
theorem numB_len {b fr most : Nat} {p : UInt8 → Bool} {s : List UInt8} (h : (numB b fr most p s).2.2 = 0) : (numB b fr most p s).2.1 = fr + runL p (s.drop fr) := by
  unfold numB at h ⊢
  generalize ((Nat.blt (fr + runL p (s.drop fr)) s.length && goP (byteAt s (fr + runL p (s.drop fr)))) || (Nat.beq b 10 && (Nat.blt 1 (runL p (s.drop fr)) && Nat.beq (byteAt s 0).toNat 48))) = x at h ⊢
  cases x with
  | true => simp at h
  | false =>
    simp only [cond_false] at h ⊢
    cases h2 : Nat.blt most (runL p (s.drop fr)) with
    | true => rw [h2] at h; simp at h
    | false =>
      rw [h2] at h
      simp only [cond_false] at h ⊢
      cases h3 : Nat.blt (valD b ((s.drop fr).take (runL p (s.drop fr)))) 18446744073709551616 with
      | false => rw [h3] at h; simp at h
      | true => rfl
theorem numR_len {s : List UInt8} (h1 : 1 ≤ s.length) (hd : digP (byteAt s 0) = true) (h : (numR s).2.2 = 0) : 1 ≤ (numR s).2.1 ∧ (numR s).2.1 ≤ s.length := by
  unfold numR at h ⊢
  cases hx : hexm s with
  | true =>
    rw [hx] at h
    simp only [cond_true] at h ⊢
    rw [numB_len h]
    have := runL_le hexP (s.drop 2)
    rw [List.length_drop] at this
    unfold hexm at hx
    rw [Bool.and_eq_true, Nat.ble_eq] at hx
    omega
  | false =>
    rw [hx] at h
    simp only [cond_false] at h ⊢
    rw [numB_len h]
    have := runL_le digP (s.drop 0)
    have := runL_pos h1 hd
    rw [List.drop_zero] at *
    omega
theorem textR_len {s : List UInt8} (h1 : 1 ≤ s.length) (h : (textR s).2.2 = 0) : 1 ≤ (textR s).2.1 ∧ (textR s).2.1 ≤ s.length := by
  unfold textR at h ⊢
  cases hx : textL (s.drop 1) with
  | none => rw [hx] at h; simp at h
  | some p =>
    have := textL_len _ p hx
    rw [List.length_drop] at this
    simp only
    omega
theorem wordR_len {s : List UInt8} (h1 : 1 ≤ s.length) (h : (wordR s).2.2 = 0) : 1 ≤ (wordR s).2.1 ∧ (wordR s).2.1 ≤ s.length := by
  unfold wordR at h ⊢
  cases hb : begP (byteAt s 0) with
  | true =>
    rw [hb] at h
    simp only [cond_true] at h ⊢
    cases h2 : Nat.blt 128 (runL goP s) with
    | true => rw [h2] at h; simp at h
    | false => exact ⟨runL_pos h1 (beg_go hb), runL_le goP s⟩
  | false =>
    rw [hb] at h
    simp only [cond_false] at h ⊢
    cases hd : digP (byteAt s 0) with
    | true =>
      rw [hd] at h
      exact numR_len h1 hd h
    | false =>
      rw [hd] at h
      simp only [cond_false] at h ⊢
      cases hq : Nat.beq (byteAt s 0).toNat 34 with
      | true =>
        rw [hq] at h
        exact textR_len h1 h
      | false =>
        rw [hq] at h
        simp only [cond_false] at h ⊢
        cases hg : signP (byteAt s 0) with
        | true => exact ⟨Nat.le_refl _, h1⟩
        | false => rw [hg] at h; simp at h
theorem lexF_fuel (s : List UInt8) : ∀ (n m j : Nat), s.length + 1 ≤ n + j → s.length + 1 ≤ m + j → lexF n s j = lexF m s j
  | 0, 0, _, _, _ => rfl
  | 0, m + 1, j, h, _ => by
    unfold lexF
    rw [blt_f (show ¬ j < s.length by omega)]; rfl
  | n + 1, 0, j, _, h => by
    unfold lexF
    rw [blt_f (show ¬ j < s.length by omega)]; rfl
  | n + 1, m + 1, j, h1, h2 => by
    unfold lexF
    by_cases h : j < s.length
    · rw [lexF_fuel s n m (j + 1) (by omega) (by omega)]
      cases he : Nat.beq (wordR (s.drop j)).2.2 0 with
      | false => rfl
      | true =>
        have := (wordR_len (s := s.drop j) (by rw [List.length_drop]; omega) (Nat.eq_of_beq_eq_true he)).1
        rw [lexF_fuel s n m (j + (wordR (s.drop j)).2.1) (by omega) (by omega)]
    · rw [blt_f h]; rfl
end
end Go.Proofs.YthlcgkebfodnmaaGreatDoor
