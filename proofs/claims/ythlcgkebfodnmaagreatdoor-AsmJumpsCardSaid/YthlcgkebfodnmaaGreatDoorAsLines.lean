/- lex.Lines on texts of a few lines whose words are known, as a summary. -/
import Derived.Test.YthlcgkebfodnmaaGreatDoorLxLine
namespace Go.Proofs.YthlcgkebfodnmaaGreatDoor
open Go Go.Vai
noncomputable section
set_option maxRecDepth 100000
abbrev WP := Wd × Nat
def wcO (p : WP) : List (Option AV) := [some (.int .i64 (.ofNat p.1.kind)), some (.str p.1.text), some (.int .u64 (.ofNat p.1.num)), some (.int .i64 (.ofNat p.2))]
def rowO (ws : List WP) : Obj1 := ⟨ws.length * 4, 147, some 4, 0, false, false, ws.flatMap wcO⟩
def outO (l : List (Nat × Nat)) : Obj1 := ⟨l.length, 85, some 1, 0, false, false, l.map fun x => some (.sl x.1 0 x.2 none)⟩
def ELi : Env := envOf Tryz.prog 12 [58, 56, 57] (orSm (extSm kinds) (orSm (countSm 56) (orSm (splitSm 57 9) lineSm)))
theorem eli_ok (w : World) (hw : GlobOk gl w) : EnvOk ELi Tryz.prog (Kept gl w) := envOk_sm (by kernel_rfl) ((smOk_ext ext_ok).or (count_ok1.or (split_ok1.or line_ok))) mixed_ok (fun _ _ _ h => h.1) (kept_carried hw).ext
def lnK {α : Type} (l : List UInt8) (ws : List WP) (s : List UInt8) (H : AHeap) (k : AV → AHeap → Option α) : Option α := bc (leq s l) (k (.tup [.sl H.next 0 ws.length none, .int .i64 (.ofNat 0), .int .i64 (.ofNat 0)]) (H.new (rowW ws))) none
def SKl {α : Type} (s : List UInt8) (ls : List (List UInt8)) (at_ : Nat → (List UInt8 → AHeap → (AV → AHeap → Option α) → Option α)) : Smk α := fun f args H k => bif Nat.beq f 58 then (match args with
  | [.str x] => at_ H.next x H k
  | _ => none) else bif Nat.beq f 56 then (match args with
  | [.str x, .str [10]] => bc (leq x s) (k (.int .i64 (.ofNat (ls.length - 1))) H) none
  | _ => none) else bif Nat.beq f 57 then (match args with
  | [.str x, .str [10]] => bc (leq x s) (k (.sl H.next 0 ls.length (some ls.length)) (newRowA H 9 (ls.map .str))) none
  | _ => none) else smC ELi f args H k
def ata {α : Type} (l0 l1 l2 l3 : List UInt8) (w0_0 w1_0 w1_1 w2_0 w2_1 w3_0 w3_1 w3_2 w3_3 : WP) : Nat → (List UInt8 → AHeap → (AV → AHeap → Option α) → Option α) := fun n x H k => bif Nat.beq n 13 then lnK l0 [w0_0] x H k else bif Nat.beq n 16 then lnK l1 [w1_0, w1_1] x H k else bif Nat.beq n 19 then lnK l2 [w2_0, w2_1] x H k else bif Nat.beq n 22 then lnK l3 [w3_0, w3_1, w3_2, w3_3] x H k else none
def keepa : List Nat := [13, 16, 19, 22, 24]
theorem runa (s l0 l1 l2 l3 : List UInt8) (w0_0 w1_0 w1_1 w2_0 w2_1 w3_0 w3_1 w3_2 w3_3 : WP) : callPS ELi (SKl s [l0, l1, l2, l3] (ata l0 l1 l2 l3 w0_0 w1_0 w1_1 w2_0 w2_1 w3_0 w3_1 w3_2 w3_3)) noPin 9 (.call 19 [.str s] (gHeap 12 gl)) (pO 14 2720) (kPack keepa) = bc (Nat.blt 262144 (lenU s)) none (bc (leq s s) (bc (leq s s) (bc (leq l0 l0) (bc (leq l1 l1) (bc (leq l2 l2) (bc (leq l3 l3) (some (.tup [.sl 24 0 4 none, .int .i64 (.ofNat 0), .int .i64 (.ofNat 0), .int .i64 (.ofNat 0)], ([[w0_0], [w1_0, w1_1], [w2_0, w2_1], [w3_0, w3_1, w3_2, w3_3]].map rowO ++ [outO [(13, 1), (16, 2), (19, 2), (22, 4)]]).map some)) none) none) none) none) none) none) := by kernel_rfl
def atb {α : Type} (l0 l1 l2 l3 l4 : List UInt8) (w0_0 w0_1 w1_0 w1_1 w2_0 w2_1 w3_0 w3_1 w3_2 w3_3 w4_0 w4_1 w4_2 w4_3 : WP) : Nat → (List UInt8 → AHeap → (AV → AHeap → Option α) → Option α) := fun n x H k => bif Nat.beq n 13 then lnK l0 [w0_0, w0_1] x H k else bif Nat.beq n 16 then lnK l1 [w1_0, w1_1] x H k else bif Nat.beq n 19 then lnK l2 [w2_0, w2_1] x H k else bif Nat.beq n 22 then lnK l3 [w3_0, w3_1, w3_2, w3_3] x H k else bif Nat.beq n 25 then lnK l4 [w4_0, w4_1, w4_2, w4_3] x H k else none
def keepb : List Nat := [13, 16, 19, 22, 25, 27]
theorem runb (s l0 l1 l2 l3 l4 : List UInt8) (w0_0 w0_1 w1_0 w1_1 w2_0 w2_1 w3_0 w3_1 w3_2 w3_3 w4_0 w4_1 w4_2 w4_3 : WP) : callPS ELi (SKl s [l0, l1, l2, l3, l4] (atb l0 l1 l2 l3 l4 w0_0 w0_1 w1_0 w1_1 w2_0 w2_1 w3_0 w3_1 w3_2 w3_3 w4_0 w4_1 w4_2 w4_3)) noPin 9 (.call 19 [.str s] (gHeap 12 gl)) (pO 16 10912) (kPack keepb) = bc (Nat.blt 262144 (lenU s)) none (bc (leq s s) (bc (leq s s) (bc (leq l0 l0) (bc (leq l1 l1) (bc (leq l2 l2) (bc (leq l3 l3) (bc (leq l4 l4) (some (.tup [.sl 27 0 5 none, .int .i64 (.ofNat 0), .int .i64 (.ofNat 0), .int .i64 (.ofNat 0)], ([[w0_0, w0_1], [w1_0, w1_1], [w2_0, w2_1], [w3_0, w3_1, w3_2, w3_3], [w4_0, w4_1, w4_2, w4_3]].map rowO ++ [outO [(13, 2), (16, 2), (19, 2), (22, 4), (25, 4)]]).map some)) none) none) none) none) none) none) none) := by kernel_rfl
def linO (s : List UInt8) : List (List WP) := (cutL 10 s).map fun l => (lexR l).1
def linG (s : List UInt8) : Bool := (cutL 10 s).all fun l => Nat.beq (lexR l).2.2 0
def ansV (H : AHeap) (m : Nat) : AV := .tup [.sl (H.next + m) 0 m none, .int .i64 (.ofNat 0), .int .i64 (.ofNat 0), .int .i64 (.ofNat 0)]
def ansa (ws : List (List WP)) (H : AHeap) : AHeap := news H ((ws.map rowO ++ [outO [(13, 1), (16, 2), (19, 2), (22, 4)]]).map (mkO H.next keepa))
def ansb (ws : List (List WP)) (H : AHeap) : AHeap := news H ((ws.map rowO ++ [outO [(13, 2), (16, 2), (19, 2), (22, 4), (25, 4)]]).map (mkO H.next keepb))
open Classical in
def linesSm : Sm := fun f args H => match args with
  | [.str s] => bif Nat.beq f 19 && (Nat.ble s.length 262144 && linG s) then (if (linO s).map List.length = [1, 2, 2, 4] then some (ansV H 4, ansa (linO s) H) else if (linO s).map List.length = [2, 2, 2, 4, 4] then some (ansV H 5, ansb (linO s) H) else none) else none
  | _ => none
theorem len1 {α : Type} {l : List α} (h : l.length = 1) : ∃ a, l = [a] := by
  match l, h with
  | [a], _ => exact ⟨a, rfl⟩
theorem len2 {α : Type} {l : List α} (h : l.length = 2) : ∃ a b, l = [a, b] := by
  match l, h with
  | [a, b], _ => exact ⟨a, b, rfl⟩
theorem len4 {α : Type} {l : List α} (h : l.length = 4) : ∃ a b c d, l = [a, b, c, d] := by
  match l, h with
  | [a, b, c, d], _ => exact ⟨a, b, c, d, rfl⟩
theorem len5 {α : Type} {l : List α} (h : l.length = 5) : ∃ a b c d e, l = [a, b, c, d, e] := by
  match l, h with
  | [a, b, c, d, e], _ => exact ⟨a, b, c, d, e, rfl⟩
theorem lex_all {l : List UInt8} {ws : List WP} (h1 : (lexR l).1 = ws) (h2 : Nat.beq (lexR l).2.2 0 = true) : lexR l = (ws, 0, 0) := by
  rw [Nat.beq_eq] at h2
  have h3 := (lexF_shape (l.length + 1) l 0).1 h2
  have h3 : (lexR l).2.1 = 0 := h3
  generalize lexR l = x at h1 h2 h3
  obtain ⟨a, b, c⟩ := x
  simp only at h1 h2 h3
  rw [h1, h2, h3]
theorem cut_mem (c : UInt8) {s l : List UInt8} (h : l ∈ cutL c s) : l.length ≤ s.length := by
  have key : ∀ (n : Nat) (s l : List UInt8), s.length ≤ n → l ∈ cutL c s → l.length ≤ s.length := by
    intro n
    induction n with
    | zero =>
      intro s l hs h
      rw [cutL_at] at h
      split at h
      · omega
      · rw [List.mem_singleton] at h; rw [h]; exact Nat.le_refl _
    | succ n ih =>
      intro s l hs h
      rw [cutL_at] at h
      split at h
      · rcases List.mem_cons.1 h with rfl | h
        · rw [List.length_take]; exact Nat.min_le_right _ _
        · have := ih _ l (by rw [List.length_drop]; omega) h
          rw [List.length_drop] at this; omega
      · rw [List.mem_singleton] at h; rw [h]; exact Nat.le_refl _
  exact key _ s l (Nat.le_refl _) h
theorem skl_ok {α : Type} {s : List UInt8} {ls : List (List UInt8)} {at_ : Nat → (List UInt8 → AHeap → (AV → AHeap → Option α) → Option α)} (hs : s.length ≤ 262144) (hc : cutL 10 s = ls) (ha : ∀ n x H k r, at_ n x H k = some r → ∃ l ∈ ls, ∃ p ws, lexR l = (p :: ws, 0, 0) ∧ lnK l (p :: ws) x H k = some r) : SmkOk ELi (SKl s ls at_) := by
  intro f args H k r h
  unfold SKl at h
  simp only [Bool.cond_eq_ite, Nat.beq_eq] at h
  split at h
  · rename_i e
    subst e
    split at h
    case h_2 => cases h
    rename_i x
    obtain ⟨l, hl, p, ws, hx, h⟩ := ha _ _ _ _ _ h
    unfold lnK at h
    obtain ⟨e, h'⟩ := bc_none h
    clear h
    rw [leq_iff, decide_eq_true_eq] at e
    subst e
    refine ⟨_, _, ?_, h'⟩
    show orSm (extSm kinds) (orSm (countSm 56) (orSm (splitSm 57 9) lineSm)) 58 [.str x] H = _
    rw [or_ne (ext_ne (by decide) _ H), or_ne rfl, or_ne rfl]
    unfold lineSm
    rw [← hc] at hl
    have := cut_mem 10 hl
    simp only [Nat.beq_refl, Bool.true_and]
    rw [show Nat.blt (lenU x) 1048576 = true from blt_t (show x.length < _ by omega)]
    simp only [cond_true, Option.some.injEq]
    unfold lineV
    rw [hx]
  split at h
  · rename_i e
    subst e
    split at h
    case h_2 => cases h
    rename_i x
    obtain ⟨e, h'⟩ := bc_none h
    clear h
    rw [leq_iff, decide_eq_true_eq] at e
    subst e
    refine ⟨_, _, ?_, h'⟩
    show orSm (extSm kinds) (orSm (countSm 56) (orSm (splitSm 57 9) lineSm)) 56 [.str x, .str [10]] H = _
    rw [or_ne (ext_ne (by decide) _ H)]
    refine or_yes ?_
    unfold countSm
    simp only [Nat.beq_refl, Bool.true_and]
    rw [blt_t (show x.length < 4294967281 by omega)]
    have := cutL_len 10 x
    rw [hc] at this
    simp only [cond_true, this, Nat.add_sub_cancel]
  split at h
  · rename_i e
    subst e
    split at h
    case h_2 => cases h
    rename_i x
    obtain ⟨e, h'⟩ := bc_none h
    clear h
    rw [leq_iff, decide_eq_true_eq] at e
    subst e
    refine ⟨_, _, ?_, h'⟩
    show orSm (extSm kinds) (orSm (countSm 56) (orSm (splitSm 57 9) lineSm)) 57 [.str x, .str [10]] H = _
    rw [or_ne (ext_ne (by decide) _ H), or_ne rfl]
    refine or_yes ?_
    unfold splitSm
    simp only [Nat.beq_refl, Bool.true_and]
    rw [blt_t (show x.length < 4294967281 by omega), hc]
    rfl
  · exact smC_ok _ _ _ _ _ _ h
theorem lines_fn : (ELi.fn 19).isSome = true := by kernel_rfl
theorem ata_ok {α : Type} {l0 l1 l2 l3 : List UInt8} {w0_0 w1_0 w1_1 w2_0 w2_1 w3_0 w3_1 w3_2 w3_3 : WP} (e0 : lexR l0 = ([w0_0], 0, 0)) (e1 : lexR l1 = ([w1_0, w1_1], 0, 0)) (e2 : lexR l2 = ([w2_0, w2_1], 0, 0)) (e3 : lexR l3 = ([w3_0, w3_1, w3_2, w3_3], 0, 0)) (n : Nat) (x : List UInt8) (H : AHeap) (k : AV → AHeap → Option α) (r : α) (h : ata l0 l1 l2 l3 w0_0 w1_0 w1_1 w2_0 w2_1 w3_0 w3_1 w3_2 w3_3 n x H k = some r) : ∃ l ∈ [l0, l1, l2, l3], ∃ p ws, lexR l = (p :: ws, 0, 0) ∧ lnK l (p :: ws) x H k = some r := by
  unfold ata at h
  rw [Bool.cond_eq_ite] at h
  split at h
  · exact ⟨l0, by simp, _, _, e0, h⟩
  rw [Bool.cond_eq_ite] at h
  split at h
  · exact ⟨l1, by simp, _, _, e1, h⟩
  rw [Bool.cond_eq_ite] at h
  split at h
  · exact ⟨l2, by simp, _, _, e2, h⟩
  rw [Bool.cond_eq_ite] at h
  split at h
  · exact ⟨l3, by simp, _, _, e3, h⟩
  cases h
theorem lina_calls {s : List UInt8} (hs : s.length ≤ 262144) (hg : linG s = true) (h : (linO s).map List.length = [1, 2, 2, 4]) {M : List MEnt} {H : AHeap} {w : World} {cargs : List Value} (hw : GlobOk gl w) (hr : HRel M H w) (ha : VRels M [.str s] cargs) : CallsA Tryz.prog 19 cargs M H w (.ret (ansV H 4) (ansa (linO s) H)) := by
  have hc : (cutL 10 s).length = 4 := by
    have := congrArg List.length h
    unfold linO at this
    simpa using this
  obtain ⟨l0, l1, l2, l3, hc⟩ := len4 hc
  unfold linG at hg
  rw [hc] at hg
  have ho : linO s = [(lexR l0).1, (lexR l1).1, (lexR l2).1, (lexR l3).1] := by unfold linO; rw [hc]; rfl
  rw [ho] at h ⊢
  simp only [List.map_cons, List.map_nil, List.cons.injEq, and_true] at h
  simp only [List.all_cons, List.all_nil, Bool.and_true, Bool.and_eq_true] at hg
  obtain ⟨h0, h1, h2, h3⟩ := h
  obtain ⟨g0, g1, g2, g3⟩ := hg
  obtain ⟨w0_0, f0⟩ := len1 h0
  obtain ⟨w1_0, w1_1, f1⟩ := len2 h1
  obtain ⟨w2_0, w2_1, f2⟩ := len2 h2
  obtain ⟨w3_0, w3_1, w3_2, w3_3, f3⟩ := len4 h3
  have e0 := lex_all f0 g0
  have e1 := lex_all f1 g1
  have e2 := lex_all f2 g2
  have e3 := lex_all f3 g3
  rw [f0, f1, f2, f3]
  have hr2 := runa s l0 l1 l2 l3 w0_0 w1_0 w1_1 w2_0 w2_1 w3_0 w3_1 w3_2 w3_3
  rw [show Nat.blt 262144 (lenU s) = false from blt_f (show ¬ 262144 < s.length by omega)] at hr2
  simp only [leq_self] at hr2
  exact doneS_calls (args := [.str s]) eli_ok (skl_ok hs hc (ata_ok e0 e1 e2 e3)) gl_ok lines_fn (plain_list rfl) hr2 (by decide) (by rfl) hw hr ha rfl
theorem atb_ok {α : Type} {l0 l1 l2 l3 l4 : List UInt8} {w0_0 w0_1 w1_0 w1_1 w2_0 w2_1 w3_0 w3_1 w3_2 w3_3 w4_0 w4_1 w4_2 w4_3 : WP} (e0 : lexR l0 = ([w0_0, w0_1], 0, 0)) (e1 : lexR l1 = ([w1_0, w1_1], 0, 0)) (e2 : lexR l2 = ([w2_0, w2_1], 0, 0)) (e3 : lexR l3 = ([w3_0, w3_1, w3_2, w3_3], 0, 0)) (e4 : lexR l4 = ([w4_0, w4_1, w4_2, w4_3], 0, 0)) (n : Nat) (x : List UInt8) (H : AHeap) (k : AV → AHeap → Option α) (r : α) (h : atb l0 l1 l2 l3 l4 w0_0 w0_1 w1_0 w1_1 w2_0 w2_1 w3_0 w3_1 w3_2 w3_3 w4_0 w4_1 w4_2 w4_3 n x H k = some r) : ∃ l ∈ [l0, l1, l2, l3, l4], ∃ p ws, lexR l = (p :: ws, 0, 0) ∧ lnK l (p :: ws) x H k = some r := by
  unfold atb at h
  rw [Bool.cond_eq_ite] at h
  split at h
  · exact ⟨l0, by simp, _, _, e0, h⟩
  rw [Bool.cond_eq_ite] at h
  split at h
  · exact ⟨l1, by simp, _, _, e1, h⟩
  rw [Bool.cond_eq_ite] at h
  split at h
  · exact ⟨l2, by simp, _, _, e2, h⟩
  rw [Bool.cond_eq_ite] at h
  split at h
  · exact ⟨l3, by simp, _, _, e3, h⟩
  rw [Bool.cond_eq_ite] at h
  split at h
  · exact ⟨l4, by simp, _, _, e4, h⟩
  cases h
theorem linb_calls {s : List UInt8} (hs : s.length ≤ 262144) (hg : linG s = true) (h : (linO s).map List.length = [2, 2, 2, 4, 4]) {M : List MEnt} {H : AHeap} {w : World} {cargs : List Value} (hw : GlobOk gl w) (hr : HRel M H w) (ha : VRels M [.str s] cargs) : CallsA Tryz.prog 19 cargs M H w (.ret (ansV H 5) (ansb (linO s) H)) := by
  have hc : (cutL 10 s).length = 5 := by
    have := congrArg List.length h
    unfold linO at this
    simpa using this
  obtain ⟨l0, l1, l2, l3, l4, hc⟩ := len5 hc
  unfold linG at hg
  rw [hc] at hg
  have ho : linO s = [(lexR l0).1, (lexR l1).1, (lexR l2).1, (lexR l3).1, (lexR l4).1] := by unfold linO; rw [hc]; rfl
  rw [ho] at h ⊢
  simp only [List.map_cons, List.map_nil, List.cons.injEq, and_true] at h
  simp only [List.all_cons, List.all_nil, Bool.and_true, Bool.and_eq_true] at hg
  obtain ⟨h0, h1, h2, h3, h4⟩ := h
  obtain ⟨g0, g1, g2, g3, g4⟩ := hg
  obtain ⟨w0_0, w0_1, f0⟩ := len2 h0
  obtain ⟨w1_0, w1_1, f1⟩ := len2 h1
  obtain ⟨w2_0, w2_1, f2⟩ := len2 h2
  obtain ⟨w3_0, w3_1, w3_2, w3_3, f3⟩ := len4 h3
  obtain ⟨w4_0, w4_1, w4_2, w4_3, f4⟩ := len4 h4
  have e0 := lex_all f0 g0
  have e1 := lex_all f1 g1
  have e2 := lex_all f2 g2
  have e3 := lex_all f3 g3
  have e4 := lex_all f4 g4
  rw [f0, f1, f2, f3, f4]
  have hr2 := runb s l0 l1 l2 l3 l4 w0_0 w0_1 w1_0 w1_1 w2_0 w2_1 w3_0 w3_1 w3_2 w3_3 w4_0 w4_1 w4_2 w4_3
  rw [show Nat.blt 262144 (lenU s) = false from blt_f (show ¬ 262144 < s.length by omega)] at hr2
  simp only [leq_self] at hr2
  exact doneS_calls (args := [.str s]) eli_ok (skl_ok hs hc (atb_ok e0 e1 e2 e3 e4)) gl_ok lines_fn (plain_list rfl) hr2 (by decide) (by rfl) hw hr ha rfl
theorem lines_ok : SmOk Tryz.prog gl linesSm := by
  intro f args H v H' M w cargs hs hw hr ha
  unfold linesSm at hs
  split at hs
  case h_2 => cases hs
  rename_i s
  rw [Bool.cond_eq_ite] at hs
  split at hs
  case isFalse => cases hs
  rename_i hb
  simp only [Bool.and_eq_true, Nat.beq_eq, Nat.ble_eq] at hb
  obtain ⟨rfl, h1, h2⟩ := hb
  split at hs
  · rename_i h
    cases hs
    exact lina_calls h1 h2 h hw hr ha
  split at hs
  · rename_i h
    cases hs
    exact linb_calls h1 h2 h hw hr ha
  · cases hs
end
end Go.Proofs.YthlcgkebfodnmaaGreatDoor
namespace Go.Proofs.YthlcgkebfodnmaaGreatDoor
open Go Go.Vai
noncomputable section
set_option maxRecDepth 100000
theorem byte_all : ((List.range 256).all fun n => (!(cBlB (.ofNat n)) || !(cGoB (.ofNat n))) && ((!(cBlB (.ofNat n)) || !(Nat.beq n 35)) && ((!(cHexB (.ofNat n)) || cGoB (.ofNat n)) && (!(cDigB (.ofNat n)) || !(Nat.beq n 120))))) = true := by kernel_rfl
theorem byte_at (c : UInt8) : ((!(blP c) || !(goP c)) && ((!(blP c) || !(Nat.beq c.toNat 35)) && ((!(hexP c) || goP c) && (!(digP c) || !(Nat.beq c.toNat 120))))) = true := List.all_eq_true.1 byte_all c.toNat (List.mem_range.2 c.toNat_lt)
theorem bl_go {c : UInt8} (h : blP c = true) : goP c = false := by
  have := byte_at c
  cases hg : goP c with
  | false => rfl
  | true => rw [h, hg] at this; simp at this
theorem bl_35 {c : UInt8} (h : blP c = true) : Nat.beq c.toNat 35 = false := by
  have := byte_at c
  cases hg : Nat.beq c.toNat 35 with
  | false => rfl
  | true => rw [h, hg] at this; simp at this
theorem hex_go {c : UInt8} (h : hexP c = true) : goP c = true := by
  have := byte_at c
  cases hg : goP c with
  | true => rfl
  | false => rw [h, hg] at this; simp at this
theorem dig_x {c : UInt8} (h : digP c = true) : c ≠ 120 := fun e => by
  have := byte_at c
  rw [h] at this
  subst e
  simp only [Bool.not_true, Bool.false_or, Bool.and_eq_true] at this
  exact absurd this.2.2.2 (by decide)
theorem go_x : goP 120 = true := by kernel_rfl
theorem bl_32 : blP 32 = true := by kernel_rfl
def endT (t : List UInt8) : Prop := t = [] ∨ goP (byteAt t 0) = false
theorem byteAt_app {s t : List UInt8} (h : 1 ≤ s.length) : byteAt (s ++ t) 0 = byteAt s 0 := by
  cases s with
  | nil => simp at h
  | cons c s => rfl
theorem byteAt_take {s : List UInt8} {n : Nat} (h : 1 ≤ n) : byteAt (s.take n) 0 = byteAt s 0 := by
  cases s with
  | nil => simp
  | cons c s =>
    cases n with
    | zero => omega
    | succ n => rfl
theorem byteAt_at {s t : List UInt8} : byteAt (s ++ t) s.length = byteAt t 0 := by
  have := byteAt_drop (s ++ t) s.length 0
  rw [List.drop_left, Nat.add_zero] at this
  exact this.symm
theorem runL_zero {p : UInt8 → Bool} {t : List UInt8} (h : t = [] ∨ p (byteAt t 0) = false) : runL p t = 0 := by
  cases t with
  | nil => rfl
  | cons c t =>
    rcases h with h | h
    · cases h
    · unfold runL
      rw [show p c = false from h]; rfl
theorem runL_cut {p : UInt8 → Bool} {t : List UInt8} (h : t = [] ∨ p (byteAt t 0) = false) : ∀ u : List UInt8, runL p (u.take (runL p u) ++ t) = runL p u
  | [] => by simp only [List.take_nil, List.nil_append]; exact runL_zero h
  | c :: u => by
    have e : runL p (c :: u) = bif p c then runL p u + 1 else 0 := rfl
    rw [e]
    cases hc : p c with
    | true =>
      simp only [cond_true, List.take_succ_cons, List.cons_append]
      show (bif p c then runL p (u.take (runL p u) ++ t) + 1 else 0) = _
      rw [hc, runL_cut h u]; rfl
    | false => simp only [cond_false, List.take_zero, List.nil_append]; exact runL_zero h
theorem endT_p {p : UInt8 → Bool} (hp : ∀ c, p c = true → goP c = true) {t : List UInt8} (h : endT t) : t = [] ∨ p (byteAt t 0) = false := by
  rcases h with h | h
  · exact .inl h
  · refine .inr ?_
    cases hc : p (byteAt t 0) with
    | false => rfl
    | true => rw [hp _ hc] at h; cases h
theorem numB_end {b fr most : Nat} {p : UInt8 → Bool} {s : List UInt8} (h : (numB b fr most p s).2.2 = 0) : (Nat.blt (fr + runL p (s.drop fr)) s.length && goP (byteAt s (fr + runL p (s.drop fr)))) = false ∧ (Nat.beq b 10 && (Nat.blt 1 (runL p (s.drop fr)) && Nat.beq (byteAt s 0).toNat 48)) = false := by
  unfold numB at h
  cases hx : ((Nat.blt (fr + runL p (s.drop fr)) s.length && goP (byteAt s (fr + runL p (s.drop fr)))) || (Nat.beq b 10 && (Nat.blt 1 (runL p (s.drop fr)) && Nat.beq (byteAt s 0).toNat 48))) with
  | true => rw [hx] at h; simp at h
  | false => exact Bool.or_eq_false_iff.1 hx
theorem cut_eq {s t : List UInt8} {fr r : Nat} (h : fr + r ≤ s.length) : (s.take (fr + r) ++ t).drop fr = (s.drop fr).take r ++ t := by
  rw [List.drop_append_of_le_length (by rw [List.length_take]; omega), List.drop_take, Nat.add_sub_cancel_left]
theorem numB_loc {b fr most : Nat} {p : UInt8 → Bool} (hp : ∀ c, p c = true → goP c = true) {s t : List UInt8} (h : (numB b fr most p s).2.2 = 0) (hf : fr ≤ s.length) (h1 : 1 ≤ fr + runL p (s.drop fr)) (ht : endT t) : numB b fr most p (s.take (fr + runL p (s.drop fr)) ++ t) = numB b fr most p s := by
  obtain ⟨e0, e00⟩ := numB_end h
  have hr := runL_le p (s.drop fr)
  rw [List.length_drop] at hr
  have e1 := cut_eq (t := t) (s := s) (fr := fr) (r := runL p (s.drop fr)) (by omega)
  have e2 := runL_cut (endT_p hp ht) (s.drop fr)
  have e3 : ((s.drop fr).take (runL p (s.drop fr)) ++ t).take (runL p (s.drop fr)) = (s.drop fr).take (runL p (s.drop fr)) := by
    rw [List.take_append_of_le_length (by rw [List.length_take, List.length_drop]; omega), List.take_take, Nat.min_self]
  have hl : (s.take (fr + runL p (s.drop fr))).length = fr + runL p (s.drop fr) := by rw [List.length_take]; omega
  have e4 : (Nat.blt (fr + runL p (s.drop fr)) (s.take (fr + runL p (s.drop fr)) ++ t).length && goP (byteAt (s.take (fr + runL p (s.drop fr)) ++ t) (fr + runL p (s.drop fr)))) = false := by
    have : byteAt (s.take (fr + runL p (s.drop fr)) ++ t) (fr + runL p (s.drop fr)) = byteAt t 0 := by
      have := byteAt_at (s := s.take (fr + runL p (s.drop fr))) (t := t)
      rwa [hl] at this
    rw [this]
    rcases ht with rfl | h
    · rw [List.append_nil, hl, blt_f (Nat.lt_irrefl _)]; rfl
    · rw [h, Bool.and_false]
  have e5 : byteAt (s.take (fr + runL p (s.drop fr)) ++ t) 0 = byteAt s 0 := by rw [byteAt_app (by omega), byteAt_take h1]
  unfold numB
  rw [e1, e2, e3, e4, e5, e0]
theorem numR_loc {s t : List UInt8} (h1 : 1 ≤ s.length) (hd : digP (byteAt s 0) = true) (h : (numR s).2.2 = 0) (ht : endT t) : numR (s.take (numR s).2.1 ++ t) = numR s := by
  unfold numR at h ⊢
  cases hx : hexm s with
  | true =>
    rw [hx] at h
    simp only [cond_true] at h ⊢
    have hx2 := hx
    unfold hexm at hx2
    simp only [Bool.and_eq_true, Nat.ble_eq] at hx2
    rw [numB_len h]
    have hr := runL_le hexP (s.drop 2)
    rw [List.length_drop] at hr
    have : hexm (s.take (2 + runL hexP (s.drop 2)) ++ t) = true := by
      unfold hexm
      rw [cut_eq (by omega), runL_cut (endT_p (fun c => hex_go) ht), hx2.2.2, List.take_append_of_le_length (by rw [List.length_take]; omega), List.take_take, show min 2 (2 + runL hexP (s.drop 2)) = 2 by omega, hx2.2.1, Bool.and_eq_true, Nat.ble_eq, List.length_append, List.length_take]
      exact ⟨by omega, rfl⟩
    rw [this]
    exact numB_loc (fun c => hex_go) h hx2.1 (by omega) ht
  | false =>
    rw [hx] at h
    simp only [cond_false] at h ⊢
    rw [numB_len h]
    have hr := runL_le digP s
    have hp := runL_pos h1 hd
    have : hexm (s.take (0 + runL digP (s.drop 0)) ++ t) = false := by
      rw [List.drop_zero, Nat.zero_add]
      cases hm : hexm (s.take (runL digP s) ++ t) with
      | false => rfl
      | true =>
        exfalso
        unfold hexm at hm
        simp only [Bool.and_eq_true, Nat.ble_eq] at hm
        obtain ⟨l2, h2, _⟩ := hm
        rw [leq_iff, decide_eq_true_eq] at h2
        have hb : byteAt (s.take (runL digP s) ++ t) 1 = 120 := by
          generalize s.take (runL digP s) ++ t = x at h2 l2
          match x, l2, h2 with
          | a :: b :: r, _, h2 => simp only [List.take_succ_cons, List.take_zero, List.cons.injEq] at h2; exact h2.2.1
        have hc := runL_cut (endT_p (fun c => dig_go) ht) s
        by_cases h3 : 2 ≤ runL digP s
        · have := runL_lt (p := digP) (s := s.take (runL digP s) ++ t) (k := 1) (by rw [hc]; omega)
          rw [hb] at this
          exact dig_x this rfl
        · have h4 : runL digP s = 1 := by omega
          have h5 : (s.take (runL digP s)).length = 1 := by rw [List.length_take, h4]; omega
          have := byteAt_at (s := s.take (runL digP s)) (t := t)
          rw [h5, hb] at this
          rcases ht with rfl | ht
          · rw [List.append_nil] at l2; omega
          · rw [← this, go_x] at ht; cases ht
    rw [this]
    exact numB_loc (fun c => dig_go) h (Nat.zero_le _) (by rw [List.drop_zero, Nat.zero_add]; exact hp) ht
theorem textL_loc (t : List UInt8) : ∀ (s : List UInt8) (p : List UInt8 × Nat), textL s = some p → textL (s.take p.2 ++ t) = some p
  | [], p, h => by rw [textL.eq_def] at h; cases h
  | c :: r, p, h => by
    rw [textL.eq_def] at h
    simp only at h
    cases h1 : Nat.beq c.toNat 34 with
    | true =>
      rw [h1] at h
      simp only [cond_true, Option.some.injEq] at h
      subst h
      rw [List.take_succ_cons, List.cons_append, textL.eq_def]
      simp only [h1, cond_true]
    | false =>
      rw [h1] at h
      simp only [cond_false] at h
      cases h2 : Nat.beq c.toNat 92 with
      | true =>
        rw [h2] at h
        simp only [cond_true] at h
        cases r with
        | nil => cases h
        | cons d q =>
          simp only at h
          cases h3 : escP d with
          | false => rw [h3] at h; cases h
          | true =>
            rw [h3] at h
            simp only [cond_true] at h
            cases h4 : textL q with
            | none => rw [h4] at h; cases h
            | some x =>
              rw [h4] at h
              simp only [Option.map_some, Option.some.injEq] at h
              subst h
              rw [List.take_succ_cons, List.take_succ_cons, List.cons_append, List.cons_append, textL.eq_def]
              simp only [h1, h2, h3, cond_true, cond_false, textL_loc t q x h4, Option.map_some]
      | false =>
        rw [h2] at h
        simp only [cond_false] at h
        cases h3 : (Nat.blt c.toNat 32 || Nat.blt 126 c.toNat) with
        | true => rw [h3] at h; cases h
        | false =>
          rw [h3] at h
          simp only [cond_false] at h
          cases h4 : textL r with
          | none => rw [h4] at h; cases h
          | some x =>
            rw [h4] at h
            simp only [Option.map_some, Option.some.injEq] at h
            subst h
            rw [List.take_succ_cons, List.cons_append, textL.eq_def]
            simp only [h1, h2, h3, cond_false, textL_loc t r x h4, Option.map_some]
theorem textR_loc {s t : List UInt8} (h1 : 1 ≤ s.length) (h : (textR s).2.2 = 0) : textR (s.take (textR s).2.1 ++ t) = textR s := by
  cases s with
  | nil => simp at h1
  | cons c r =>
    unfold textR at h ⊢
    rw [List.drop_succ_cons, List.drop_zero] at h ⊢
    cases hx : textL r with
    | none => rw [hx] at h; simp at h
    | some p =>
      simp only [List.take_succ_cons, List.cons_append, List.drop_succ_cons, List.drop_zero]
      rw [textL_loc t r p hx]
theorem wordR_loc {s t : List UInt8} (h1 : 1 ≤ s.length) (h : (wordR s).2.2 = 0) (ht : 3 ≤ (wordR s).1.kind ∨ endT t) : wordR (s.take (wordR s).2.1 ++ t) = wordR s := by
  have hn := (wordR_len h1 h).1
  have h0 : byteAt (s.take (wordR s).2.1 ++ t) 0 = byteAt s 0 := by rw [byteAt_app (by rw [List.length_take]; omega), byteAt_take hn]
  unfold wordR at h ht h0 hn ⊢
  rw [h0]
  clear h0
  cases hb : begP (byteAt s 0) with
  | true =>
    rw [hb] at h ht
    simp only [cond_true] at h ht ⊢
    cases h2 : Nat.blt 128 (runL goP s) with
    | true => rw [h2] at h; simp at h
    | false =>
      rw [h2] at ht
      simp only [cond_false] at ht ⊢
      rcases ht with ht | ht
      · simp at ht
      rw [runL_cut ht, h2, List.take_append_of_le_length (by rw [List.length_take]; have := runL_le goP s; omega), List.take_take, Nat.min_self]; rfl
  | false =>
    rw [hb] at h ht
    simp only [cond_false] at h ht ⊢
    cases hd : digP (byteAt s 0) with
    | true =>
      rw [hd] at h ht
      simp only [cond_true] at h ht ⊢
      rcases ht with ht | ht
      · simp at ht
      rw [numR_loc h1 hd h ht]
    | false =>
      rw [hd] at h
      simp only [cond_false] at h ⊢
      cases hq : Nat.beq (byteAt s 0).toNat 34 with
      | true =>
        rw [hq] at h
        simp only [cond_true] at h ⊢
        rw [textR_loc h1 h]
      | false =>
        rw [hq] at h
        simp only [cond_false] at h ⊢
        cases hg : signP (byteAt s 0) with
        | true =>
          simp only [cond_true]
          rw [List.take_append_of_le_length (by rw [List.length_take]; omega), List.take_take]; rfl
        | false => rw [hg] at h; simp at h
end
end Go.Proofs.YthlcgkebfodnmaaGreatDoor
namespace Go.Proofs.YthlcgkebfodnmaaGreatDoor
open Go Go.Vai
noncomputable section
inductive Toks : List UInt8 → Nat → List (Wd × Nat) → Prop
  | nil (o : Nat) : Toks [] o []
  | note (c : UInt8) (r : List UInt8) (o : Nat) (h : Nat.beq c.toNat 35 = true) : Toks (c :: r) o []
  | blank (c : UInt8) (r : List UInt8) (o : Nat) (ws : List (Wd × Nat)) (h : blP c = true) (t : Toks r (o + 1) ws) : Toks (c :: r) o ws
  | word (s : List UInt8) (o : Nat) (ws : List (Wd × Nat)) (h1 : 1 ≤ s.length) (h2 : Nat.beq (byteAt s 0).toNat 35 = false) (h3 : blP (byteAt s 0) = false) (h4 : (wordR s).2.2 = 0) (t : Toks (s.drop (wordR s).2.1) (o + (wordR s).2.1) ws) : Toks s o (((wordR s).1, o) :: ws)
theorem of_toks {u : List UInt8} {j : Nat} {ws : List (Wd × Nat)} (h : Toks u j ws) : ∀ (s : List UInt8) (n : Nat), s.drop j = u → j ≤ s.length → s.length + 1 ≤ n + j → lexF n s j = (ws, 0, 0) := by
  induction h with
  | nil o =>
    intro s n e hj hn
    have : s.length ≤ o := by rw [List.drop_eq_nil_iff] at e; exact e
    cases n with
    | zero => rfl
    | succ n => unfold lexF; rw [blt_f (show ¬ o < s.length by omega)]; rfl
  | note c r o h =>
    intro s n e hj hn
    cases n with
    | zero => omega
    | succ n =>
      have hb : byteAt s o = c := by
        have := byteAt_drop s o 0
        rw [e] at this; exact this.symm
      unfold lexF
      rw [hb, h, Bool.or_true]; rfl
  | blank c r o ws h t ih =>
    intro s n e hj hn
    have hl : o < s.length := by
      have := congrArg List.length e
      rw [List.length_drop, List.length_cons] at this; omega
    have hb : byteAt s o = c := by
      have := byteAt_drop s o 0
      rw [e] at this; exact this.symm
    have hr : s.drop (o + 1) = r := by
      rw [drop_at hl, hb] at e
      exact (List.cons.inj e).2
    cases n with
    | zero => omega
    | succ n =>
      unfold lexF
      rw [blt_t hl, hb, bl_35 h, h]
      exact ih s n hr hl (by omega)
  | word u o ws h1 h2 h3 h4 t ih =>
    intro s n e hj hn
    subst e
    have hl := wordR_len h1 h4
    rw [List.length_drop] at hl h1
    rw [byteAt_drop, Nat.add_zero] at h2 h3
    cases n with
    | zero => omega
    | succ n =>
      unfold lexF
      rw [blt_t (show o < s.length by omega), h2, h3]
      simp only [Bool.not_true, Bool.or_false, cond_false]
      rw [h4, ih s n (by rw [List.drop_drop]) (by omega) (by omega)]
      rfl
theorem toks_lex {s : List UInt8} {ws : List (Wd × Nat)} (h : Toks s 0 ws) : lexR s = (ws, 0, 0) := of_toks h s (s.length + 1) rfl (Nat.zero_le _) (Nat.le_refl _)
end
end Go.Proofs.YthlcgkebfodnmaaGreatDoor
namespace Go.Proofs.YthlcgkebfodnmaaGreatDoor
open Go Go.Vai
noncomputable section
set_option maxRecDepth 100000
theorem dig10 : ((List.range 10).all fun d => digP (UInt8.ofNat (48 + d)) && (Nat.beq (dv (UInt8.ofNat (48 + d)).toNat) d && Nat.beq (UInt8.ofNat (48 + d)).toNat (48 + d))) = true := by kernel_rfl
theorem dig_at {d : Nat} (h : d < 10) : digP (UInt8.ofNat (48 + d)) = true ∧ dv (UInt8.ofNat (48 + d)).toNat = d ∧ (UInt8.ofNat (48 + d)).toNat = 48 + d := by
  have := List.all_eq_true.1 dig10 d (List.mem_range.2 h)
  simp only [Bool.and_eq_true, Nat.beq_eq] at this
  exact this
theorem dig_beg_all : ((List.range 256).all fun n => !(cDigB (.ofNat n)) || (!(cBegB (.ofNat n)) && (!(Nat.beq n 35) && !(cBlB (.ofNat n))))) = true := by kernel_rfl
theorem dig_beg {c : UInt8} (h : digP c = true) : begP c = false ∧ Nat.beq c.toNat 35 = false ∧ blP c = false := by
  have : (!(digP c) || (!(begP c) && (!(Nat.beq c.toNat 35) && !(blP c)))) = true := List.all_eq_true.1 dig_beg_all c.toNat (List.mem_range.2 c.toNat_lt)
  rw [h] at this
  simpa using this
def dgF : Nat → Nat → List UInt8
  | 0, n => [UInt8.ofNat (48 + n % 10)]
  | f + 1, n => bif Nat.blt n 10 then [UInt8.ofNat (48 + n)] else dgF f (n / 10) ++ [UInt8.ofNat (48 + n % 10)]
def dgs (n : Nat) : List UInt8 := dgF 19 n
theorem dgF_len : ∀ f n, 1 ≤ (dgF f n).length ∧ (dgF f n).length ≤ f + 1
  | 0, n => ⟨Nat.le_refl _, Nat.le_refl _⟩
  | f + 1, n => by
    unfold dgF
    have := dgF_len f (n / 10)
    cases Nat.blt n 10 with
    | true => exact ⟨Nat.le_refl _, by show 1 ≤ _; omega⟩
    | false => simp only [cond_false, List.length_append, List.length_cons, List.length_nil]; omega
theorem dgF_all : ∀ f n, (dgF f n).all digP = true
  | 0, n => by
    show ([UInt8.ofNat (48 + n % 10)].all digP) = true
    simp only [List.all_cons, List.all_nil, Bool.and_true]
    exact (dig_at (Nat.mod_lt _ (by decide))).1
  | f + 1, n => by
    unfold dgF
    cases h : Nat.blt n 10 with
    | true =>
      simp only [cond_true, List.all_cons, List.all_nil, Bool.and_true]
      rw [Nat.blt_eq] at h
      exact (dig_at h).1
    | false =>
      simp only [cond_false, List.all_append, List.all_cons, List.all_nil, Bool.and_true, Bool.and_eq_true]
      exact ⟨dgF_all f (n / 10), (dig_at (Nat.mod_lt _ (by decide))).1⟩
theorem dgF_val : ∀ f n, n < 10 ^ (f + 1) → valD 10 (dgF f n) = n
  | 0, n, h => by
    show 0 * 10 + dv (UInt8.ofNat (48 + n % 10)).toNat = n
    rw [(dig_at (Nat.mod_lt _ (by decide))).2.1]
    omega
  | f + 1, n, h => by
    unfold dgF
    cases h2 : Nat.blt n 10 with
    | true =>
      rw [Nat.blt_eq] at h2
      show 0 * 10 + dv (UInt8.ofNat (48 + n)).toNat = n
      rw [(dig_at h2).2.1]; omega
    | false =>
      have ih := dgF_val f (n / 10) (by rw [Nat.pow_succ] at h; omega)
      unfold valD at ih
      simp only [cond_false]
      unfold valD
      rw [List.foldl_append, ih]
      show n / 10 * 10 + dv (UInt8.ofNat (48 + n % 10)).toNat = n
      rw [(dig_at (Nat.mod_lt _ (by decide))).2.1]
      omega
theorem dgF_head : ∀ f n, 1 ≤ n → n < 10 ^ (f + 1) → (byteAt (dgF f n) 0).toNat ≠ 48
  | 0, n, h1, h => by
    show (UInt8.ofNat (48 + n % 10)).toNat ≠ 48
    rw [(dig_at (Nat.mod_lt _ (by decide))).2.2]
    omega
  | f + 1, n, h1, h => by
    unfold dgF
    cases h2 : Nat.blt n 10 with
    | true =>
      rw [Nat.blt_eq] at h2
      show (UInt8.ofNat (48 + n)).toNat ≠ 48
      rw [(dig_at h2).2.2]; omega
    | false =>
      simp only [cond_false]
      rw [byteAt_app (dgF_len f (n / 10)).1]
      have h3 : ¬ n < 10 := fun e => by rw [blt_t e] at h2; cases h2
      exact dgF_head f (n / 10) (by omega) (by rw [Nat.pow_succ] at h; omega)
theorem runL_all {p : UInt8 → Bool} : ∀ {s : List UInt8}, s.all p = true → runL p s = s.length
  | [], _ => rfl
  | c :: s, h => by
    simp only [List.all_cons, Bool.and_eq_true] at h
    show (bif p c then runL p s + 1 else 0) = s.length + 1
    rw [h.1, runL_all h.2]; rfl
theorem all_byte {p : UInt8 → Bool} {s : List UInt8} (h : s.all p = true) {i : Nat} (hi : i < s.length) : p (byteAt s i) = true := by
  rw [byteAt_eq hi]
  exact List.all_eq_true.1 h _ (List.getElem_mem hi)
theorem numR_dgs {n : Nat} (hn : n < 18446744073709551616) : numR (dgs n) = (n, (dgs n).length, 0) := by
  have hl := dgF_len 19 n
  have ha := dgF_all 19 n
  have hv := dgF_val 19 n (by omega)
  have hr := runL_all ha
  have hx : hexm (dgs n) = false := by
    cases hm : hexm (dgs n) with
    | false => rfl
    | true =>
      exfalso
      unfold hexm at hm
      simp only [Bool.and_eq_true, Nat.ble_eq] at hm
      obtain ⟨l2, h2, _⟩ := hm
      rw [leq_iff, decide_eq_true_eq] at h2
      have h3 := all_byte ha (i := 1) (by show 1 < (dgs n).length; omega)
      have hb : byteAt (dgs n) 1 = 120 := by
        generalize dgs n = x at h2 l2
        match x, l2, h2 with
        | a :: b :: r, _, h2 => simp only [List.take_succ_cons, List.take_zero, List.cons.injEq] at h2; exact h2.2.1
      exact dig_x h3 hb
  unfold numR
  rw [hx]
  simp only [cond_false]
  unfold numB
  rw [List.drop_zero, show runL digP (dgs n) = (dgs n).length from hr, Nat.zero_add, blt_f (Nat.lt_irrefl _), Bool.false_and, List.take_length, show valD 10 (dgs n) = n from hv, blt_f (show ¬ 20 < (dgs n).length by unfold dgs; omega), blt_t hn]
  have : (Nat.beq 10 10 && (Nat.blt 1 (dgs n).length && Nat.beq (byteAt (dgs n) 0).toNat 48)) = false := by
    cases h1 : Nat.blt 1 (dgs n).length with
    | false => rfl
    | true =>
      rw [Nat.blt_eq] at h1
      have h0 : 1 ≤ n := by
        cases n with
        | zero => exact absurd h1 (by decide)
        | succ n => omega
      have := dgF_head 19 n h0 (by omega)
      rw [beq_f (show ¬ (byteAt (dgs n) 0).toNat = 48 from this)]; rfl
  rw [this]; rfl
theorem dgs_first (n : Nat) : digP (byteAt (dgs n) 0) = true := all_byte (dgF_all 19 n) (show 0 < (dgF 19 n).length by have := dgF_len 19 n; omega)
theorem wordR_dgs {n : Nat} (hn : n < 18446744073709551616) {t : List UInt8} (ht : endT t) : wordR (dgs n ++ t) = (⟨2, [], n⟩, (dgs n).length, 0) := by
  have e : wordR (dgs n) = (⟨2, [], n⟩, (dgs n).length, 0) := by
    unfold wordR
    rw [(dig_beg (dgs_first n)).1, dgs_first n]
    simp only [cond_false, cond_true]
    rw [numR_dgs hn]
  have := wordR_loc (s := dgs n) (t := t) (dgF_len 19 n).1 (by rw [e]) (.inr ht)
  rw [e] at this
  simp only [List.take_length] at this
  rw [this]
inductive Pc
  | lit (b : List UInt8) (w : Wd)
  | bl
  | num
def txt (D : List UInt8) : List Pc → List UInt8
  | [] => []
  | .lit b _ :: r => b ++ txt D r
  | .bl :: r => 32 :: txt D r
  | .num :: r => D ++ txt D r
def wds (n : Nat) (D : List UInt8) : List Pc → Nat → List (Wd × Nat)
  | [], _ => []
  | .lit b w :: r, o => (w, o) :: wds n D r (o + b.length)
  | .bl :: r, o => wds n D r (o + 1)
  | .num :: r, o => (⟨2, [], n⟩, o) :: wds n D r (o + D.length)
def wdEq (a b : Wd) : Bool := Nat.beq a.kind b.kind && (leq a.text b.text && Nat.beq a.num b.num)
theorem wdEq_of {a b : Wd} (h : wdEq a b = true) : a = b := by
  obtain ⟨a1, a2, a3⟩ := a
  obtain ⟨b1, b2, b3⟩ := b
  simp only [wdEq, Bool.and_eq_true, Nat.beq_eq, leq_iff, decide_eq_true_eq] at h
  obtain ⟨rfl, rfl, rfl⟩ := h
  rfl
def nxt : List Pc → Bool
  | [] => true
  | .lit b _ :: _ => Nat.ble 1 b.length && !(goP (byteAt b 0))
  | .bl :: _ => true
  | .num :: _ => false
def litOk (b : List UInt8) (w : Wd) : Bool := Nat.ble 1 b.length && (!(Nat.beq (byteAt b 0).toNat 35) && (!(blP (byteAt b 0)) && (wdEq (wordR b).1 w && (Nat.beq (wordR b).2.1 b.length && Nat.beq (wordR b).2.2 0))))
def pcsOk : List Pc → Bool
  | [] => true
  | .lit b w :: r => litOk b w && ((Nat.ble 3 w.kind || nxt r) && pcsOk r)
  | .bl :: r => pcsOk r
  | .num :: r => nxt r && pcsOk r
theorem nxt_end (D : List UInt8) : ∀ {r : List Pc}, nxt r = true → endT (txt D r)
  | [], _ => .inl rfl
  | .lit b _ :: r, h => by
    simp only [nxt, Bool.and_eq_true, Nat.ble_eq, Bool.not_eq_true'] at h
    refine .inr ?_
    show goP (byteAt (b ++ txt D r) 0) = false
    rw [byteAt_app h.1]; exact h.2
  | .bl :: _, _ => .inr (bl_go bl_32)
theorem toks_pcs {n : Nat} (hn : n < 18446744073709551616) : ∀ (r : List Pc) (o : Nat), pcsOk r = true → Toks (txt (dgs n) r) o (wds n (dgs n) r o)
  | [], o, _ => .nil o
  | .bl :: r, o, h => .blank 32 _ o _ bl_32 (toks_pcs hn r (o + 1) h)
  | .num :: r, o, h => by
    simp only [pcsOk, Bool.and_eq_true] at h
    have hw := wordR_dgs hn (nxt_end (dgs n) h.1)
    have h0 : byteAt (dgs n ++ txt (dgs n) r) 0 = byteAt (dgs n) 0 := byteAt_app (dgF_len 19 n).1
    have hd := dig_beg (dgs_first n)
    have := Toks.word (dgs n ++ txt (dgs n) r) o (wds n (dgs n) r (o + (dgs n).length)) (by rw [List.length_append]; have := (dgF_len 19 n).1; show 1 ≤ (dgF 19 n).length + _; omega) (by rw [h0]; exact hd.2.1) (by rw [h0]; exact hd.2.2) (by rw [hw]) (by rw [hw, List.drop_left]; exact toks_pcs hn r _ h.2)
    rw [hw] at this
    exact this
  | .lit b w :: r, o, h => by
    simp only [pcsOk, litOk, Bool.and_eq_true, Bool.or_eq_true, Nat.ble_eq, Nat.beq_eq, Bool.not_eq_true'] at h
    obtain ⟨⟨h1, h2, h3, h4, h5, h6⟩, h7, h8⟩ := h
    have h4 := wdEq_of h4
    have hw : wordR (b ++ txt (dgs n) r) = (w, b.length, 0) := by
      have := wordR_loc (s := b) (t := txt (dgs n) r) h1 h6 (by rw [h4]; exact h7.imp id (nxt_end (dgs n)))
      rw [h5, List.take_length] at this
      rw [this]
      generalize wordR b = x at h4 h5 h6
      obtain ⟨a, c, d⟩ := x
      simp only at h4 h5 h6
      rw [h4, h5, h6]
    have h0 : byteAt (b ++ txt (dgs n) r) 0 = byteAt b 0 := byteAt_app h1
    have := Toks.word (b ++ txt (dgs n) r) o (wds n (dgs n) r (o + b.length)) (by rw [List.length_append]; omega) (by rw [h0]; exact beq_f (fun e => by rw [e] at h2; simp at h2)) (by rw [h0]; exact h3) (by rw [hw]) (by rw [hw, List.drop_left]; exact toks_pcs hn r _ h8)
    rw [hw] at this
    exact this
theorem lex_pcs {n : Nat} (hn : n < 18446744073709551616) {r : List Pc} (h : pcsOk r = true) : lexR (txt (dgs n) r) = (wds n (dgs n) r 0, 0, 0) := toks_lex (toks_pcs hn r 0 h)
end
end Go.Proofs.YthlcgkebfodnmaaGreatDoor
