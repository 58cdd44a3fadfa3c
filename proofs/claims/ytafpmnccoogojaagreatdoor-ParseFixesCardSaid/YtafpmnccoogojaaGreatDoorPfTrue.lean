/- ParseFixes: what a run asks holds. -/
import Derived.Test.YtafpmnccoogojaaGreatDoorPfRun
import Derived.Test.YtafpmnccoogojaaGreatDoorVaiLawB
import Derived.Test.YtafpmnccoogojaaGreatDoorVaiH
namespace Go.Proofs.YtafpmnccoogojaaGreatDoor
open Go Go.Vai
noncomputable section
theorem bcT {α : Type} {c : Bool} {x y : α} (h : c = true) : bc c x y = x := by rw [h]; rfl
theorem bcF {α : Type} {c : Bool} {x y : α} (h : c = false) : bc c x y = y := by rw [h]; rfl
theorem eqb_fix (a c : List UInt8) (v : Int) : AV.eqb (.agg [.str a, .int .i64 v, .str c]) (.agg [.str a, .int .i64 v, .str c]) = true := by
  simp [AV.eqb, AV.eqb.eqbs, sameKind, ieq_iff, leq_iff]
theorem pfT_true {hb xb mb ob tb mo : List UInt8} {a b L : Nat} {v : Int} {n k : Nat} {D : List UInt8} {t1 t2 t3 t4 : List Pc} (hn : n < 4294967296) (hk : k < 256) (ha : k % 3 = a) (hL : k % L = b) (hD : D.length ≤ 20)
    (l1 : hb.length ≤ 100) (l3 : mb.length ≤ 100) (l4 : ob.length ≤ 100) (l5 : tb.length ≤ 100) (lx : xb.length = 8)
    (e1 : (hb ++ (xb ++ D)) ++ tb = txt D t1) (e2 : ((mb ++ (xb ++ D)) ++ [41]) ++ tb = txt D t2) (e3 : ((ob ++ (xb ++ D)) ++ [41]) ++ tb = txt D t3) (e4 : (mb ++ (xb ++ D)) ++ tb = txt D t4) : pfT hb xb mb ob tb mo a b L v n k D t1 t2 t3 t4 = some (.bool true) := by
  have w1 : wrapR .i64 (.ofNat n) = .ofNat n := wrap_i64 (by omega)
  have w2 : wrapR .i64 (.ofNat k) = .ofNat k := wrap_i64 (by omega)
  have big : ∀ x : Nat, x ≤ 1000 → Nat.ble x 1099511627776 = true := fun x h => ble_t (by omega)
  have lU : ∀ x : List UInt8, lenU x = x.length := fun _ => rfl
  unfold pfT
  refine (bcF (by rw [w1]; rfl)).trans ?_
  refine (bcT (by rw [w1, wrap_u64 (by omega), ieq_self])).trans ?_
  refine (bcT (big _ (by rw [lU]; show xb.length + D.length ≤ _; omega))).trans ?_
  refine (bcT (by rw [w2]; exact beq_t ha)).trans ?_
  refine (bcT (big _ (by rw [lU, List.length_append]; show hb.length + _ ≤ _; omega))).trans ?_
  refine (bcT (big _ (by rw [lU, List.length_append, List.length_append]; show _ + tb.length ≤ _; omega))).trans ?_
  refine (bcT (leq_of e1)).trans ?_
  refine (bcT (eqb_fix _ _ _)).trans ?_
  refine (bcF (by rw [ieq_self]; rfl)).trans ?_
  refine (bcT (by rw [w2]; exact beq_t hL)).trans ?_
  refine (bcT (big _ (by rw [lU, List.length_append]; show mb.length + _ ≤ _; omega))).trans ?_
  refine (bcT (big _ (by rw [lU, List.length_append, List.length_append]; show _ + 1 ≤ _; omega))).trans ?_
  refine (bcT (big _ (by rw [lU, List.length_append, List.length_append, List.length_append]; show _ + 1 + tb.length ≤ _; omega))).trans ?_
  refine (bcT (leq_of e2)).trans ?_
  refine (bcT (eqb_fix _ _ _)).trans ?_
  refine (bcF (by rw [ieq_self]; rfl)).trans ?_
  refine (bcT (big _ (by rw [lU, List.length_append]; show ob.length + _ ≤ _; omega))).trans ?_
  refine (bcT (big _ (by rw [lU, List.length_append, List.length_append]; show _ + 1 ≤ _; omega))).trans ?_
  refine (bcT (big _ (by rw [lU, List.length_append, List.length_append, List.length_append]; show _ + 1 + tb.length ≤ _; omega))).trans ?_
  refine (bcT (leq_of e3)).trans ?_
  refine (bcT (big _ (by rw [lU, List.length_append]; show mb.length + _ ≤ _; omega))).trans ?_
  refine (bcT (big _ (by rw [lU, List.length_append, List.length_append]; show _ + tb.length ≤ _; omega))).trans ?_
  refine (bcF ?_).trans ?_
  · rw [leq_iff, decide_eq_false_iff_not, ← e2]
    intro h
    have := congrArg List.length h
    simp only [List.length_append, List.length_cons, List.length_nil] at this
    omega
  exact bcT (leq_of e4)
theorem pl_ne {g : Nat} (h : g ≠ 9) (args : List AV) (H : AHeap) : plainSm plainFv g args H = none := by
  have : plainFv g args = none := by
    unfold plainFv
    split
    · rw [beqF h]; rfl
    · rfl
  unfold plainSm
  rw [this]
theorem bg_ne {g : Nat} (h : g ≠ 4) (args : List AV) (H : AHeap) : retSm 4 true g args H = none := by
  unfold retSm
  split
  · rw [beqF h]; rfl
  · rfl
theorem skpf_ok {α : Type} {hl n : Nat} {t1 t2 t3 t4 : List Pc} (hn : n < 4294967296) (h1 : pcsOk t1 = true) (h2 : pcsOk t2 = true) (h3 : pcsOk t3 = true) (h4 : pcsOk t4 = true) (g1 : (txt (dgs n) t1).length < 1048576) (g2 : (txt (dgs n) t2).length < 1048576) (g3 : (txt (dgs n) t3).length < 1048576) (g4 : (txt (dgs n) t4).length < 1048576) (w1 : wds n (dgs n) t1 0 ≠ []) (w2 : wds n (dgs n) t2 0 ≠ []) (w3 : wds n (dgs n) t3 0 ≠ []) (w4 : wds n (dgs n) t4 0 ≠ []) : SmkOk (α := α) EPf (SKpf hl n (dgs n) t1 t2 t3 t4) := by
  have line : ∀ {t : List Pc} {s : List UInt8} {H : AHeap} {k : AV → AHeap → Option α} {r : α}, pcsOk t = true → (txt (dgs n) t).length < 1048576 → wds n (dgs n) t 0 ≠ [] → bc (leq s (txt (dgs n) t)) (ansP n (dgs n) t H k) none = some r → ∃ v H', lineSm 11 [.str s] H = some (v, H') ∧ k v H' = some r := by
    intro t s H k r hp hg hw h
    obtain ⟨e, h'⟩ := bc_none h
    rw [leq_iff, decide_eq_true_eq] at e
    clear h
    subst e
    unfold ansP at h'
    refine ⟨_, _, ?_, h'⟩
    have hl := lex_pcs (n := n) (by omega) hp
    unfold lineSm
    simp only [Nat.beq_refl, Bool.true_and]
    rw [show Nat.blt (lenU (txt (dgs n) t)) 1048576 = true from blt_t hg]
    simp only [cond_true, Option.some.injEq]
    unfold lineV
    rw [hl]
    generalize wds n (dgs n) t 0 = ws at hw
    cases ws with
    | nil => exact absurd rfl hw
    | cons p ws => rfl
  have fork : ∀ {t t' : List Pc} {s : List UInt8} {H : AHeap} {k : AV → AHeap → Option α} {r : α}, bc (leq s (txt (dgs n) t)) (ansP n (dgs n) t H k) (bc (leq s (txt (dgs n) t')) (ansP n (dgs n) t' H k) none) = some r → bc (leq s (txt (dgs n) t)) (ansP n (dgs n) t H k) none = some r ∨ bc (leq s (txt (dgs n) t')) (ansP n (dgs n) t' H k) none = some r := by
    intro t t' s H k r h
    rcases bc_some h with ⟨e, h⟩ | ⟨_, h⟩
    · exact .inl (by rw [e]; exact h)
    · exact .inr h
  have ok : ∀ (f : Nat) (args : List AV) (H : AHeap) {v : AV} {H' : AHeap}, f ≠ 4 → f ≠ 9 → f ≠ 85 → extAt kinds f = none → lineSm f args H = some (v, H') → orSm (extSm kinds) (orSm (contSm 85) (orSm (retSm 4 true) (orSm (plainSm plainFv) lineSm))) f args H = some (v, H') := by
    intro f args H v H' c1 c2 c3 c4 h
    rw [or_ne (ext_ne c4 args H), or_ne (cont_ne c3 args H), or_ne (bg_ne c1 args H), or_ne (pl_ne c2 args H)]
    exact h
  intro f args H k r h
  unfold SKpf at h
  simp only [Bool.cond_eq_ite, Nat.beq_eq] at h
  split at h
  · rename_i e
    subst e
    unfold linP at h
    split at h
    case h_2 => cases h
    rename_i s
    have fin : (∃ v H', lineSm 11 [.str s] H = some (v, H') ∧ k v H' = some r) → ∃ v H', EPf.sm 11 [.str s] H = some (v, H') ∧ k v H' = some r := fun ⟨v, H', a, b⟩ => ⟨v, H', ok _ _ _ (by decide) (by decide) (by decide) (by decide) a, b⟩
    refine fin ?_
    rw [Bool.cond_eq_ite] at h
    split at h
    · rw [Bool.cond_eq_ite] at h
      split at h
      · exact line h3 g3 w3 h
      · rcases fork h with h | h
        · exact line h2 g2 w2 h
        · exact line h4 g4 w4 h
    · exact line h1 g1 w1 h
  split at h
  · rename_i e
    subst e
    unfold plaP at h
    split at h
    case h_2 => cases h
    rename_i x
    obtain ⟨e, h'⟩ := bc_none h
    rw [ieq_iff, decide_eq_true_eq] at e
    clear h
    subst e
    refine ⟨_, _, ?_, h'⟩
    show orSm (extSm kinds) (orSm (contSm 85) (orSm (retSm 4 true) (orSm (plainSm plainFv) lineSm))) 9 [.int .u64 (.ofNat n)] H = _
    rw [or_ne (ext_ne (by decide) _ H), or_ne (cont_ne (by decide) _ H), or_ne rfl]
    refine or_yes ?_
    have e : plainFv 9 [.int .u64 (.ofNat n)] = some (.str (dgs n)) := by
      show (bif Nat.beq 9 9 && Nat.blt n 4294967296 then some (AV.str (dgs n)) else none) = _
      rw [blt_t hn]; rfl
    unfold plainSm
    rw [e]
  · exact smC_ok _ _ _ _ _ _ h
end
end Go.Proofs.YtafpmnccoogojaaGreatDoor
