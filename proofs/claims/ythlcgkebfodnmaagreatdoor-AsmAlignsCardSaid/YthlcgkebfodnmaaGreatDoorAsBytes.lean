/- (*asm.maker).bytes of a part with room, padding and one byte, as a summary: it reads the maker, the part, its items, the byte's row. -/
import Derived.Test.YthlcgkebfodnmaaGreatDoorAsPad
import Derived.Test.YthlcgkebfodnmaaGreatDoorVaiFrame
namespace Go.Proofs.YthlcgkebfodnmaaGreatDoor
open Go Go.Vai
noncomputable section
set_option maxRecDepth 100000
theorem vptr_to {M M2 : List MEnt} {i k o : Nat} {cv : Value} (he : M2[k]? = M[i]?) (h : VRel M (.ptr i o) cv) : VRel M2 (.ptr k o) cv := by
  obtain ⟨m, hm, rfl⟩ := h
  exact ⟨m, by rw [he]; exact hm, rfl⟩
theorem ren_atN {M : List MEnt} {ks : List Nat} {j i : Nat} (hlt : ∀ i ∈ kN 12 ks [], i < M.length) (h : ks[j]? = some i) : (renM (kN 12 ks []) M)[12 + j]? = M[i]? := by
  have := renM_ren hlt (12 + j) i (by rw [kN_at (List.getElem?_eq_some_iff.1 h).1]; exact h)
  rwa [Nat.zero_add] at this
def itC (st : Nat) (d : AV) (b a pl sz : Nat) : List AV := [.int .i64 (.ofNat st), .bool false, .bool false, d, .int .i64 (.ofNat b), .int .i64 (.ofNat a), .int .i64 (.ofNat pl), .int .i64 (.ofNat sz), .str [], .int .i64 (.ofNat 0), .str []]
def itL (n v p : Nat) (d : AV) : List AV := itC 1 .nils n 0 0 n ++ (itC 2 .nils 0 v n p ++ itC 4 d 0 0 (n + p) 1)
def pwO (x : Bool) (nm : List UInt8) : AObj := .cells 6 ((Tr.nil.putAll 0 [.str nm, .str (flO x)]).set 3 (.sl 14 0 3 none)) 0 none 0 true false
def byO (t : Nat) (x : Bool) (nm : List UInt8) (n v p : Nat) : List AObj := [mvO t, pwO x nm, .cells 33 (Tr.nil.putAll 0 (itL n v p (.sl 15 0 1 none))) 0 none 0 true false, .cells 1 (Tr.nil.putAll 0 [.int .u8 (.ofNat 7)]) 0 none 0 true false]
def EBy : Env := envOf Tryz.prog 12 [86, 127] (orSm (extSm kinds) (orSm (contSm 127) paddingSm))
theorem eby_ok {I : List MEnt → AHeap → World → Prop} (hI : ∀ M H w, I M H w → JG gl M H w) (hc : Carried I) : EnvOk EBy Tryz.prog I := envOk_j (gl := gl) (by kernel_rfl) ((smOk_ext ext_ok).or (cont_ok1.or padding_ok)).j mixed_ok hI hc.ext
def SKby {α : Type} (t : Nat) (x : Bool) (n p : Nat) (Z : List UInt8) : Smk α := fun f args H k => bif Nat.beq f 86 then (match args with
  | [.ptr i 0, .ptr j 0, .int .i64 a, .int .i64 b] => (match H.get i, H.get j with
    | some (.cells 11 T1 _ _ _ _ _), some (.cells 6 T2 _ _ _ _ _) => (match T1.get 0, T2.get 0, T2.get 1 with
      | some (.int .i64 (.ofNat t')), some (.str _), some (.str fl) => bc (Nat.beq t' t) (bc (leq fl (flO x)) (bc (ieq a (.ofNat n)) (bc (ieq b (.ofNat p)) (k (.sl H.next 0 p (some p)) (news H [bRo p (bT Z)])) none) none) none) none
      | _, _, _ => none)
    | _, _ => none)
  | _ => none) else smC EBy f args H k
theorem skby_ok {α : Type} {t : Nat} {x : Bool} {n p : Nat} {Z : List UInt8} (ht : 0 < t ∧ t < 4) (hn : n + p < 1000000000) (hp : p ≤ 5000) (hZ : Z = padB x (nopL t) n p) : SmkOk (α := α) EBy (SKby t x n p Z) := by
  intro f args H k r h
  unfold SKby at h
  rw [Bool.cond_eq_ite] at h
  split at h
  case isFalse => exact smC_ok _ _ _ _ _ _ h
  rename_i e
  rw [Nat.beq_eq] at e
  subst e
  split at h
  case h_2 => cases h
  rename_i i j a b
  split at h
  case h_2 => cases h
  rename_i T1 _ _ _ _ _ T2 _ _ _ _ _ h1 h2
  split at h
  case h_2 => cases h
  rename_i t' nm fl c1 c2 c3
  obtain ⟨e1, q1⟩ := bc_none h
  obtain ⟨e2, q2⟩ := bc_none q1
  obtain ⟨e3, q3⟩ := bc_none q2
  obtain ⟨e4, q4⟩ := bc_none q3
  clear h q1 q2 q3
  rw [Nat.beq_eq] at e1
  rw [leq_iff, decide_eq_true_eq] at e2
  rw [ieq_iff, decide_eq_true_eq] at e3 e4
  subst e1 e2 e3 e4
  refine ⟨_, _, ?_, q4⟩
  show orSm (extSm kinds) (orSm (contSm 127) paddingSm) 86 [.ptr i 0, .ptr j 0, .int .i64 (.ofNat n), .int .i64 (.ofNat p)] H = _
  rw [or_ne (ext_ne (by decide) _ H), or_ne (cont_ne (by decide) _ H)]
  unfold paddingSm
  simp only [Nat.beq_refl, cond_true, h1, h2]
  unfold padK2
  rw [c1, c2, c3]
  simp only [blt_t ht.1, blt_t ht.2, blt_t hn, ble_t hp, Bool.and_self, cond_true]
  subst hZ
  cases x with
  | true => rfl
  | false => rfl
def kBy : TRes → Orc → Option (Nat × Nat × Tr AV)
  | .call (.ret (.sl k 0 n none) H), _ => (match H.get k with
    | some (.cells m T 5 (some 1) 0 false false) => bc (Nat.ble 16 k) (some (n, m, T)) none
    | _ => none)
  | _, _ => none
def byT (t n v p : Nat) (Z : List UInt8) : Option (Nat × Nat × Tr AV) := bc (AV.eqb (.int .i64 (.ofNat n)) (.int .i64 (.ofNat n))) (bc (roomy n 2) (bc (Nat.beq n 0) (bc (Nat.blt 0 v) (bc (Nat.beq t t) (bc (ieq (.ofNat n) (.ofNat n)) (bc (ieq (.ofNat p) (.ofNat p)) (bc (hasA (bT Z) 0 (Nat.mul p 1)) (bc (Nat.beq p 0) (some (1, 1, (Tr.nil.putAll 0 [.int .u8 (.ofNat 7)]))) (bc (roomy p 1) (bc (Nat.blt (Nat.mul p 1) (Nat.mul p 1)) (bc (hasA (Tr.putAll Tr.nil 0 (getA (bT Z) 0 (Nat.mul p 1))) 0 (Nat.mul p 1)) (bc (Nat.beq (Nat.mul p 1) (Nat.mul p 1)) (bc (roomy (Nat.succ p) 1) (bc (Nat.blt (Nat.mul (Nat.succ p) 1) (Nat.succ (Nat.mul p 1))) (bc (hasA (Tr.putAll (Tr.putAll Tr.nil 0 (getA (Tr.putAll Tr.nil 0 (getA (bT Z) 0 (Nat.mul p 1))) 0 (Nat.mul p 1))) (Nat.mul p 1) [.int .u8 (.ofNat 7)]) 0 (Nat.mul (Nat.succ p) 1)) (some ((Nat.succ p), (Nat.mul (Nat.succ p) 1), Tr.putAll Tr.nil 0 (getA (Tr.putAll (Tr.putAll Tr.nil 0 (getA (Tr.putAll Tr.nil 0 (getA (bT Z) 0 (Nat.mul p 1))) 0 (Nat.mul p 1))) (Nat.mul p 1) [.int .u8 (.ofNat 7)]) 0 (Nat.mul (Nat.succ p) 1)))) (none)) (some ((Nat.succ p), (Nat.succ (Nat.mul p 1)), Tr.putAll (Tr.putAll Tr.nil 0 (getA (Tr.putAll Tr.nil 0 (getA (bT Z) 0 (Nat.mul p 1))) 0 (Nat.mul p 1))) (Nat.mul p 1) [.int .u8 (.ofNat 7)]))) (none)) (none)) (none)) (bc (Nat.beq (Nat.mul p 1) (Nat.mul p 1)) (bc (roomy (Nat.succ p) 1) (bc (Nat.blt (Nat.mul (Nat.succ p) 1) (Nat.succ (Nat.mul p 1))) (bc (hasA (Tr.putAll (Tr.putAll Tr.nil 0 (getA (bT Z) 0 (Nat.mul p 1))) (Nat.mul p 1) [.int .u8 (.ofNat 7)]) 0 (Nat.mul (Nat.succ p) 1)) (some ((Nat.succ p), (Nat.mul (Nat.succ p) 1), Tr.putAll Tr.nil 0 (getA (Tr.putAll (Tr.putAll Tr.nil 0 (getA (bT Z) 0 (Nat.mul p 1))) (Nat.mul p 1) [.int .u8 (.ofNat 7)]) 0 (Nat.mul (Nat.succ p) 1)))) (none)) (some ((Nat.succ p), (Nat.succ (Nat.mul p 1)), Tr.putAll (Tr.putAll Tr.nil 0 (getA (bT Z) 0 (Nat.mul p 1))) (Nat.mul p 1) [.int .u8 (.ofNat 7)]))) (none)) (none))) (none))) (none)) (none)) (none)) (none)) (none)) (bc (roomy n 1) (bc (Nat.blt 0 v) (bc (Nat.beq t t) (bc (ieq (.ofNat n) (.ofNat n)) (bc (ieq (.ofNat p) (.ofNat p)) (bc (Nat.blt (Nat.mul n 1) (Nat.mul n 1)) (bc (hasA (Tr.putAll Tr.nil 0 (rep [.int .u8 (.ofNat 0)] n)) 0 (Nat.mul n 1)) (bc (hasA (bT Z) 0 (Nat.mul p 1)) (bc (Nat.beq p 0) (bc (Nat.blt (Nat.mul n 1) (Nat.mul n 1)) (bc (hasA (Tr.putAll Tr.nil 0 (getA (Tr.putAll Tr.nil 0 (rep [.int .u8 (.ofNat 0)] n)) 0 (Nat.mul n 1))) 0 (Nat.mul n 1)) (bc (Nat.beq (Nat.mul n 1) (Nat.mul n 1)) (bc (roomy (Nat.succ n) 1) (bc (Nat.blt (Nat.mul (Nat.succ n) 1) (Nat.succ (Nat.mul n 1))) (bc (hasA (Tr.putAll (Tr.putAll Tr.nil 0 (getA (Tr.putAll Tr.nil 0 (getA (Tr.putAll Tr.nil 0 (rep [.int .u8 (.ofNat 0)] n)) 0 (Nat.mul n 1))) 0 (Nat.mul n 1))) (Nat.mul n 1) [.int .u8 (.ofNat 7)]) 0 (Nat.mul (Nat.succ n) 1)) (some ((Nat.succ n), (Nat.mul (Nat.succ n) 1), Tr.putAll Tr.nil 0 (getA (Tr.putAll (Tr.putAll Tr.nil 0 (getA (Tr.putAll Tr.nil 0 (getA (Tr.putAll Tr.nil 0 (rep [.int .u8 (.ofNat 0)] n)) 0 (Nat.mul n 1))) 0 (Nat.mul n 1))) (Nat.mul n 1) [.int .u8 (.ofNat 7)]) 0 (Nat.mul (Nat.succ n) 1)))) (none)) (some ((Nat.succ n), (Nat.succ (Nat.mul n 1)), Tr.putAll (Tr.putAll Tr.nil 0 (getA (Tr.putAll Tr.nil 0 (getA (Tr.putAll Tr.nil 0 (rep [.int .u8 (.ofNat 0)] n)) 0 (Nat.mul n 1))) 0 (Nat.mul n 1))) (Nat.mul n 1) [.int .u8 (.ofNat 7)]))) (none)) (none)) (none)) (bc (Nat.beq (Nat.mul n 1) (Nat.mul n 1)) (bc (roomy (Nat.succ n) 1) (bc (Nat.blt (Nat.mul (Nat.succ n) 1) (Nat.succ (Nat.mul n 1))) (bc (hasA (Tr.putAll (Tr.putAll Tr.nil 0 (getA (Tr.putAll Tr.nil 0 (rep [.int .u8 (.ofNat 0)] n)) 0 (Nat.mul n 1))) (Nat.mul n 1) [.int .u8 (.ofNat 7)]) 0 (Nat.mul (Nat.succ n) 1)) (some ((Nat.succ n), (Nat.mul (Nat.succ n) 1), Tr.putAll Tr.nil 0 (getA (Tr.putAll (Tr.putAll Tr.nil 0 (getA (Tr.putAll Tr.nil 0 (rep [.int .u8 (.ofNat 0)] n)) 0 (Nat.mul n 1))) (Nat.mul n 1) [.int .u8 (.ofNat 7)]) 0 (Nat.mul (Nat.succ n) 1)))) (none)) (some ((Nat.succ n), (Nat.succ (Nat.mul n 1)), Tr.putAll (Tr.putAll Tr.nil 0 (getA (Tr.putAll Tr.nil 0 (rep [.int .u8 (.ofNat 0)] n)) 0 (Nat.mul n 1))) (Nat.mul n 1) [.int .u8 (.ofNat 7)]))) (none)) (none))) (bc (Nat.beq (Nat.mul n 1) (Nat.mul n 1)) (bc (roomy (Nat.add n p) 1) (bc (onesA (getA (bT Z) 0 (Nat.mul p 1))) (bc (Nat.blt (Nat.mul (Nat.add n p) 1) (Nat.add (Nat.mul n 1) (Nat.mul p 1))) (bc (hasA (Tr.putAll (Tr.putAll Tr.nil 0 (getA (Tr.putAll Tr.nil 0 (rep [.int .u8 (.ofNat 0)] n)) 0 (Nat.mul n 1))) (Nat.mul n 1) (getA (bT Z) 0 (Nat.mul p 1))) 0 (Nat.mul (Nat.add n p) 1)) (bc (Nat.beq (Nat.mul (Nat.add n p) 1) (Nat.mul (Nat.add n p) 1)) (bc (roomy (Nat.succ (Nat.add n p)) 1) (bc (Nat.blt (Nat.mul (Nat.succ (Nat.add n p)) 1) (Nat.succ (Nat.mul (Nat.add n p) 1))) (bc (hasA (Tr.putAll (Tr.putAll Tr.nil 0 (getA (Tr.putAll (Tr.putAll Tr.nil 0 (getA (Tr.putAll Tr.nil 0 (rep [.int .u8 (.ofNat 0)] n)) 0 (Nat.mul n 1))) (Nat.mul n 1) (getA (bT Z) 0 (Nat.mul p 1))) 0 (Nat.mul (Nat.add n p) 1))) (Nat.mul (Nat.add n p) 1) [.int .u8 (.ofNat 7)]) 0 (Nat.mul (Nat.succ (Nat.add n p)) 1)) (some ((Nat.succ (Nat.add n p)), (Nat.mul (Nat.succ (Nat.add n p)) 1), Tr.putAll Tr.nil 0 (getA (Tr.putAll (Tr.putAll Tr.nil 0 (getA (Tr.putAll (Tr.putAll Tr.nil 0 (getA (Tr.putAll Tr.nil 0 (rep [.int .u8 (.ofNat 0)] n)) 0 (Nat.mul n 1))) (Nat.mul n 1) (getA (bT Z) 0 (Nat.mul p 1))) 0 (Nat.mul (Nat.add n p) 1))) (Nat.mul (Nat.add n p) 1) [.int .u8 (.ofNat 7)]) 0 (Nat.mul (Nat.succ (Nat.add n p)) 1)))) (none)) (some ((Nat.succ (Nat.add n p)), (Nat.succ (Nat.mul (Nat.add n p) 1)), Tr.putAll (Tr.putAll Tr.nil 0 (getA (Tr.putAll (Tr.putAll Tr.nil 0 (getA (Tr.putAll Tr.nil 0 (rep [.int .u8 (.ofNat 0)] n)) 0 (Nat.mul n 1))) (Nat.mul n 1) (getA (bT Z) 0 (Nat.mul p 1))) 0 (Nat.mul (Nat.add n p) 1))) (Nat.mul (Nat.add n p) 1) [.int .u8 (.ofNat 7)]))) (none)) (none)) (none)) (bc (Nat.beq (Nat.add (Nat.mul n 1) (Nat.mul p 1)) (Nat.mul (Nat.add n p) 1)) (bc (roomy (Nat.succ (Nat.add n p)) 1) (bc (Nat.blt (Nat.mul (Nat.succ (Nat.add n p)) 1) (Nat.succ (Nat.add (Nat.mul n 1) (Nat.mul p 1)))) (bc (hasA (Tr.putAll (Tr.putAll (Tr.putAll Tr.nil 0 (getA (Tr.putAll Tr.nil 0 (rep [.int .u8 (.ofNat 0)] n)) 0 (Nat.mul n 1))) (Nat.mul n 1) (getA (bT Z) 0 (Nat.mul p 1))) (Nat.add (Nat.mul n 1) (Nat.mul p 1)) [.int .u8 (.ofNat 7)]) 0 (Nat.mul (Nat.succ (Nat.add n p)) 1)) (some ((Nat.succ (Nat.add n p)), (Nat.mul (Nat.succ (Nat.add n p)) 1), Tr.putAll Tr.nil 0 (getA (Tr.putAll (Tr.putAll (Tr.putAll Tr.nil 0 (getA (Tr.putAll Tr.nil 0 (rep [.int .u8 (.ofNat 0)] n)) 0 (Nat.mul n 1))) (Nat.mul n 1) (getA (bT Z) 0 (Nat.mul p 1))) (Nat.add (Nat.mul n 1) (Nat.mul p 1)) [.int .u8 (.ofNat 7)]) 0 (Nat.mul (Nat.succ (Nat.add n p)) 1)))) (none)) (some ((Nat.succ (Nat.add n p)), (Nat.succ (Nat.add (Nat.mul n 1) (Nat.mul p 1))), Tr.putAll (Tr.putAll (Tr.putAll Tr.nil 0 (getA (Tr.putAll Tr.nil 0 (rep [.int .u8 (.ofNat 0)] n)) 0 (Nat.mul n 1))) (Nat.mul n 1) (getA (bT Z) 0 (Nat.mul p 1))) (Nat.add (Nat.mul n 1) (Nat.mul p 1)) [.int .u8 (.ofNat 7)]))) (none)) (none))) (none)) (none)) (none))) (none)) (none)) (bc (hasA (bT Z) 0 (Nat.mul p 1)) (bc (Nat.beq p 0) (bc (Nat.blt (Nat.mul n 1) (Nat.mul n 1)) (bc (hasA (Tr.putAll Tr.nil 0 (rep [.int .u8 (.ofNat 0)] n)) 0 (Nat.mul n 1)) (bc (Nat.beq (Nat.mul n 1) (Nat.mul n 1)) (bc (roomy (Nat.succ n) 1) (bc (Nat.blt (Nat.mul (Nat.succ n) 1) (Nat.succ (Nat.mul n 1))) (bc (hasA (Tr.putAll (Tr.putAll Tr.nil 0 (getA (Tr.putAll Tr.nil 0 (rep [.int .u8 (.ofNat 0)] n)) 0 (Nat.mul n 1))) (Nat.mul n 1) [.int .u8 (.ofNat 7)]) 0 (Nat.mul (Nat.succ n) 1)) (some ((Nat.succ n), (Nat.mul (Nat.succ n) 1), Tr.putAll Tr.nil 0 (getA (Tr.putAll (Tr.putAll Tr.nil 0 (getA (Tr.putAll Tr.nil 0 (rep [.int .u8 (.ofNat 0)] n)) 0 (Nat.mul n 1))) (Nat.mul n 1) [.int .u8 (.ofNat 7)]) 0 (Nat.mul (Nat.succ n) 1)))) (none)) (some ((Nat.succ n), (Nat.succ (Nat.mul n 1)), Tr.putAll (Tr.putAll Tr.nil 0 (getA (Tr.putAll Tr.nil 0 (rep [.int .u8 (.ofNat 0)] n)) 0 (Nat.mul n 1))) (Nat.mul n 1) [.int .u8 (.ofNat 7)]))) (none)) (none)) (none)) (bc (Nat.beq (Nat.mul n 1) (Nat.mul n 1)) (bc (roomy (Nat.succ n) 1) (bc (Nat.blt (Nat.mul (Nat.succ n) 1) (Nat.succ (Nat.mul n 1))) (bc (hasA (Tr.putAll (Tr.putAll Tr.nil 0 (rep [.int .u8 (.ofNat 0)] n)) (Nat.mul n 1) [.int .u8 (.ofNat 7)]) 0 (Nat.mul (Nat.succ n) 1)) (some ((Nat.succ n), (Nat.mul (Nat.succ n) 1), Tr.putAll Tr.nil 0 (getA (Tr.putAll (Tr.putAll Tr.nil 0 (rep [.int .u8 (.ofNat 0)] n)) (Nat.mul n 1) [.int .u8 (.ofNat 7)]) 0 (Nat.mul (Nat.succ n) 1)))) (none)) (some ((Nat.succ n), (Nat.succ (Nat.mul n 1)), Tr.putAll (Tr.putAll Tr.nil 0 (rep [.int .u8 (.ofNat 0)] n)) (Nat.mul n 1) [.int .u8 (.ofNat 7)]))) (none)) (none))) (bc (Nat.beq (Nat.mul n 1) (Nat.mul n 1)) (bc (roomy (Nat.add n p) 1) (bc (onesA (getA (bT Z) 0 (Nat.mul p 1))) (bc (Nat.blt (Nat.mul (Nat.add n p) 1) (Nat.add (Nat.mul n 1) (Nat.mul p 1))) (bc (hasA (Tr.putAll (Tr.putAll Tr.nil 0 (rep [.int .u8 (.ofNat 0)] n)) (Nat.mul n 1) (getA (bT Z) 0 (Nat.mul p 1))) 0 (Nat.mul (Nat.add n p) 1)) (bc (Nat.beq (Nat.mul (Nat.add n p) 1) (Nat.mul (Nat.add n p) 1)) (bc (roomy (Nat.succ (Nat.add n p)) 1) (bc (Nat.blt (Nat.mul (Nat.succ (Nat.add n p)) 1) (Nat.succ (Nat.mul (Nat.add n p) 1))) (bc (hasA (Tr.putAll (Tr.putAll Tr.nil 0 (getA (Tr.putAll (Tr.putAll Tr.nil 0 (rep [.int .u8 (.ofNat 0)] n)) (Nat.mul n 1) (getA (bT Z) 0 (Nat.mul p 1))) 0 (Nat.mul (Nat.add n p) 1))) (Nat.mul (Nat.add n p) 1) [.int .u8 (.ofNat 7)]) 0 (Nat.mul (Nat.succ (Nat.add n p)) 1)) (some ((Nat.succ (Nat.add n p)), (Nat.mul (Nat.succ (Nat.add n p)) 1), Tr.putAll Tr.nil 0 (getA (Tr.putAll (Tr.putAll Tr.nil 0 (getA (Tr.putAll (Tr.putAll Tr.nil 0 (rep [.int .u8 (.ofNat 0)] n)) (Nat.mul n 1) (getA (bT Z) 0 (Nat.mul p 1))) 0 (Nat.mul (Nat.add n p) 1))) (Nat.mul (Nat.add n p) 1) [.int .u8 (.ofNat 7)]) 0 (Nat.mul (Nat.succ (Nat.add n p)) 1)))) (none)) (some ((Nat.succ (Nat.add n p)), (Nat.succ (Nat.mul (Nat.add n p) 1)), Tr.putAll (Tr.putAll Tr.nil 0 (getA (Tr.putAll (Tr.putAll Tr.nil 0 (rep [.int .u8 (.ofNat 0)] n)) (Nat.mul n 1) (getA (bT Z) 0 (Nat.mul p 1))) 0 (Nat.mul (Nat.add n p) 1))) (Nat.mul (Nat.add n p) 1) [.int .u8 (.ofNat 7)]))) (none)) (none)) (none)) (bc (Nat.beq (Nat.add (Nat.mul n 1) (Nat.mul p 1)) (Nat.mul (Nat.add n p) 1)) (bc (roomy (Nat.succ (Nat.add n p)) 1) (bc (Nat.blt (Nat.mul (Nat.succ (Nat.add n p)) 1) (Nat.succ (Nat.add (Nat.mul n 1) (Nat.mul p 1)))) (bc (hasA (Tr.putAll (Tr.putAll (Tr.putAll Tr.nil 0 (rep [.int .u8 (.ofNat 0)] n)) (Nat.mul n 1) (getA (bT Z) 0 (Nat.mul p 1))) (Nat.add (Nat.mul n 1) (Nat.mul p 1)) [.int .u8 (.ofNat 7)]) 0 (Nat.mul (Nat.succ (Nat.add n p)) 1)) (some ((Nat.succ (Nat.add n p)), (Nat.mul (Nat.succ (Nat.add n p)) 1), Tr.putAll Tr.nil 0 (getA (Tr.putAll (Tr.putAll (Tr.putAll Tr.nil 0 (rep [.int .u8 (.ofNat 0)] n)) (Nat.mul n 1) (getA (bT Z) 0 (Nat.mul p 1))) (Nat.add (Nat.mul n 1) (Nat.mul p 1)) [.int .u8 (.ofNat 7)]) 0 (Nat.mul (Nat.succ (Nat.add n p)) 1)))) (none)) (some ((Nat.succ (Nat.add n p)), (Nat.succ (Nat.add (Nat.mul n 1) (Nat.mul p 1))), Tr.putAll (Tr.putAll (Tr.putAll Tr.nil 0 (rep [.int .u8 (.ofNat 0)] n)) (Nat.mul n 1) (getA (bT Z) 0 (Nat.mul p 1))) (Nat.add (Nat.mul n 1) (Nat.mul p 1)) [.int .u8 (.ofNat 7)]))) (none)) (none))) (none)) (none)) (none))) (none))) (none)) (none)) (none)) (none)) (none))) (none)) (none)
theorem by_run1 (t n v p : Nat) (Z nm : List UInt8) : callPS EBy (SKby t true n p Z) noPin 100 (.call 37 [.ptr 12 0, .ptr 13 0] (mkH 12 (byO t true nm n v p))) (pO 8 58) kBy = byT t n v p Z := by kernel_rfl
theorem by_run0 (t n v p : Nat) (Z nm : List UInt8) : callPS EBy (SKby t false n p Z) noPin 100 (.call 37 [.ptr 12 0, .ptr 13 0] (mkH 12 (byO t false nm n v p))) (pO 8 58) kBy = byT t n v p Z := by kernel_rfl
theorem by_cell {n v p : Nat} {dt : Nat} {K : List Nat} {D : Nat → Prop} {pl : Nat → Nat × Nat} {τ : Nat → AV} {θ : Nat → Tag} {id s : Nat} {z : AV} {T3 : Tr AV} (hd : rnV 0 K (.sl dt 0 1 none) = some (.sl 15 0 1 none)) (k5 : ∀ j y, (itL n v p (.sl dt 0 1 none))[j]? = some y → T3.get j = some y) (hq : (itL n v p (.sl 15 0 1 none))[s]? = some z) : ∃ x, T3.get s = some x ∧ CellX K D pl τ θ id s x z := by
  match s, hq with
  | 0, hq => cases hq; exact ⟨_, k5 0 _ rfl, .inl rfl⟩
  | 1, hq => cases hq; exact ⟨_, k5 1 _ rfl, .inl rfl⟩
  | 2, hq => cases hq; exact ⟨_, k5 2 _ rfl, .inl rfl⟩
  | 3, hq => cases hq; exact ⟨_, k5 3 _ rfl, .inl rfl⟩
  | 4, hq => cases hq; exact ⟨_, k5 4 _ rfl, .inl rfl⟩
  | 5, hq => cases hq; exact ⟨_, k5 5 _ rfl, .inl rfl⟩
  | 6, hq => cases hq; exact ⟨_, k5 6 _ rfl, .inl rfl⟩
  | 7, hq => cases hq; exact ⟨_, k5 7 _ rfl, .inl rfl⟩
  | 8, hq => cases hq; exact ⟨_, k5 8 _ rfl, .inl rfl⟩
  | 9, hq => cases hq; exact ⟨_, k5 9 _ rfl, .inl rfl⟩
  | 10, hq => cases hq; exact ⟨_, k5 10 _ rfl, .inl rfl⟩
  | 11, hq => cases hq; exact ⟨_, k5 11 _ rfl, .inl rfl⟩
  | 12, hq => cases hq; exact ⟨_, k5 12 _ rfl, .inl rfl⟩
  | 13, hq => cases hq; exact ⟨_, k5 13 _ rfl, .inl rfl⟩
  | 14, hq => cases hq; exact ⟨_, k5 14 _ rfl, .inl rfl⟩
  | 15, hq => cases hq; exact ⟨_, k5 15 _ rfl, .inl rfl⟩
  | 16, hq => cases hq; exact ⟨_, k5 16 _ rfl, .inl rfl⟩
  | 17, hq => cases hq; exact ⟨_, k5 17 _ rfl, .inl rfl⟩
  | 18, hq => cases hq; exact ⟨_, k5 18 _ rfl, .inl rfl⟩
  | 19, hq => cases hq; exact ⟨_, k5 19 _ rfl, .inl rfl⟩
  | 20, hq => cases hq; exact ⟨_, k5 20 _ rfl, .inl rfl⟩
  | 21, hq => cases hq; exact ⟨_, k5 21 _ rfl, .inl rfl⟩
  | 22, hq => cases hq; exact ⟨_, k5 22 _ rfl, .inl rfl⟩
  | 23, hq => cases hq; exact ⟨_, k5 23 _ rfl, .inl rfl⟩
  | 24, hq => cases hq; exact ⟨_, k5 24 _ rfl, .inl rfl⟩
  | 25, hq => cases hq; exact ⟨_, k5 25 _ rfl, .inl hd⟩
  | 26, hq => cases hq; exact ⟨_, k5 26 _ rfl, .inl rfl⟩
  | 27, hq => cases hq; exact ⟨_, k5 27 _ rfl, .inl rfl⟩
  | 28, hq => cases hq; exact ⟨_, k5 28 _ rfl, .inl rfl⟩
  | 29, hq => cases hq; exact ⟨_, k5 29 _ rfl, .inl rfl⟩
  | 30, hq => cases hq; exact ⟨_, k5 30 _ rfl, .inl rfl⟩
  | 31, hq => cases hq; exact ⟨_, k5 31 _ rfl, .inl rfl⟩
  | 32, hq => cases hq; exact ⟨_, k5 32 _ rfl, .inl rfl⟩
  | s + 33, hq => simp [itL, itC] at hq
theorem rep_map (n : Nat) : rep [AV.int .u8 (.ofNat 0)] n = (List.replicate n (0 : UInt8)).map byteAV := by
  induction n with
  | zero => rfl
  | succ n ih =>
    show AV.int .u8 (.ofNat 0) :: rep [AV.int .u8 (.ofNat 0)] n = _
    rw [ih]; rfl
def byB (n : Nat) (Z : List UInt8) : List UInt8 := List.replicate n 0 ++ Z ++ [7]
theorem byB_len (n : Nat) (Z : List UInt8) : (byB n Z).length = n + Z.length + 1 := by unfold byB; simp; omega
theorem by_tree {t n v p : Nat} {Z : List UInt8} (hv : 0 < v) (hn : n ≤ 5000) (hp : p ≤ 5000) (hZ : Z.length = p) : ∃ T, byT t n v p Z = some (n + p + 1, n + p + 1, T) ∧ RowB T (byB n Z) := by
  have e47 : (2 : Nat) ^ 47 = 140737488355328 := by decide
  have m1 : ∀ a : Nat, Nat.mul a 1 = a := fun a => Nat.mul_one a
  have rZ : RowB (bT Z) Z := rowB_bT (by omega)
  have gZ : getA (bT Z) 0 p = Z.map byteAV := by rw [RowB.cells rZ (by omega), List.drop_zero, ← hZ, List.take_length]
  have rN : RowB (Tr.putAll Tr.nil 0 (rep [.int .u8 (.ofNat 0)] n)) (List.replicate n 0) := by
    rw [rep_map]
    exact rowB_bT (by simp; omega)
  have hb : ∀ x : AV, AV.eqb x x = true := eqb_refl
  have bt : ∀ a : Nat, Nat.beq a a = true := fun a => beq_t rfl
  have bf : ∀ a : Nat, Nat.blt a a = false := fun a => blt_f (Nat.lt_irrefl a)
  have it : ∀ a : Int, ieq a a = true := ieq_self
  have r2 : roomy n 2 = true := roomy_yes (by omega) (by decide)
  have r1 : roomy n 1 = true := roomy_yes (by omega) (by decide)
  have hv' : Nat.blt 0 v = true := blt_t hv
  have hasZ : hasA (bT Z) 0 p = true := RowB.has rZ (by omega)
  have hasN : hasA (Tr.putAll Tr.nil 0 (rep [.int .u8 (.ofNat 0)] n)) 0 n = true := RowB.has rN (by simp)
  unfold byT
  simp only [m1]
  by_cases hn0 : n = 0 <;> by_cases hp0 : p = 0
  · subst hn0
    have hz : Z = [] := List.eq_nil_of_length_eq_zero (by omega)
    subst hz
    subst hp0
    refine ⟨Tr.nil.putAll 0 [.int .u8 (.ofNat 7)], ?_, ?_⟩
    · simp only [hb, r2, bt, hv', it, hasZ, bc_true]
    · exact rowB_bT (L := [7]) (by decide)
  · subst hn0
    have b2 : Nat.beq p 0 = false := beq_f hp0
    have r3 : roomy p 1 = true := roomy_yes (by omega) (by decide)
    have r4 : roomy (Nat.succ p) 1 = true := roomy_yes (show p + 1 ≤ _ by omega) (by decide)
    have a0 : Nat.add 0 p = p := Nat.zero_add p
    refine ⟨Tr.putAll (Tr.putAll Tr.nil 0 (Z.map byteAV)) p [.int .u8 (.ofNat 7)], ?_, ?_⟩
    · simp only [hb, r2, r3, r4, b2, bt, bf, hv', it, hasZ, gZ, ones_map, bc_true, bc_false, a0]
      rw [show Nat.succ p = 0 + p + 1 by omega]
    · have := RowB.app (new := [7]) rZ (by rw [hZ, e47]; simp; omega)
      rw [hZ] at this
      exact this
  · subst hp0
    have hz : Z = [] := List.eq_nil_of_length_eq_zero (by omega)
    subst hz
    have b1 : Nat.beq n 0 = false := beq_f hn0
    have r4 : roomy (Nat.succ n) 1 = true := roomy_yes (show n + 1 ≤ _ by omega) (by decide)
    have a0 : Nat.add n 0 = n := Nat.add_zero n
    refine ⟨Tr.putAll (Tr.putAll Tr.nil 0 (rep [.int .u8 (.ofNat 0)] n)) n [.int .u8 (.ofNat 7)], ?_, ?_⟩
    · simp only [hb, r2, r1, r4, b1, bt, bf, hv', it, hasN, hasZ, bc_true, bc_false, a0]
    · have := RowB.app (new := [7]) rN (by simp; omega)
      rw [List.length_replicate] at this
      unfold byB
      rw [List.append_nil]
      exact this
  · have b1 : Nat.beq n 0 = false := beq_f hn0
    have b2 : Nat.beq p 0 = false := beq_f hp0
    have r3 : roomy (Nat.add n p) 1 = true := roomy_yes (show n + p ≤ _ by omega) (by decide)
    have r4 : roomy (Nat.succ (Nat.add n p)) 1 = true := roomy_yes (show n + p + 1 ≤ _ by omega) (by decide)
    refine ⟨Tr.putAll (Tr.putAll (Tr.putAll Tr.nil 0 (rep [.int .u8 (.ofNat 0)] n)) n (Z.map byteAV)) (n + p) [.int .u8 (.ofNat 7)], ?_, ?_⟩
    · simp only [hb, r2, r1, r3, r4, b1, b2, bt, bf, hv', it, hasN, hasZ, gZ, ones_map, bc_true, bc_false]
      rfl
    · have h1 := RowB.app (new := Z) rN (by rw [List.length_replicate, hZ]; omega)
      rw [List.length_replicate] at h1
      have h2 := RowB.app (new := [7]) h1 (by rw [List.length_append, List.length_replicate, hZ]; simp; omega)
      rw [List.length_append, List.length_replicate, hZ] at h2
      exact h2
section
def ByShape (t : Nat) (x : Bool) (n v p : Nat) (H : AHeap) (i q : Nat) : Prop := ∃ it dt T1 a1 b1 c1 d1 f1 T2 a2 b2 c2 d2 f2 T3 a3 b3 c3 d3 f3 T4 a4 b4 c4 d4 f4 nm, H.get i = some (.cells 11 T1 a1 b1 c1 d1 f1) ∧ T1.get 0 = some (.int .i64 (.ofNat t)) ∧
  H.get q = some (.cells 6 T2 a2 b2 c2 d2 f2) ∧ T2.get 0 = some (.str nm) ∧ T2.get 1 = some (.str (flO x)) ∧ T2.get 3 = some (.sl it 0 3 none) ∧
  H.get it = some (.cells 33 T3 a3 b3 c3 d3 f3) ∧ (∀ j y, (itL n v p (.sl dt 0 1 none))[j]? = some y → T3.get j = some y) ∧
  H.get dt = some (.cells 1 T4 a4 b4 c4 d4 f4) ∧ T4.get 0 = some (.int .u8 (.ofNat 7)) ∧ [i, q, it, dt].Nodup ∧ ∀ z ∈ [i, q, it, dt], 12 ≤ z
theorem by_core {M : List MEnt} {H : AHeap} {w : World} {t : Nat} {x : Bool} {n v p i q : Nat} {cargs : List Value} (ht : 0 < t ∧ t < 4) (hv : 0 < v) (hn : n ≤ 5000) (hp : p ≤ 5000) (hZ : (padB x (nopL t) n p).length = p) (hj : JG gl M H w) (hg : GR 12 M) (hr : HRel M H w) (hs : ByShape t x n v p H i q) (ha : VRels M [.ptr i 0, .ptr q 0] cargs) :
    CallsA Tryz.prog 37 cargs M H w (.ret (.sl H.next 0 (n + p + 1) none) (H.new (.cells (n + p + 1) (bT (byB n (padB x (nopL t) n p))) 5 (some 1) 0 false false))) := by
  obtain ⟨it, dt, T1, a1, b1, c1, d1, f1, T2, a2, b2, c2, d2, f2, T3, a3, b3, c3, d3, f3, T4, a4, b4, c4, d4, f4, nm, g1, k1, g2, k2, k3, k4, g3, k5, g4, k6, hnd, h12⟩ := hs
  have lt : ∀ z ∈ [i, q, it, dt], z < H.next := by
    intro z hz
    simp only [List.mem_cons, List.not_mem_nil, or_false] at hz
    rcases hz with rfl | rfl | rfl | rfl
    · rw [← hr.len]; exact hr.lt g1
    · rw [← hr.len]; exact hr.lt g2
    · rw [← hr.len]; exact hr.lt g3
    · rw [← hr.len]; exact hr.lt g4
  have hK : FrK 12 [i, q, it, dt] [] H := ⟨by have := h12 i (by simp); have := lt i (by simp); omega, fun z hz => ⟨h12 z (by simpa using hz), lt z (by simpa using hz)⟩, by simpa using hnd⟩
  have hltM : ∀ z ∈ kN 12 [i, q, it, dt] [], z < M.length := fun z hz => by
    rw [hr.len]
    unfold kN at hz
    rcases List.mem_append.1 hz with hz | hz
    · rw [List.mem_range] at hz
      have := h12 i (by simp); have := lt i (by simp); omega
    · exact lt z (by simpa using hz)
  obtain ⟨T, hT, hrow⟩ := by_tree (t := t) (v := v) (Z := padB x (nopL t) n p) hv hn hp hZ
  have hrun : callPS EBy (SKby t x n p (padB x (nopL t) n p)) noPin 100 (.call 37 [.ptr 12 0, .ptr 13 0] (mkH 12 (byO t x nm n v p))) (pO 8 58) kBy = some (n + p + 1, n + p + 1, T) := by
    cases x with
    | true => exact (by_run1 t n v p _ nm).trans hT
    | false => exact (by_run0 t n v p _ nm).trans hT
  match cargs, ha with
  | [], ha => exact ha.elim
  | [_], ha => exact ha.2.elim
  | _ :: _ :: _ :: _, ha => exact ha.2.2.elim
  | [x0, x1], ⟨v0, v1, _⟩ =>
  obtain ⟨z, o', hr1, hkr⟩ := callPS_ok EBy (skby_ok ht (by omega) hp rfl) noPin 100 _ _ _ _ hrun
  unfold kBy at hkr
  split at hkr
  case h_2 => cases hkr
  rename_i k n1 H2
  split at hkr
  case h_2 => cases hkr
  rename_i m1 T5 hrow2
  obtain ⟨hk, hkr⟩ := bc_none hkr
  rw [Nat.ble_eq] at hk
  simp only [Option.some.injEq, Prod.mk.injEq] at hkr
  obtain ⟨rfl, rfl, rfl⟩ := hkr
  have kl : (kN 12 [i, q, it, dt] []).length = 12 + 4 := by rw [kN_len]; rfl
  have bk : mtN (kN 12 [i, q, it, dt] []) [k] H.next k = H.next := mtN_new (j := 0) (by simp) rfl (by rw [kl]; exact hk)
  have key := frame_calls (E := EBy) (gl := gl) (nk := [k]) (D := fun _ => False) (pl := fun _ => (0, 0)) (τ := fun _ => .nils) (θ := fun _ => (0, 0, 0, 0, 0)) (v := .sl k 0 (n + p + 1) none) (H' := H.new (.cells (n + p + 1) (bT (byB n (padB x (nopL t) n p))) 5 (some 1) 0 false false)) (w := w) (args := [.ptr 12 0, .ptr 13 0]) (cargs := [x0, x1]) (M := M) (H := H) (ks := [i, q, it, dt])
    (eby_ok (fun _ _ _ h => h) (jg_carried gl)) (by kernel_rfl) hj hg hr hK rfl ?_ (fun j h => h.elim) ⟨vptr_to (k := 12) (ren_atN hltM (j := 0) rfl) v0, vptr_to (k := 13) (ren_atN hltM (j := 1) rfl) v1, trivial⟩ hr1 (by simp) ?_ ?_ ?_ rfl ?_
  · have e3 : lfV (mtN (kN EBy.ng [i, q, it, dt] []) [k] H.next) (fun _ => AV.nils) (.sl k 0 (n + p + 1) none) = .sl H.next 0 (n + p + 1) none := by
      show AV.sl (mtN (kN 12 [i, q, it, dt] []) [k] H.next k) 0 (n + p + 1) none = _
      rw [bk]
    rw [e3] at key
    exact key
  · intro j u hu
    match j, hu with
    | 0, hu =>
      cases hu
      refine ⟨i, _, rfl, g1, .inr (.inr ⟨11, T1, a1, b1, c1, d1, f1, 0, none, 0, false, _, rfl, rfl, .inl rfl, fun i z hz => ?_⟩)⟩
      rcases Tr.get_putAll _ hz with ⟨q, rfl, hq⟩ | ⟨_, hu⟩
      · match q, hq with
        | 0, hq => cases hq; exact ⟨_, k1, .inl rfl⟩
        | q + 1, hq => simp at hq
      · simp [Tr.get_nil] at hu
    | 1, hu =>
      cases hu
      refine ⟨q, _, rfl, g2, .inr (.inr ⟨6, T2, a2, b2, c2, d2, f2, 0, none, 0, false, _, rfl, rfl, .inl rfl, fun j z hz => ?_⟩)⟩
      rcases Tr.get_set hz with ⟨rfl, rfl⟩ | ⟨_, hz⟩
      · refine ⟨_, k4, .inl ?_⟩
        show (match posOf it (kN 12 [i, q, it, dt] []) 0 with | some k => some (AV.sl k 0 3 none) | none => none) = _
        rw [posOf_nd (k := 14) hK.all (kN_at (ng := 12) (j := 2) (ks := [i, q, it, dt]) (xs := []) (by simp))]
      · rcases Tr.get_putAll _ hz with ⟨q, rfl, hq⟩ | ⟨_, hu⟩
        · match q, hq with
          | 0, hq => cases hq; exact ⟨_, k2, .inl rfl⟩
          | 1, hq => cases hq; exact ⟨_, k3, .inl rfl⟩
          | q + 2, hq => simp at hq
        · simp [Tr.get_nil] at hu
    | 2, hu =>
      cases hu
      refine ⟨it, _, rfl, g3, .inr (.inr ⟨33, T3, a3, b3, c3, d3, f3, 0, none, 0, false, _, rfl, rfl, .inl rfl, fun j z hz => ?_⟩)⟩
      rcases Tr.get_putAll _ hz with ⟨s, rfl, hq⟩ | ⟨_, hu⟩
      · rw [Nat.zero_add]
        have hd : rnV 0 (kN 12 [i, q, it, dt] []) (.sl dt 0 1 none) = some (.sl 15 0 1 none) := by
          show (match posOf dt (kN 12 [i, q, it, dt] []) 0 with | some k => some (AV.sl k 0 1 none) | none => none) = _
          rw [posOf_nd (k := 15) hK.all (kN_at (ng := 12) (j := 3) (ks := [i, q, it, dt]) (xs := []) (by simp))]
        exact by_cell hd k5 hq
      · simp [Tr.get_nil] at hu
    | 3, hu =>
      cases hu
      refine ⟨dt, _, rfl, g4, .inr (.inr ⟨1, T4, a4, b4, c4, d4, f4, 0, none, 0, false, _, rfl, rfl, .inl rfl, fun i z hz => ?_⟩)⟩
      rcases Tr.get_putAll _ hz with ⟨q, rfl, hq⟩ | ⟨_, hu⟩
      · match q, hq with
        | 0, hq => cases hq; exact ⟨_, k6, .inl rfl⟩
        | q + 1, hq => simp at hq
      · simp [Tr.get_nil] at hu
    | j + 4, hu => simp [byO] at hu
  · intro q hq
    rw [List.mem_singleton] at hq
    subst hq
    exact ⟨hk, _, hrow2⟩
  · exact .inr (by simp)
  · trivial
  · intro id o ho
    rcases AHeap.get_new ho with ⟨rfl, rfl⟩ | ⟨_, ho⟩
    · refine .inl ⟨k, _, bk.symm, .inr (by simp), hrow2, _, T5, bT (byB n (padB x (nopL t) n p)), 5, some 1, 0, false, rfl, rfl, fun j z hz => ?_⟩
      rcases Tr.get_putAll _ hz with ⟨s, rfl, hq⟩ | ⟨_, hu⟩
      · rw [List.getElem?_map] at hq
        obtain ⟨b, hb, rfl⟩ := Option.map_eq_some_iff.1 hq
        rw [Nat.zero_add]
        exact ⟨_, hrow s b hb, trivial, trivial, rfl⟩
      · simp [Tr.get_nil] at hu
    · refine .inr ⟨ho, fun j u hj2 hu => ?_⟩
      match j, hu with
      | 0, hu => cases hu; rfl
      | 1, hu => cases hu; rfl
      | 2, hu => cases hu; rfl
      | 3, hu => cases hu; rfl
      | j + 4, hu => simp [byO] at hu
end
open Classical in
def bySm (t : Nat) (x : Bool) (n v p : Nat) : Sm := fun f args H => match args with
  | [.ptr i 0, .ptr q 0] => if f = 37 ∧ ByShape t x n v p H i q then some (.sl H.next 0 (n + p + 1) none, H.new (.cells (n + p + 1) (bT (byB n (padB x (nopL t) n p))) 5 (some 1) 0 false false)) else none
  | _ => none
theorem by_ok {t : Nat} {x : Bool} {n v p : Nat} (ht : 0 < t ∧ t < 4) (hv : 0 < v) (hn : n ≤ 5000) (hp : p ≤ 5000) (hZ : (padB x (nopL t) n p).length = p) : SmOkJ Tryz.prog gl 12 (bySm t x n v p) := by
  intro f args H v2 H' M w cargs hs hj hg hr ha
  unfold bySm at hs
  split at hs
  case h_2 => cases hs
  rename_i i q
  split at hs
  case isFalse => cases hs
  rename_i hc
  cases hs
  obtain ⟨rfl, hc⟩ := hc
  exact by_core ht hv hn hp hZ hj hg hr hc ha
end
end Go.Proofs.YthlcgkebfodnmaaGreatDoor
