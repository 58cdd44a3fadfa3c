/- lex.number: a number at the front: its worth, how many bytes, or a fault. -/
import Derived.Test.YthlcgkebfodnmaaGreatDoorLxSp
namespace Go.Proofs.YthlcgkebfodnmaaGreatDoor
open Go Go.Vai
noncomputable section
set_option maxRecDepth 100000
def runT : AV → List UInt8 → Bool
  | .fn f [] [], s => runOk f s
  | _, _ => false
def runV : AV → List UInt8 → Nat
  | .fn f [] [], s => runP f s
  | _, _ => 0
def runK {α : Type} (args : List AV) (H : AHeap) (k : AV → AHeap → Option α) : Option α := match args with
  | [.str s, a] => bc (runT a s) (k (.int .i64 (.ofNat (runV a s))) H) none
  | _ => none
theorem runK_some {α : Type} {args : List AV} {H : AHeap} {k : AV → AHeap → Option α} {r : α} (h : runK args H k = some r) : ∃ v H', plainSm runFv 298 args H = some (v, H') ∧ k v H' = some r := by
  unfold runK at h
  split at h
  case h_2 => cases h
  rename_i s a
  obtain ⟨h1, h⟩ := bc_none h
  refine ⟨_, _, ?_, h⟩
  unfold runT at h1
  split at h1
  · unfold plainSm runFv runV
    simp only [Nat.beq_refl, h1, Bool.and_self, cond_true]
  · cases h1
def spK {α : Type} (ok : Bool) (args : List AV) (H : AHeap) (k : AV → AHeap → Option α) : Option α := match args with
  | [.str s, .int .i64 b, .int .i64 (.ofNat 64)] => bc (spOk b s) (match ok with
    | true => bc (Nat.blt (valD b.toNat s) 18446744073709551616) (k (.tup [.int .u64 (.ofNat (valD b.toNat s)), .nili]) H) none
    | false => bc (Nat.blt (valD b.toNat s) 18446744073709551616) none (k (.tup [.int .u64 (.ofNat 18446744073709551615), .iface 458 (.opq none)]) H)) none
  | _ => none
theorem spK_some {α : Type} {ok : Bool} {args : List AV} {H : AHeap} {k : AV → AHeap → Option α} {r : α} (h : spK ok args H k = some r) : ∃ v H', plainSm spFv 276 args H = some (v, H') ∧ k v H' = some r := by
  unfold spK at h
  split at h
  case h_2 => cases h
  rename_i s b
  obtain ⟨h1, h⟩ := bc_none h
  have e : ∀ H, plainSm spFv 276 [.str s, .int .i64 b, .int .i64 (.ofNat 64)] H = some (spR b s, H) := fun H => by
    unfold plainSm spFv
    simp only [Nat.beq_refl, h1, Bool.and_self, cond_true]
  refine ⟨_, _, e H, ?_⟩
  unfold spR
  cases ok with
  | true =>
    obtain ⟨h2, h⟩ := bc_none h
    rw [h2]; exact h
  | false =>
    obtain ⟨h2, h⟩ := bc_none2 h
    rw [h2]; exact h
def ENu : Env := envOf Tryz.prog 12 [276, 298, 297, 300, 218, 339, 352, 338, 299] (orSm (extSm kinds) (orSm (plainSm spFv) (orSm (plainSm runFv) (orSm (plainSm FT0) (plainSm FT1)))))
theorem enu_ok (w : World) (hw : GlobOk gl w) : EnvOk ENu Tryz.prog (Kept gl w) := envOk_sm (by kernel_rfl) ((smOk_ext ext_ok).or (sp_ok.or (run_ok.or ((plain_ok ft0_ok).or (plain_ok ft1_ok))))) mixed_ok (fun _ _ _ h => h.1) (kept_carried hw).ext
def SKnu (ok : Bool) {α : Type} : Smk α := fun f args H k => bif Nat.beq f 276 then spK ok args H k else bif Nat.beq f 298 then runK args H k else smC ENu f args H k
theorem sp_ne {g : Nat} (h : g ≠ 276) (args : List AV) : spFv g args = none := by
  unfold spFv
  split
  · rw [beqF h]; rfl
  · rfl
theorem sknu_ok (ok : Bool) {α : Type} : SmkOk (α := α) ENu (SKnu ok) := by
  intro f args H k r h
  unfold SKnu at h
  simp only [Bool.cond_eq_ite, Nat.beq_eq] at h
  split at h
  · rename_i e
    subst e
    obtain ⟨u, H', h1, h2⟩ := spK_some h
    exact ⟨u, H', (ext_pass (by kernel_rfl)).trans (plain_or h1), h2⟩
  split at h
  · rename_i e
    subst e
    obtain ⟨u, H', h1, h2⟩ := runK_some h
    exact ⟨u, H', (ext_pass (by kernel_rfl)).trans ((plain_ne (sp_ne (by decide) _)).trans (plain_or h1)), h2⟩
  · exact smC_ok _ _ _ _ _ _ h
theorem nuk_ok (ok : Bool) {α : Type} : ClOk (α := α) (taskKK ENu (SKnu ok) 3) (run ENu 3) := taskKK_ok (α := α) ENu (sknu_ok ok) 3
def hexm (s : List UInt8) : Bool := Nat.ble 2 s.length && (leq (s.take 2) [48, 120] && Nat.blt 0 (runL hexP (s.drop 2)))
def numB (b fr most : Nat) (p : UInt8 → Bool) (s : List UInt8) : Nat × Nat × Nat :=
  bif (Nat.blt (fr + runL p (s.drop fr)) s.length && goP (byteAt s (fr + runL p (s.drop fr)))) || (Nat.beq b 10 && (Nat.blt 1 (runL p (s.drop fr)) && Nat.beq (byteAt s 0).toNat 48)) then (0, 0, 12) else
  bif Nat.blt most (runL p (s.drop fr)) then (0, 0, 3) else
  bif Nat.blt (valD b ((s.drop fr).take (runL p (s.drop fr)))) 18446744073709551616 then (valD b ((s.drop fr).take (runL p (s.drop fr))), fr + runL p (s.drop fr), 0) else (0, 0, 3)
def numR (s : List UInt8) : Nat × Nat × Nat := bif hexm s then numB 16 2 16 hexP s else numB 10 0 20 digP s
def numA (x : Nat × Nat × Nat) : AV := .tup [.int .u64 (.ofNat x.1), .int .i64 (.ofNat x.2.1), .int .i64 (.ofNat x.2.2)]
theorem fold_lt {b : Nat} {q : UInt8 → Bool} (hq : ∀ c, q c = true → dv c.toNat < b) : ∀ (l : List UInt8) (m k : Nat), l.all q = true → m < b ^ k → l.foldl (fun m c => m * b + dv c.toNat) m < b ^ (k + l.length)
  | [], m, k, _, h => h
  | c :: l, m, k, ha, h => by
    simp only [List.all_cons, Bool.and_eq_true] at ha
    have h1 := hq c ha.1
    have h2 : m * b + dv c.toNat < b ^ (k + 1) := by
      have h3 : (m + 1) * b ≤ b ^ k * b := Nat.mul_le_mul_right b h
      rw [Nat.pow_succ]
      rw [Nat.add_mul, Nat.one_mul] at h3
      omega
    have := fold_lt hq l _ (k + 1) ha.2 h2
    rw [List.length_cons, show k + (l.length + 1) = k + 1 + l.length by omega]
    exact this
theorem dig_lt (c : UInt8) (h : digP c = true) : dv c.toNat < 10 := (dec_test (dig_dec h)).2.2.2.2
theorem hex_lt (c : UInt8) (h : hexP c = true) : dv c.toNat < 16 := by
  rcases hex_dec h with h | h
  · have := (dec_test h).2.2.2.2; omega
  · exact (let_test h).2.2.2.2.2.2
theorem run_all (p : UInt8 → Bool) : ∀ s : List UInt8, (s.take (runL p s)).all p = true
  | [] => rfl
  | c :: s => by
    unfold runL
    cases hc : p c with
    | false => rfl
    | true =>
      simp only [cond_true, List.take_succ_cons, List.all_cons, hc, Bool.true_and]
      exact run_all p s
theorem run_len (p : UInt8 → Bool) (s : List UInt8) : (s.take (runL p s)).length = runL p s := by
  rw [List.length_take]
  exact Nat.min_eq_left (runL_le p s)
theorem tree2 (A G M Z R : Bool) (x12 x3 xn : Option Leaf) : bc A (bc A (bc G x12 (bc M (bc true (bc Z x12 (bc R x3 xn)) none) (bc R x3 xn))) none) (bc M (bc true (bc Z x12 (bc R x3 xn)) none) (bc R x3 xn)) = bc ((A && G) || (M && Z)) x12 (bc R x3 xn) := by
  cases A <;> cases G <;> cases M <;> cases Z <;> rfl
theorem tree3 (A G R : Bool) (x12 x3 xn : Option Leaf) : bc A (bc A (bc G x12 (bc R x3 xn)) none) (bc R x3 xn) = bc (A && G) x12 (bc R x3 xn) := by
  cases A <;> cases G <;> rfl
def fn301 : AFunc := (ENu.fn 301).getD default
theorem fn301_eq : ENu.fn 301 = some fn301 := by kernel_rfl
theorem fn301_flat : flat fn301.body = (flat fn301.body).take 4 ++ (((flat fn301.body).drop 4).take 2 ++ (((flat fn301.body).drop 6).take 1 ++ (flat fn301.body).drop 7)) := by kernel_rfl
theorem fn301_res : fn301.results = [2, 3, 4].map .tmp := by kernel_rfl
theorem nuA_eq (s : List UInt8) : codesKK ENu (taskKK ENu (SKnu true) 3) ((flat fn301.body).take 4) (leafK 12 [0, 2, 3, 4, 5, 6, 7, 8] [0, 1, 2, 3, 4, 5, 6, 7, 8, 9, 10, 11]) (newFr fn301 [.str s]) (mkH 12 []) = bc (!(Nat.blt (lenU s) 2)) (bc (Nat.ble 2 (lenU s)) (bc (leq (List.take 2 (List.drop 0 s)) [48, 120]) (bc (Nat.ble 2 (lenU s)) (bc (runT (.fn 338 [] []) (List.drop 2 s)) (bc (Nat.blt 0 (runV (.fn 338 [] []) (List.drop 2 s))) (lf .normal 70 ([.str s, .int .u64 (.ofNat 0), .int .i64 (.ofNat 0), .int .i64 (.ofNat 0), .int .i64 (.ofNat 16), .int .i64 (.ofNat 2), .int .i64 (.ofNat 16), .fn 338 [] []].map some) ([].map some)) (lf .normal 70 ([.str s, .int .u64 (.ofNat 0), .int .i64 (.ofNat 0), .int .i64 (.ofNat 0), .int .i64 (.ofNat 10), .int .i64 (.ofNat 0), .int .i64 (.ofNat 20), .fn 300 [] []].map some) ([].map some))) (none)) (none)) (lf .normal 70 ([.str s, .int .u64 (.ofNat 0), .int .i64 (.ofNat 0), .int .i64 (.ofNat 0), .int .i64 (.ofNat 10), .int .i64 (.ofNat 0), .int .i64 (.ofNat 20), .fn 300 [] []].map some) ([].map some))) (none)) (lf .normal 70 ([.str s, .int .u64 (.ofNat 0), .int .i64 (.ofNat 0), .int .i64 (.ofNat 0), .int .i64 (.ofNat 10), .int .i64 (.ofNat 0), .int .i64 (.ofNat 20), .fn 300 [] []].map some) ([].map some)) := by kernel_rfl
theorem nuD1_eq (s : List UInt8) : codesKK ENu (taskKK ENu (SKnu true) 3) (((flat fn301.body).drop 4).take 2) (leafK 12 [0, 2, 3, 4, 5, 6, 7, 9, 10] [0, 1, 2, 3, 4, 5, 6, 7, 8, 9, 10, 11]) (mkFr 70 [0, 2, 3, 4, 5, 6, 7, 8] [.str s, .int .u64 (.ofNat 0), .int .i64 (.ofNat 0), .int .i64 (.ofNat 0), .int .i64 (.ofNat 10), .int .i64 (.ofNat 0), .int .i64 (.ofNat 20), .fn 300 [] []]) (mkH 12 []) = bc (runT (.fn 300 [] []) (List.drop 0 s)) (lf .normal 70 ([.str s, .int .u64 (.ofNat 0), .int .i64 (.ofNat 0), .int .i64 (.ofNat 0), .int .i64 (.ofNat 10), .int .i64 (.ofNat 0), .int .i64 (.ofNat 20), .int .i64 (.ofNat (runV (.fn 300 [] []) (List.drop 0 s))), .int .i64 (wrapR .i64 (.ofNat (Nat.add 0 (runV (.fn 300 [] []) (List.drop 0 s)))))].map some) ([].map some)) (none) := by kernel_rfl
theorem nuD2_eq (s : List UInt8) (m e : Nat) : codesKK ENu (taskKK ENu (SKnu true) 3) (((flat fn301.body).drop 6).take 1) (leafK 12 [0, 2, 3, 4, 5, 6, 7, 9, 10] [0, 1, 2, 3, 4, 5, 6, 7, 8, 9, 10, 11]) (mkFr 70 [0, 2, 3, 4, 5, 6, 7, 9, 10] [.str s, .int .u64 (.ofNat 0), .int .i64 (.ofNat 0), .int .i64 (.ofNat 0), .int .i64 (.ofNat 10), .int .i64 (.ofNat 0), .int .i64 (.ofNat 20), .int .i64 (.ofNat m), .int .i64 (.ofNat e)]) (mkH 12 []) = bc (Nat.blt e (lenU s)) (bc (Nat.blt e (lenU s)) (bc (cGoB (.ofNat (UInt8.toNat (byteAt s e)))) (lf .ret 70 ([.str s, .int .u64 (.ofNat 0), .int .i64 (.ofNat 0), .int .i64 (.ofNat 12), .int .i64 (.ofNat 10), .int .i64 (.ofNat 0), .int .i64 (.ofNat 20), .int .i64 (.ofNat m), .int .i64 (.ofNat e)].map some) ([].map some)) (bc (Nat.blt 1 m) (bc (Nat.blt 0 (lenU s)) (bc (Nat.beq (UInt8.toNat (byteAt s 0)) 48) (lf .ret 70 ([.str s, .int .u64 (.ofNat 0), .int .i64 (.ofNat 0), .int .i64 (.ofNat 12), .int .i64 (.ofNat 10), .int .i64 (.ofNat 0), .int .i64 (.ofNat 20), .int .i64 (.ofNat m), .int .i64 (.ofNat e)].map some) ([].map some)) (bc (Nat.blt 20 m) (lf .ret 70 ([.str s, .int .u64 (.ofNat 0), .int .i64 (.ofNat 0), .int .i64 (.ofNat 3), .int .i64 (.ofNat 10), .int .i64 (.ofNat 0), .int .i64 (.ofNat 20), .int .i64 (.ofNat m), .int .i64 (.ofNat e)].map some) ([].map some)) (lf .normal 70 ([.str s, .int .u64 (.ofNat 0), .int .i64 (.ofNat 0), .int .i64 (.ofNat 0), .int .i64 (.ofNat 10), .int .i64 (.ofNat 0), .int .i64 (.ofNat 20), .int .i64 (.ofNat m), .int .i64 (.ofNat e)].map some) ([].map some)))) (none)) (bc (Nat.blt 20 m) (lf .ret 70 ([.str s, .int .u64 (.ofNat 0), .int .i64 (.ofNat 0), .int .i64 (.ofNat 3), .int .i64 (.ofNat 10), .int .i64 (.ofNat 0), .int .i64 (.ofNat 20), .int .i64 (.ofNat m), .int .i64 (.ofNat e)].map some) ([].map some)) (lf .normal 70 ([.str s, .int .u64 (.ofNat 0), .int .i64 (.ofNat 0), .int .i64 (.ofNat 0), .int .i64 (.ofNat 10), .int .i64 (.ofNat 0), .int .i64 (.ofNat 20), .int .i64 (.ofNat m), .int .i64 (.ofNat e)].map some) ([].map some))))) (none)) (bc (Nat.blt 1 m) (bc (Nat.blt 0 (lenU s)) (bc (Nat.beq (UInt8.toNat (byteAt s 0)) 48) (lf .ret 70 ([.str s, .int .u64 (.ofNat 0), .int .i64 (.ofNat 0), .int .i64 (.ofNat 12), .int .i64 (.ofNat 10), .int .i64 (.ofNat 0), .int .i64 (.ofNat 20), .int .i64 (.ofNat m), .int .i64 (.ofNat e)].map some) ([].map some)) (bc (Nat.blt 20 m) (lf .ret 70 ([.str s, .int .u64 (.ofNat 0), .int .i64 (.ofNat 0), .int .i64 (.ofNat 3), .int .i64 (.ofNat 10), .int .i64 (.ofNat 0), .int .i64 (.ofNat 20), .int .i64 (.ofNat m), .int .i64 (.ofNat e)].map some) ([].map some)) (lf .normal 70 ([.str s, .int .u64 (.ofNat 0), .int .i64 (.ofNat 0), .int .i64 (.ofNat 0), .int .i64 (.ofNat 10), .int .i64 (.ofNat 0), .int .i64 (.ofNat 20), .int .i64 (.ofNat m), .int .i64 (.ofNat e)].map some) ([].map some)))) (none)) (bc (Nat.blt 20 m) (lf .ret 70 ([.str s, .int .u64 (.ofNat 0), .int .i64 (.ofNat 0), .int .i64 (.ofNat 3), .int .i64 (.ofNat 10), .int .i64 (.ofNat 0), .int .i64 (.ofNat 20), .int .i64 (.ofNat m), .int .i64 (.ofNat e)].map some) ([].map some)) (lf .normal 70 ([.str s, .int .u64 (.ofNat 0), .int .i64 (.ofNat 0), .int .i64 (.ofNat 0), .int .i64 (.ofNat 10), .int .i64 (.ofNat 0), .int .i64 (.ofNat 20), .int .i64 (.ofNat m), .int .i64 (.ofNat e)].map some) ([].map some)))) := by kernel_rfl
theorem nuD3_eq (s : List UInt8) (m e : Nat) : codesKK ENu (taskKK ENu (SKnu true) 3) ((flat fn301.body).drop 7) (leafK 12 [2, 3, 4] [0, 1, 2, 3, 4, 5, 6, 7, 8, 9, 10, 11]) (mkFr 70 [0, 2, 3, 4, 5, 6, 7, 9, 10] [.str s, .int .u64 (.ofNat 0), .int .i64 (.ofNat 0), .int .i64 (.ofNat 0), .int .i64 (.ofNat 10), .int .i64 (.ofNat 0), .int .i64 (.ofNat 20), .int .i64 (.ofNat m), .int .i64 (.ofNat e)]) (mkH 12 []) = bc (Nat.ble e (lenU s)) (bc (spOk (.ofNat 10) (List.take e (List.drop 0 s))) (bc (Nat.blt (valD (Int.toNat (.ofNat 10)) (List.take e (List.drop 0 s))) 18446744073709551616) (lf .ret 70 ([.int .u64 (.ofNat (valD (Int.toNat (.ofNat 10)) (List.take e (List.drop 0 s)))), .int .i64 (.ofNat e), .int .i64 (.ofNat 0)].map some) ([].map some)) (none)) (none)) (none) := by kernel_rfl
theorem nuH1_eq (s : List UInt8) : codesKK ENu (taskKK ENu (SKnu true) 3) (((flat fn301.body).drop 4).take 2) (leafK 12 [0, 2, 3, 4, 5, 6, 7, 9, 10] [0, 1, 2, 3, 4, 5, 6, 7, 8, 9, 10, 11]) (mkFr 70 [0, 2, 3, 4, 5, 6, 7, 8] [.str s, .int .u64 (.ofNat 0), .int .i64 (.ofNat 0), .int .i64 (.ofNat 0), .int .i64 (.ofNat 16), .int .i64 (.ofNat 2), .int .i64 (.ofNat 16), .fn 338 [] []]) (mkH 12 []) = bc (Nat.ble 2 (lenU s)) (bc (runT (.fn 338 [] []) (List.drop 2 s)) (lf .normal 70 ([.str s, .int .u64 (.ofNat 0), .int .i64 (.ofNat 0), .int .i64 (.ofNat 0), .int .i64 (.ofNat 16), .int .i64 (.ofNat 2), .int .i64 (.ofNat 16), .int .i64 (.ofNat (runV (.fn 338 [] []) (List.drop 2 s))), .int .i64 (wrapR .i64 (.ofNat (Nat.add 2 (runV (.fn 338 [] []) (List.drop 2 s)))))].map some) ([].map some)) (none)) (none) := by kernel_rfl
theorem nuH2_eq (s : List UInt8) (m e : Nat) : codesKK ENu (taskKK ENu (SKnu true) 3) (((flat fn301.body).drop 6).take 1) (leafK 12 [0, 2, 3, 4, 5, 6, 7, 9, 10] [0, 1, 2, 3, 4, 5, 6, 7, 8, 9, 10, 11]) (mkFr 70 [0, 2, 3, 4, 5, 6, 7, 9, 10] [.str s, .int .u64 (.ofNat 0), .int .i64 (.ofNat 0), .int .i64 (.ofNat 0), .int .i64 (.ofNat 16), .int .i64 (.ofNat 2), .int .i64 (.ofNat 16), .int .i64 (.ofNat m), .int .i64 (.ofNat e)]) (mkH 12 []) = bc (Nat.blt e (lenU s)) (bc (Nat.blt e (lenU s)) (bc (cGoB (.ofNat (UInt8.toNat (byteAt s e)))) (lf .ret 70 ([.str s, .int .u64 (.ofNat 0), .int .i64 (.ofNat 0), .int .i64 (.ofNat 12), .int .i64 (.ofNat 16), .int .i64 (.ofNat 2), .int .i64 (.ofNat 16), .int .i64 (.ofNat m), .int .i64 (.ofNat e)].map some) ([].map some)) (bc (Nat.blt 16 m) (lf .ret 70 ([.str s, .int .u64 (.ofNat 0), .int .i64 (.ofNat 0), .int .i64 (.ofNat 3), .int .i64 (.ofNat 16), .int .i64 (.ofNat 2), .int .i64 (.ofNat 16), .int .i64 (.ofNat m), .int .i64 (.ofNat e)].map some) ([].map some)) (lf .normal 70 ([.str s, .int .u64 (.ofNat 0), .int .i64 (.ofNat 0), .int .i64 (.ofNat 0), .int .i64 (.ofNat 16), .int .i64 (.ofNat 2), .int .i64 (.ofNat 16), .int .i64 (.ofNat m), .int .i64 (.ofNat e)].map some) ([].map some)))) (none)) (bc (Nat.blt 16 m) (lf .ret 70 ([.str s, .int .u64 (.ofNat 0), .int .i64 (.ofNat 0), .int .i64 (.ofNat 3), .int .i64 (.ofNat 16), .int .i64 (.ofNat 2), .int .i64 (.ofNat 16), .int .i64 (.ofNat m), .int .i64 (.ofNat e)].map some) ([].map some)) (lf .normal 70 ([.str s, .int .u64 (.ofNat 0), .int .i64 (.ofNat 0), .int .i64 (.ofNat 0), .int .i64 (.ofNat 16), .int .i64 (.ofNat 2), .int .i64 (.ofNat 16), .int .i64 (.ofNat m), .int .i64 (.ofNat e)].map some) ([].map some))) := by kernel_rfl
theorem nuH3_eq (s : List UInt8) (m e : Nat) : codesKK ENu (taskKK ENu (SKnu true) 3) ((flat fn301.body).drop 7) (leafK 12 [2, 3, 4] [0, 1, 2, 3, 4, 5, 6, 7, 8, 9, 10, 11]) (mkFr 70 [0, 2, 3, 4, 5, 6, 7, 9, 10] [.str s, .int .u64 (.ofNat 0), .int .i64 (.ofNat 0), .int .i64 (.ofNat 0), .int .i64 (.ofNat 16), .int .i64 (.ofNat 2), .int .i64 (.ofNat 16), .int .i64 (.ofNat m), .int .i64 (.ofNat e)]) (mkH 12 []) = bc (Nat.ble e (lenU s)) (bc (Nat.ble 2 e) (bc (spOk (.ofNat 16) (List.take (Nat.sub e 2) (List.drop 2 s))) (bc (Nat.blt (valD (Int.toNat (.ofNat 16)) (List.take (Nat.sub e 2) (List.drop 2 s))) 18446744073709551616) (lf .ret 70 ([.int .u64 (.ofNat (valD (Int.toNat (.ofNat 16)) (List.take (Nat.sub e 2) (List.drop 2 s)))), .int .i64 (.ofNat e), .int .i64 (.ofNat 0)].map some) ([].map some)) (none)) (none)) (none)) (none) := by kernel_rfl
def nuS : List Nat := [0, 2, 3, 4, 5, 6, 7, 9, 10]
def nuV (b fr most : Nat) (s : List UInt8) (x m e : Nat) : List AV := [.str s, .int .u64 (.ofNat 0), .int .i64 (.ofNat 0), .int .i64 (.ofNat x), .int .i64 (.ofNat b), .int .i64 (.ofNat fr), .int .i64 (.ofNat most), .int .i64 (.ofNat m), .int .i64 (.ofNat e)]
theorem nuD4_eq (s : List UInt8) (m e : Nat) : codesKK ENu (taskKK ENu (SKnu false) 3) ((flat fn301.body).drop 7) (leafK 12 [2, 3, 4] [0, 1, 2, 3, 4, 5, 6, 7, 8, 9, 10, 11]) (mkFr 70 nuS (nuV 10 0 20 s 0 m e)) (mkH 12 []) = bc (Nat.ble e (lenU s)) (bc (spOk (.ofNat 10) (List.take e (List.drop 0 s))) (bc (Nat.blt (valD 10 (List.take e (List.drop 0 s))) 18446744073709551616) none (lf .ret 70 ([.int .u64 (.ofNat 0), .int .i64 (.ofNat 0), .int .i64 (.ofNat 3)].map some) ([].map some))) none) none := by kernel_rfl
section
variable {P : Program} {I : List MEnt → AHeap → World → Prop} {ro : Option Nat}
theorem nuD_fin (hE : EnvOk ENu P I) (hI : Carried I) {s : List UInt8} (h1 : 1 ≤ runL digP (s.drop 0)) (h2 : 0 ≤ s.length) (hs : s.length < 4294967296) : TriL ENu P I ro (((flat fn301.body).drop 4).take 2 ++ (((flat fn301.body).drop 6).take 1 ++ (flat fn301.body).drop 7)) (mkFr 70 [0, 2, 3, 4, 5, 6, 7, 8] [.str s, .int .u64 (.ofNat 0), .int .i64 (.ofNat 0), .int .i64 (.ofNat 0), .int .i64 (.ofNat 10), .int .i64 (.ofNat 0), .int .i64 (.ofNat 20), .fn 300 [] []]) (mkH 12 []) fun e fr H => (e = .normal ∨ e = .ret) ∧ fr.df = [] ∧ ∃ l, resA ENu fr.t H fn301.results = some l ∧ weak2 (resV l) = numA (numB 10 0 20 digP s) := by
  have hl : lenU s = s.length := rfl
  have hle := runL_le digP (s.drop 0)
  rw [List.length_drop] at hle
  have e1 : runT (.fn 300 [] []) (s.drop 0) = true := by
    show (true && Nat.blt (s.drop 0).length 4294967296) = true
    rw [List.length_drop, blt_t (by omega)]; rfl
  have e2 : wrapR .i64 (.ofNat (Nat.add 0 (runV (.fn 300 [] []) (s.drop 0)))) = .ofNat (0 + runL digP (s.drop 0)) := wrapR_small (k := 0 + runL digP (s.drop 0)) (by omega)
  refine TriL.leafXC hE hI (nuk_ok true) (vs := nuV 10 0 20 s 0 (runL digP (s.drop 0)) (0 + runL digP (s.drop 0))) (os := []) (os2 := []) ((nuD1_eq s).trans (by rw [e1, e2]; rfl)) (by decide) rfl rfl rows0 (.inl ⟨rfl, ?_⟩)
  have fin : ∀ (x : Nat × Nat × Nat), numB 10 0 20 digP s = x → ∀ fr' H' {n : Nat} {S : List Nat} {vs : List AV} {keep : List Nat} {H2 : AHeap}, Ren 12 keep fr' H' (mkFr n S vs) H2 → [2, 3, 4].map (fun t => (mkFr n S vs).t.get t) = [AV.int .u64 (.ofNat x.1), .int .i64 (.ofNat x.2.1), .int .i64 (.ofNat x.2.2)].map some → (AExit.ret = .normal ∨ AExit.ret = .ret) ∧ fr'.df = [] ∧ ∃ l, resA ENu fr'.t H' fn301.results = some l ∧ weak2 (resV l) = numA (numB 10 0 20 digP s) := fun x hx fr' H' n S vs keep H2 r e => ⟨.inr rfl, r.df.1, _, by rw [fn301_res]; exact ren_res r e rfl, by rw [hx]; rfl⟩
  have et := nuD2_eq s (runL digP (s.drop 0)) (0 + runL digP (s.drop 0))
  rw [show Nat.blt 0 (lenU s) = true from blt_t (by omega)] at et
  have ht := et.trans (tree2 _ _ _ _ _ _ _ _)
  have hcond : numB 10 0 20 digP s = bif (Nat.blt (0 + runL digP (s.drop 0)) (lenU s) && cGoB (.ofNat (UInt8.toNat (byteAt s (0 + runL digP (s.drop 0)))))) || (Nat.blt 1 (runL digP (s.drop 0)) && Nat.beq (UInt8.toNat (byteAt s 0)) 48) then (0, 0, 12) else bif Nat.blt 20 (runL digP (s.drop 0)) then (0, 0, 3) else bif Nat.blt (valD 10 ((s.drop 0).take (runL digP (s.drop 0)))) 18446744073709551616 then (valD 10 ((s.drop 0).take (runL digP (s.drop 0))), 0 + runL digP (s.drop 0), 0) else (0, 0, 3) := rfl
  generalize hx : ((Nat.blt (0 + runL digP (s.drop 0)) (lenU s) && cGoB (.ofNat (UInt8.toNat (byteAt s (0 + runL digP (s.drop 0)))))) || (Nat.blt 1 (runL digP (s.drop 0)) && Nat.beq (UInt8.toNat (byteAt s 0)) 48)) = x at ht hcond
  cases x with
  | true => exact TriL.leafXC hE hI (nuk_ok true) (vs := nuV 10 0 20 s 12 (runL digP (s.drop 0)) (0 + runL digP (s.drop 0))) (os := []) (os2 := []) ht (by decide) rfl rfl rows0 (.inr ⟨(by intro h; cases h), fun fr' H' r => fin (0, 0, 12) hcond fr' H' r rfl⟩)
  | false =>
    rw [bc_false] at ht
    simp only [cond_false] at hcond
    cases hm : Nat.blt 20 (runL digP (s.drop 0)) with
    | true =>
      rw [hm, bc_true] at ht
      rw [hm] at hcond
      exact TriL.leafXC hE hI (nuk_ok true) (vs := nuV 10 0 20 s 3 (runL digP (s.drop 0)) (0 + runL digP (s.drop 0))) (os := []) (os2 := []) ht (by decide) rfl rfl rows0 (.inr ⟨(by intro h; cases h), fun fr' H' r => fin (0, 0, 3) hcond fr' H' r rfl⟩)
    | false =>
      rw [hm, bc_false] at ht
      rw [hm] at hcond
      simp only [cond_false] at hcond
      have hm2 : runL digP (s.drop 0) ≤ 20 := by
        have : ¬ 20 < runL digP (s.drop 0) := fun h => by rw [blt_t h] at hm; cases hm
        omega
      refine TriL.leafXC hE hI (nuk_ok true) (vs := nuV 10 0 20 s 0 (runL digP (s.drop 0)) (0 + runL digP (s.drop 0))) (os := []) (os2 := []) ht (by decide) rfl rfl rows0 (.inl ⟨rfl, ?_⟩)
      have et2 : List.take (0 + runL digP (s.drop 0)) (List.drop 0 s) = ((s.drop 0).take (runL digP (s.drop 0))) := by rw [List.drop_zero, Nat.zero_add]
      have ha := run_all digP (s.drop 0)
      have hn := run_len digP (s.drop 0)
      have hlt : valD 10 ((s.drop 0).take (runL digP (s.drop 0))) < 10 ^ runL digP (s.drop 0) := by
        have := fold_lt (b := 10) (q := digP) dig_lt _ 0 0 ha (by decide)
        rw [hn, Nat.zero_add] at this
        exact this
      have hpow : 10 ^ runL digP (s.drop 0) ≤ 10 ^ 20 := Nat.pow_le_pow_right (by decide) hm2
      have hok : puOk (.ofNat 10) ((s.drop 0).take (runL digP (s.drop 0))) = true := by
        unfold puOk allP
        rw [show lenU ((s.drop 0).take (runL digP (s.drop 0))) = runL digP (s.drop 0) from hn, ble_t h1, blt_t (show runL digP (s.drop 0) < 4294967296 by omega), ha]
        rfl
      cases hv : Nat.blt (valD 10 ((s.drop 0).take (runL digP (s.drop 0)))) 18446744073709551616 with
      | true =>
        rw [hv] at hcond
        have hsp : spOk (.ofNat 10) ((s.drop 0).take (runL digP (s.drop 0))) = true := by unfold spOk; rw [hok, show Int.toNat (.ofNat 10) = 10 from rfl, hv]; rfl
        refine TriL.leafC hE (nuk_ok true) (os := []) (os2 := []) ((nuD3_eq s (runL digP (s.drop 0)) (0 + runL digP (s.drop 0))).trans (by rw [et2, show Nat.ble (0 + runL digP (s.drop 0)) (lenU s) = true from ble_t (by omega), hsp, show Int.toNat (.ofNat 10) = 10 from rfl, hv]; rfl)) (by decide) rfl rfl rows0 fun fr' H' r => fin _ hcond fr' H' r rfl
      | false =>
        rw [hv] at hcond
        have hge : 18446744073709551616 ≤ valD 10 ((s.drop 0).take (runL digP (s.drop 0))) := Nat.le_of_not_lt fun h => by rw [blt_t h] at hv; cases hv
        have h20 : runL digP (s.drop 0) = 20 := by
          by_cases h : runL digP (s.drop 0) < 20
          · have := Nat.pow_le_pow_right (n := 10) (by decide) (show runL digP (s.drop 0) ≤ 19 by omega)
            have : (10 : Nat) ^ 19 = 10000000000000000000 := by decide
            omega
          · omega
        have hsp : spOk (.ofNat 10) ((s.drop 0).take (runL digP (s.drop 0))) = true := by unfold spOk; rw [hok, show lenU ((s.drop 0).take (runL digP (s.drop 0))) = 20 from hn.trans h20, show Nat.beq 20 20 = true from rfl, Bool.or_true]; rfl
        refine TriL.leafC hE (nuk_ok false) (os := []) (os2 := []) ((nuD4_eq s (runL digP (s.drop 0)) (0 + runL digP (s.drop 0))).trans (by rw [et2, show Nat.ble (0 + runL digP (s.drop 0)) (lenU s) = true from ble_t (by omega), hsp, hv]; rfl)) (by decide) rfl rfl rows0 fun fr' H' r => fin (0, 0, 3) hcond fr' H' r rfl
end
section
variable {P : Program} {I : List MEnt → AHeap → World → Prop} {ro : Option Nat}
theorem nuH_fin (hE : EnvOk ENu P I) (hI : Carried I) {s : List UInt8} (h1 : 1 ≤ runL hexP (s.drop 2)) (h2 : 2 ≤ s.length) (hs : s.length < 4294967296) : TriL ENu P I ro (((flat fn301.body).drop 4).take 2 ++ (((flat fn301.body).drop 6).take 1 ++ (flat fn301.body).drop 7)) (mkFr 70 [0, 2, 3, 4, 5, 6, 7, 8] [.str s, .int .u64 (.ofNat 0), .int .i64 (.ofNat 0), .int .i64 (.ofNat 0), .int .i64 (.ofNat 16), .int .i64 (.ofNat 2), .int .i64 (.ofNat 16), .fn 338 [] []]) (mkH 12 []) fun e fr H => (e = .normal ∨ e = .ret) ∧ fr.df = [] ∧ ∃ l, resA ENu fr.t H fn301.results = some l ∧ weak2 (resV l) = numA (numB 16 2 16 hexP s) := by
  have hl : lenU s = s.length := rfl
  have hle := runL_le hexP (s.drop 2)
  rw [List.length_drop] at hle
  have e1 : runT (.fn 338 [] []) (s.drop 2) = true := by
    show (true && Nat.blt (s.drop 2).length 4294967296) = true
    rw [List.length_drop, blt_t (by omega)]; rfl
  have e2 : wrapR .i64 (.ofNat (Nat.add 2 (runV (.fn 338 [] []) (s.drop 2)))) = .ofNat (2 + runL hexP (s.drop 2)) := wrapR_small (k := 2 + runL hexP (s.drop 2)) (by omega)
  refine TriL.leafXC hE hI (nuk_ok true) (vs := nuV 16 2 16 s 0 (runL hexP (s.drop 2)) (2 + runL hexP (s.drop 2))) (os := []) (os2 := []) ((nuH1_eq s).trans (by rw [show Nat.ble 2 (lenU s) = true from ble_t h2, e1, e2]; rfl)) (by decide) rfl rfl rows0 (.inl ⟨rfl, ?_⟩)
  have fin : ∀ (x : Nat × Nat × Nat), numB 16 2 16 hexP s = x → ∀ fr' H' {n : Nat} {S : List Nat} {vs : List AV} {keep : List Nat} {H2 : AHeap}, Ren 12 keep fr' H' (mkFr n S vs) H2 → [2, 3, 4].map (fun t => (mkFr n S vs).t.get t) = [AV.int .u64 (.ofNat x.1), .int .i64 (.ofNat x.2.1), .int .i64 (.ofNat x.2.2)].map some → (AExit.ret = .normal ∨ AExit.ret = .ret) ∧ fr'.df = [] ∧ ∃ l, resA ENu fr'.t H' fn301.results = some l ∧ weak2 (resV l) = numA (numB 16 2 16 hexP s) := fun x hx fr' H' n S vs keep H2 r e => ⟨.inr rfl, r.df.1, _, by rw [fn301_res]; exact ren_res r e rfl, by rw [hx]; rfl⟩
  have et := nuH2_eq s (runL hexP (s.drop 2)) (2 + runL hexP (s.drop 2))
  have ht := et.trans (tree3 _ _ _ _ _ _)
  have hcond : numB 16 2 16 hexP s = bif (Nat.blt (2 + runL hexP (s.drop 2)) (lenU s) && cGoB (.ofNat (UInt8.toNat (byteAt s (2 + runL hexP (s.drop 2)))))) then (0, 0, 12) else bif Nat.blt 16 (runL hexP (s.drop 2)) then (0, 0, 3) else bif Nat.blt (valD 16 ((s.drop 2).take (runL hexP (s.drop 2)))) 18446744073709551616 then (valD 16 ((s.drop 2).take (runL hexP (s.drop 2))), 2 + runL hexP (s.drop 2), 0) else (0, 0, 3) := by
    unfold numB
    rw [show Nat.beq 16 10 = false from rfl, Bool.false_and, Bool.or_false]; rfl
  generalize hx : (Nat.blt (2 + runL hexP (s.drop 2)) (lenU s) && cGoB (.ofNat (UInt8.toNat (byteAt s (2 + runL hexP (s.drop 2)))))) = x at ht hcond
  cases x with
  | true => exact TriL.leafXC hE hI (nuk_ok true) (vs := nuV 16 2 16 s 12 (runL hexP (s.drop 2)) (2 + runL hexP (s.drop 2))) (os := []) (os2 := []) ht (by decide) rfl rfl rows0 (.inr ⟨(by intro h; cases h), fun fr' H' r => fin (0, 0, 12) hcond fr' H' r rfl⟩)
  | false =>
    rw [bc_false] at ht
    simp only [cond_false] at hcond
    cases hm : Nat.blt 16 (runL hexP (s.drop 2)) with
    | true =>
      rw [hm, bc_true] at ht
      rw [hm] at hcond
      exact TriL.leafXC hE hI (nuk_ok true) (vs := nuV 16 2 16 s 3 (runL hexP (s.drop 2)) (2 + runL hexP (s.drop 2))) (os := []) (os2 := []) ht (by decide) rfl rfl rows0 (.inr ⟨(by intro h; cases h), fun fr' H' r => fin (0, 0, 3) hcond fr' H' r rfl⟩)
    | false =>
      rw [hm, bc_false] at ht
      rw [hm] at hcond
      simp only [cond_false] at hcond
      have hm2 : runL hexP (s.drop 2) ≤ 16 := by
        have : ¬ 16 < runL hexP (s.drop 2) := fun h => by rw [blt_t h] at hm; cases hm
        omega
      refine TriL.leafXC hE hI (nuk_ok true) (vs := nuV 16 2 16 s 0 (runL hexP (s.drop 2)) (2 + runL hexP (s.drop 2))) (os := []) (os2 := []) ht (by decide) rfl rfl rows0 (.inl ⟨rfl, ?_⟩)
      have et2 : List.take (Nat.sub (2 + runL hexP (s.drop 2)) 2) (List.drop 2 s) = ((s.drop 2).take (runL hexP (s.drop 2))) := by rw [show Nat.sub (2 + runL hexP (s.drop 2)) 2 = runL hexP (s.drop 2) from Nat.add_sub_cancel_left ..]
      have ha := run_all hexP (s.drop 2)
      have hn := run_len hexP (s.drop 2)
      have hlt : valD 16 ((s.drop 2).take (runL hexP (s.drop 2))) < 16 ^ runL hexP (s.drop 2) := by
        have := fold_lt (b := 16) (q := hexP) hex_lt _ 0 0 ha (by decide)
        rw [hn, Nat.zero_add] at this
        exact this
      have hpow : 16 ^ runL hexP (s.drop 2) ≤ 16 ^ 16 := Nat.pow_le_pow_right (by decide) hm2
      have hok : puOk (.ofNat 16) ((s.drop 2).take (runL hexP (s.drop 2))) = true := by
        unfold puOk allP
        rw [show lenU ((s.drop 2).take (runL hexP (s.drop 2))) = runL hexP (s.drop 2) from hn, ble_t h1, blt_t (show runL hexP (s.drop 2) < 4294967296 by omega), ha]
        rfl
      have hv : Nat.blt (valD 16 ((s.drop 2).take (runL hexP (s.drop 2)))) 18446744073709551616 = true := blt_t (by
        have : (16 : Nat) ^ 16 = 18446744073709551616 := by decide
        omega)
      rw [hv] at hcond
      have hsp : spOk (.ofNat 16) ((s.drop 2).take (runL hexP (s.drop 2))) = true := by unfold spOk; rw [hok, show Int.toNat (.ofNat 16) = 16 from rfl, hv]; rfl
      refine TriL.leafC hE (nuk_ok true) (os := []) (os2 := []) ((nuH3_eq s (runL hexP (s.drop 2)) (2 + runL hexP (s.drop 2))).trans (by rw [et2, show Nat.ble (2 + runL hexP (s.drop 2)) (lenU s) = true from ble_t (by omega), show Nat.ble 2 (2 + runL hexP (s.drop 2)) = true from ble_t (by omega), hsp, show Int.toNat (.ofNat 16) = 16 from rfl, hv]; rfl)) (by decide) rfl rfl rows0 fun fr' H' r => fin _ hcond fr' H' r rfl
end
section
variable {P : Program} {I : List MEnt → AHeap → World → Prop} {ro : Option Nat}
theorem nu_tri (hE : EnvOk ENu P I) (hI : Carried I) {s : List UInt8} (h1 : 1 ≤ s.length) (hd : digP (byteAt s 0) = true) (hs : s.length < 4294967296) : Tri ENu P I ro fn301.body (newFr fn301 [.str s]) (mkH 12 []) fun e fr H => (e = .normal ∨ e = .ret) ∧ fr.df = [] ∧ ∃ l, resA ENu fr.t H fn301.results = some l ∧ weak2 (resV l) = numA (numR s) := by
  refine tri_of_triL _ ?_
  rw [fn301_flat]
  have hD : 1 ≤ runL digP (s.drop 0) := by
    rw [List.drop_zero]
    cases s with
    | nil => simp at h1
    | cons c s =>
      unfold runL
      rw [show digP c = true from hd]
      exact Nat.le_add_left _ _
  have et := nuA_eq s
  have dec : hexm s = false → codesKK ENu (taskKK ENu (SKnu true) 3) ((flat fn301.body).take 4) (leafK 12 [0, 2, 3, 4, 5, 6, 7, 8] [0, 1, 2, 3, 4, 5, 6, 7, 8, 9, 10, 11]) (newFr fn301 [.str s]) (mkH 12 []) = lf .normal 70 ([.str s, .int .u64 (.ofNat 0), .int .i64 (.ofNat 0), .int .i64 (.ofNat 0), .int .i64 (.ofNat 10), .int .i64 (.ofNat 0), .int .i64 (.ofNat 20), .fn 300 [] []].map some) ([].map some) → TriL ENu P I ro ((flat fn301.body).take 4 ++ (((flat fn301.body).drop 4).take 2 ++ (((flat fn301.body).drop 6).take 1 ++ (flat fn301.body).drop 7))) (newFr fn301 [.str s]) (mkH 12 []) fun e fr H => (e = .normal ∨ e = .ret) ∧ fr.df = [] ∧ ∃ l, resA ENu fr.t H fn301.results = some l ∧ weak2 (resV l) = numA (numR s) := fun hx e => by
    refine TriL.leafXC hE hI (nuk_ok true) e (by decide) rfl rfl rows0 (.inl ⟨rfl, ?_⟩)
    unfold numR
    rw [hx]
    exact nuD_fin hE hI hD (Nat.zero_le _) hs
  by_cases h2 : s.length < 2
  · rw [show Nat.blt (lenU s) 2 = true from blt_t h2] at et
    refine dec ?_ et
    unfold hexm
    rw [ble_f (by omega)]; rfl
  · rw [show Nat.blt (lenU s) 2 = false from blt_f h2, show Nat.ble 2 (lenU s) = true from ble_t (show 2 ≤ s.length by omega), List.drop_zero] at et
    cases hp : leq (s.take 2) [48, 120] with
    | false =>
      rw [hp] at et
      refine dec ?_ et
      unfold hexm
      rw [hp, Bool.false_and, Bool.and_false]
    | true =>
      have e1 : runT (.fn 338 [] []) (s.drop 2) = true := by
        show (true && Nat.blt (s.drop 2).length 4294967296) = true
        rw [List.length_drop, blt_t (by omega)]; rfl
      rw [hp, e1] at et
      have ev : runV (.fn 338 [] []) (s.drop 2) = runL hexP (s.drop 2) := rfl
      rw [ev] at et
      cases hr : Nat.blt 0 (runL hexP (s.drop 2)) with
      | false =>
        rw [hr] at et
        refine dec ?_ et
        unfold hexm
        rw [hp, hr, ble_t (by omega)]; rfl
      | true =>
        rw [hr] at et
        refine TriL.leafXC hE hI (nuk_ok true) et (by decide) rfl rfl rows0 (.inl ⟨rfl, ?_⟩)
        unfold numR
        rw [show hexm s = true by unfold hexm; rw [hp, hr, ble_t (show 2 ≤ s.length by omega)]; rfl]
        exact nuH_fin hE hI (by rw [Nat.blt_eq] at hr; exact hr) (by omega) hs
end
def numFv : Nat → List AV → Option AV := fun g args => match args with
  | [.str s] => bif Nat.beq g 301 && (Nat.ble 1 (lenU s) && (digP (byteAt s 0) && Nat.blt (lenU s) 4294967296)) then some (numA (numR s)) else none
  | _ => none
theorem num_ok : SmOk Tryz.prog gl (plainSm numFv) := tri_plain fun g args v h => by
  unfold numFv at h
  split at h
  case h_2 => cases h
  rename_i s
  rw [Bool.cond_eq_ite] at h
  split at h
  case isFalse => cases h
  rename_i hb
  simp only [Bool.and_eq_true, Nat.beq_eq, Nat.blt_eq, Nat.ble_eq] at hb
  obtain ⟨rfl, h1, hd, hs⟩ := hb
  simp only [Option.some.injEq] at h
  subst h
  exact ⟨ENu, fn301, enu_ok, gl_ok, fn301_eq, plain_list rfl, plain_free rfl, fun w hw => nu_tri (enu_ok w hw) (kept_carried hw) h1 hd hs⟩
end
end Go.Proofs.YthlcgkebfodnmaaGreatDoor
