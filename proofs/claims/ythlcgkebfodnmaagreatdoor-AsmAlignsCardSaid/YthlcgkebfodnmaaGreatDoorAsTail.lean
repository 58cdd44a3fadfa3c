/- AsmAligns: the law's pieces joined: it answers true. -/
import Derived.Test.YthlcgkebfodnmaaGreatDoorAsRunE
namespace Go.Proofs.YthlcgkebfodnmaaGreatDoor
open Go Go.Vai
noncomputable section
set_option maxRecDepth 100000
def alO (V al m kk y1 y2 y3 z3 : Nat) (y0 z0 z1 : List UInt8) (T TN : Tr AV) : List AObj := [.cells 6 (Tr.nil.putAll 0 [.str y0, .int .i64 (.ofNat y1), .int .i64 (.ofNat y2), .int .i64 (.ofNat y3), .int .u64 (.ofNat V)]) 38 none 0 false false, .cells 6 (Tr.nil.putAll 0 [.str z0, .str z1, .int .i64 (.ofNat al), .int .i64 (.ofNat z3), .sl 14 0 m none]) 44 none 0 false false, .cells m T 5 (some 1) 0 false false, .cells kk TN 5 none 0 false false]
def alS : List Nat := [1, 3, 9, 14, 16, 17, 18]
def alV (n v kk i : Nat) (d : Bool) : List AV := [.int .i64 (.ofNat n), .bool d, .int .i64 (.ofNat v), .ptr 12 0, .ptr 13 0, .sl 15 0 kk (some kk), .int .i64 (.ofNat i)]
def k16 : List Nat := [0, 1, 2, 3, 4, 5, 6, 7, 8, 9, 10, 11, 12, 13, 14, 15]
theorem ok16 : keepOk 12 k16 = true := by decide
theorem ok12 : keepOk 12 [0, 1, 2, 3, 4, 5, 6, 7, 8, 9, 10, 11] = true := by decide
theorem as_flat : flat fn3.body = (flat fn3.body).take 9 ++ ((((flat fn3.body).take 20).drop 9) ++ (.block 0 (.loop (codeAt [20, 0] fn3.body)) :: (((flat fn3.body).take 99).drop 21))) := by kernel_rfl
theorem as_res : fn3.results = [.tmp 8] := by kernel_rfl
theorem alBt_eq (ET : Nat) (EX : Bool) (EN EV EP : Nat) (n v V al m kk i : Nat) (y1 y2 y3 z3 : Nat) (y0 z0 z1 : List UInt8) (T TN : Tr AV) : codesKK (EA ET EX EN EV EP) (callKK (EA ET EX EN EV EP) 3) (flat (codeAt [20, 0] fn3.body)) (leafK 12 [1, 3, 9, 14, 16, 17, 18] [0, 1, 2, 3, 4, 5, 6, 7, 8, 9, 10, 11, 12, 13, 14, 15]) (mkFr 175 [1, 3, 9, 14, 16, 17, 18] (alV n v kk i true)) (mkH 12 (alO V al m kk y1 y2 y3 z3 y0 z0 z1 T TN)) = bc (ilt (.ofNat i) (wrapR .i64 (.ofNat V))) (bc (Nat.beq kk 0) (none) (bc (Nat.blt i m) (bc (isI .u8 (Tr.get T (at1 i))) (bc (!(ieq (asI (Tr.get T (at1 i))) (.ofNat 0))) (lf .ret 175 ((alV n v kk i true).map some) ((alO V al m kk y1 y2 y3 z3 y0 z0 z1 T TN).map some)) (lf .normal 175 ([.int .i64 (.ofNat n), .bool true, .int .i64 (.ofNat v), .ptr 12 0, .ptr 13 0, .sl 15 0 kk (some kk), .int .i64 (up i)].map some) ((alO V al m kk y1 y2 y3 z3 y0 z0 z1 T TN).map some))) (none)) (none))) (lf (.exit 0) 175 ((alV n v kk i true).map some) ((alO V al m kk y1 y2 y3 z3 y0 z0 z1 T TN).map some)) := by kernel_rfl
theorem alBf_eq (ET : Nat) (EX : Bool) (EN EV EP : Nat) (n v V al m kk i : Nat) (y1 y2 y3 z3 : Nat) (y0 z0 z1 : List UInt8) (T TN : Tr AV) : codesKK (EA ET EX EN EV EP) (callKK (EA ET EX EN EV EP) 3) (flat (codeAt [20, 0] fn3.body)) (leafK 12 [1, 3, 9, 14, 16, 17, 18] [0, 1, 2, 3, 4, 5, 6, 7, 8, 9, 10, 11, 12, 13, 14, 15]) (mkFr 175 [1, 3, 9, 14, 16, 17, 18] (alV n v kk i false)) (mkH 12 (alO V al m kk y1 y2 y3 z3 y0 z0 z1 T TN)) = bc (ilt (.ofNat i) (wrapR .i64 (.ofNat V))) (bc (Nat.beq kk 0) (none) (bc (!(ilt (wrapR .i64 (Int.mul (wrapR .i64 (Int.tdiv (.ofNat i) (.ofNat kk))) (.ofNat kk))) (.ofNat n))) (bc (!(ilt (wrapR .i64 (.ofNat V)) (wrapR .i64 (Int.add (wrapR .i64 (Int.mul (wrapR .i64 (Int.tdiv (.ofNat i) (.ofNat kk))) (.ofNat kk))) (.ofNat kk))))) (bc (Nat.beq kk 0) (none) (bc (ilt (Int.tmod (.ofNat i) (.ofNat kk)) (.ofNat 0)) (none) (bc (Nat.blt (Int.toNat (Int.tmod (.ofNat i) (.ofNat kk))) kk) (bc (isI .u8 (Tr.get TN (at1 (Int.toNat (Int.tmod (.ofNat i) (.ofNat kk)))))) (bc (Nat.blt i m) (bc (isI .u8 (Tr.get T (at1 i))) (bc (!(ieq (asI (Tr.get T (at1 i))) (asI (Tr.get TN (at1 (Int.toNat (Int.tmod (.ofNat i) (.ofNat kk)))))))) (lf .ret 175 ((alV n v kk i false).map some) ((alO V al m kk y1 y2 y3 z3 y0 z0 z1 T TN).map some)) (lf .normal 175 ([.int .i64 (.ofNat n), .bool false, .int .i64 (.ofNat v), .ptr 12 0, .ptr 13 0, .sl 15 0 kk (some kk), .int .i64 (up i)].map some) ((alO V al m kk y1 y2 y3 z3 y0 z0 z1 T TN).map some))) (none)) (none)) (none)) (none)))) (bc (Nat.blt i m) (bc (isI .u8 (Tr.get T (at1 i))) (bc (!(ieq (asI (Tr.get T (at1 i))) (.ofNat 0))) (lf .ret 175 ((alV n v kk i false).map some) ((alO V al m kk y1 y2 y3 z3 y0 z0 z1 T TN).map some)) (lf .normal 175 ([.int .i64 (.ofNat n), .bool false, .int .i64 (.ofNat v), .ptr 12 0, .ptr 13 0, .sl 15 0 kk (some kk), .int .i64 (up i)].map some) ((alO V al m kk y1 y2 y3 z3 y0 z0 z1 T TN).map some))) (none)) (none))) (bc (Nat.blt i m) (bc (isI .u8 (Tr.get T (at1 i))) (bc (!(ieq (asI (Tr.get T (at1 i))) (.ofNat 0))) (lf .ret 175 ((alV n v kk i false).map some) ((alO V al m kk y1 y2 y3 z3 y0 z0 z1 T TN).map some)) (lf .normal 175 ([.int .i64 (.ofNat n), .bool false, .int .i64 (.ofNat v), .ptr 12 0, .ptr 13 0, .sl 15 0 kk (some kk), .int .i64 (up i)].map some) ((alO V al m kk y1 y2 y3 z3 y0 z0 z1 T TN).map some))) (none)) (none)))) (lf (.exit 0) 175 ((alV n v kk i false).map some) ((alO V al m kk y1 y2 y3 z3 y0 z0 z1 T TN).map some)) := by kernel_rfl
theorem alZ_eq (ET : Nat) (EX : Bool) (EN EV EP : Nat) (n v V al m kk i : Nat) (y1 y2 y3 z3 : Nat) (y0 z0 z1 : List UInt8) (T TN : Tr AV) (d : Bool) : codesKK (EA ET EX EN EV EP) (callKK (EA ET EX EN EV EP) 3) (((flat fn3.body).take 99).drop 21) (leafK 12 [8] [0, 1, 2, 3, 4, 5, 6, 7, 8, 9, 10, 11]) (mkFr 175 [1, 3, 9, 14, 16, 17, 18] (alV n v kk i d)) (mkH 12 (alO V al m kk y1 y2 y3 z3 y0 z0 z1 T TN)) = bc (!(Nat.blt al v)) (bc (Nat.blt V m) (bc (isI .u8 (Tr.get T (at1 V))) (lf .ret 175 ([.bool (ieq (asI (Tr.get T (at1 V))) (.ofNat 7))].map some) ([].map some)) (none)) (none)) (lf .ret 175 ([.bool false].map some) ([].map some)) := by kernel_rfl
theorem asAt_eq (ET : Nat) (EX : Bool) (EN EV EP : Nat) (a b c : Int) : codesKK (EA ET EX EN EV EP) (callKK (EA ET EX EN EV EP) 3) ((flat fn3.body).take 9) (leafK 12 [0, 1, 3, 9, 10] [0, 1, 2, 3, 4, 5, 6, 7, 8, 9, 10, 11]) (newFr fn3 [.int .i64 a, .int .i64 b, .int .i64 c, .bool true]) (mkH 12 []) = bc (ilt a (.ofNat 1)) (lf .ret 175 [some (.int .i64 a), some (.int .i64 b), some (.bool true), none, none] ([].map some)) (bc (ilt (.ofNat 3) a) (lf .ret 175 [some (.int .i64 a), some (.int .i64 b), some (.bool true), none, none] ([].map some)) (bc (ilt b (.ofNat 0)) (lf .ret 175 [some (.int .i64 a), some (.int .i64 b), some (.bool true), none, none] ([].map some)) (bc (ilt (.ofNat 300) b) (lf .ret 175 [some (.int .i64 a), some (.int .i64 b), some (.bool true), none, none] ([].map some)) (bc (ilt c (.ofNat 0)) (lf .ret 175 [some (.int .i64 a), some (.int .i64 b), some (.bool true), none, none] ([].map some)) (bc (ilt (.ofNat 9) c) (lf .ret 175 [some (.int .i64 a), some (.int .i64 b), some (.bool true), none, none] ([].map some)) (bc (ilt (wrapR .u64 c) (.ofNat 0)) (none) (lf .normal 175 ([.int .i64 a, .int .i64 b, .bool true, .int .i64 (wrapR .i64 (shlI (.ofNat 1) (Nat.min (Int.toNat (wrapR .u64 c)) 64))), .str [46, 100, 97, 116, 97, 10]].map some) ([].map some)))))))) := by kernel_rfl
theorem asAf_eq (ET : Nat) (EX : Bool) (EN EV EP : Nat) (a b c : Int) : codesKK (EA ET EX EN EV EP) (callKK (EA ET EX EN EV EP) 3) ((flat fn3.body).take 9) (leafK 12 [0, 1, 3, 9, 10] [0, 1, 2, 3, 4, 5, 6, 7, 8, 9, 10, 11]) (newFr fn3 [.int .i64 a, .int .i64 b, .int .i64 c, .bool false]) (mkH 12 []) = bc (ilt a (.ofNat 1)) (lf .ret 175 [some (.int .i64 a), some (.int .i64 b), some (.bool false), none, none] ([].map some)) (bc (ilt (.ofNat 3) a) (lf .ret 175 [some (.int .i64 a), some (.int .i64 b), some (.bool false), none, none] ([].map some)) (bc (ilt b (.ofNat 0)) (lf .ret 175 [some (.int .i64 a), some (.int .i64 b), some (.bool false), none, none] ([].map some)) (bc (ilt (.ofNat 300) b) (lf .ret 175 [some (.int .i64 a), some (.int .i64 b), some (.bool false), none, none] ([].map some)) (bc (ilt c (.ofNat 0)) (lf .ret 175 [some (.int .i64 a), some (.int .i64 b), some (.bool false), none, none] ([].map some)) (bc (ilt (.ofNat 9) c) (lf .ret 175 [some (.int .i64 a), some (.int .i64 b), some (.bool false), none, none] ([].map some)) (bc (ilt (wrapR .u64 c) (.ofNat 0)) (none) (lf .normal 175 ([.int .i64 a, .int .i64 b, .bool false, .int .i64 (wrapR .i64 (shlI (.ofNat 1) (Nat.min (Int.toNat (wrapR .u64 c)) 64))), .str [46, 116, 101, 120, 116, 10]].map some) ([].map some)))))))) := by kernel_rfl
theorem asRt_eq (ET : Nat) (EX : Bool) (EN EV EP : Nat) (a b c : Int) : codesKK (EA ET EX EN EV EP) (callKK (EA ET EX EN EV EP) 3) ((flat fn3.body).take 9) (leafK 12 [8] [0, 1, 2, 3, 4, 5, 6, 7, 8, 9, 10, 11]) (newFr fn3 [.int .i64 a, .int .i64 b, .int .i64 c, .bool true]) (mkH 12 []) = bc (ilt a (.ofNat 1)) (lf .ret 175 ([.bool true].map some) ([].map some)) (bc (ilt (.ofNat 3) a) (lf .ret 175 ([.bool true].map some) ([].map some)) (bc (ilt b (.ofNat 0)) (lf .ret 175 ([.bool true].map some) ([].map some)) (bc (ilt (.ofNat 300) b) (lf .ret 175 ([.bool true].map some) ([].map some)) (bc (ilt c (.ofNat 0)) (lf .ret 175 ([.bool true].map some) ([].map some)) (bc (ilt (.ofNat 9) c) (lf .ret 175 ([.bool true].map some) ([].map some)) (bc (ilt (wrapR .u64 c) (.ofNat 0)) (none) (lf .normal 175 ([.bool false].map some) ([].map some)))))))) := by kernel_rfl
theorem asRf_eq (ET : Nat) (EX : Bool) (EN EV EP : Nat) (a b c : Int) : codesKK (EA ET EX EN EV EP) (callKK (EA ET EX EN EV EP) 3) ((flat fn3.body).take 9) (leafK 12 [8] [0, 1, 2, 3, 4, 5, 6, 7, 8, 9, 10, 11]) (newFr fn3 [.int .i64 a, .int .i64 b, .int .i64 c, .bool false]) (mkH 12 []) = bc (ilt a (.ofNat 1)) (lf .ret 175 ([.bool true].map some) ([].map some)) (bc (ilt (.ofNat 3) a) (lf .ret 175 ([.bool true].map some) ([].map some)) (bc (ilt b (.ofNat 0)) (lf .ret 175 ([.bool true].map some) ([].map some)) (bc (ilt (.ofNat 300) b) (lf .ret 175 ([.bool true].map some) ([].map some)) (bc (ilt c (.ofNat 0)) (lf .ret 175 ([.bool true].map some) ([].map some)) (bc (ilt (.ofNat 9) c) (lf .ret 175 ([.bool true].map some) ([].map some)) (bc (ilt (wrapR .u64 c) (.ofNat 0)) (none) (lf .normal 175 ([.bool false].map some) ([].map some)))))))) := by kernel_rfl
theorem robj_sub {K : List Nat} {n e : Nat} {g : Option Nat} {l l' : List AV} (hl : l.length < 1000) (h : ∀ (j : Nat) y, l'[j]? = some y → ∃ x, l[j]? = some x ∧ rnV 0 K x = some y) : RObj 0 K (.cells n (Tr.nil.putAll 0 l) e g 0 false false) (.cells n (Tr.nil.putAll 0 l') e g 0 false false) := ⟨_, rfl, fun i y hy => by
  rcases Tr.get_putAll _ hy with ⟨j, rfl, hj⟩ | ⟨_, hu⟩
  · obtain ⟨x, hx, hr⟩ := h j y hj
    have := (List.getElem?_eq_some_iff.1 hx).1
    refine ⟨x, ?_, hr⟩
    have e47 : (2 : Nat) ^ 47 = 140737488355328 := by decide
    rw [get_putAllB _ _ _ _ (by omega), if_pos (by omega), Nat.zero_add, Nat.sub_zero, hx]
  · simp [Tr.get_nil] at hu⟩
theorem al_rows {V al m kk y1 y2 y3 z3 : Nat} {y0 z0 z1 : List UInt8} {B NB : List UInt8} : ∀ (j : Nat) o o2, (alO V al m kk y1 y2 y3 z3 y0 z0 z1 (bT B) (bT NB))[j]? = some o → (alO V al m kk y1 y2 y3 z3 y0 z0 z1 (bT B) (bT NB))[j]? = some o2 → RObj 0 k16 o o2
  | 0, o, o2, h1, h2 => by cases h1; cases h2; exact ⟨_, rfl, fun i y hy => ⟨y, hy, putAll_plain (fun _ _ h => by simp [Tr.get_nil] at h) (plain_list rfl) i y hy 0 k16⟩⟩
  | 1, o, o2, h1, h2 => by
    cases h1; cases h2
    refine robj_sub (show 5 < 1000 by omega) fun j y hj => ?_
    match j, hj with
    | 0, hj => cases hj; exact ⟨_, rfl, rfl⟩
    | 1, hj => cases hj; exact ⟨_, rfl, rfl⟩
    | 2, hj => cases hj; exact ⟨_, rfl, rfl⟩
    | 3, hj => cases hj; exact ⟨_, rfl, rfl⟩
    | 4, hj => cases hj; exact ⟨_, rfl, rfl⟩
    | j + 5, hj => simp at hj
  | 2, o, o2, h1, h2 => by
    cases h1; cases h2
    exact ⟨_, rfl, fun i y hy => by
      rcases Tr.get_putAll _ hy with ⟨j, rfl, hj⟩ | ⟨_, hu⟩
      · rw [List.getElem?_map] at hj
        obtain ⟨c, hc, rfl⟩ := Option.map_eq_some_iff.1 hj
        exact ⟨_, hy, rfl⟩
      · simp [Tr.get_nil] at hu⟩
  | 3, o, o2, h1, h2 => by
    cases h1; cases h2
    exact ⟨_, rfl, fun i y hy => by
      rcases Tr.get_putAll _ hy with ⟨j, rfl, hj⟩ | ⟨_, hu⟩
      · rw [List.getElem?_map] at hj
        obtain ⟨c, hc, rfl⟩ := Option.map_eq_some_iff.1 hj
        exact ⟨_, hy, rfl⟩
      · simp [Tr.get_nil] at hu⟩
  | j + 4, o, o2, h1, h2 => by simp [alO] at h1
theorem byte_isI (b : UInt8) : isI .u8 (some (byteAV b)) = true := rfl
theorem byte_asI (b : UInt8) : asI (some (byteAV b)) = .ofNat b.toNat := rfl
theorem al_get {B : List UInt8} {i : Nat} {b : UInt8} (h : B[i]? = some b) (hB : B.length < 1000000) : (bT B).get (at1 i) = some (byteAV b) := by
  have e47 : (2 : Nat) ^ 47 = 140737488355328 := by decide
  rw [at1_eq]
  exact rowB_bT (by omega) i b h
theorem bool8 {ng : Nat} {K : List Nat} {fr' : AFr} {H' H2 : AHeap} (r : Ren ng K fr' H' (mkFr 175 [8] [.bool true]) H2) : fr'.t.get 8 = some (.bool true) := by
  obtain ⟨z, hz, e⟩ := r.t 8 (.bool true) rfl
  rw [hz]
  cases z <;> first | (simp only [rnV, Option.some.injEq] at e; rw [e]; done) | (simp [rnV] at e; done) | (simp only [rnV] at e; split at e <;> simp at e)
theorem mul_nat' (a b : Nat) : Int.mul (.ofNat a) (.ofNat b) = .ofNat (a * b) := rfl
section
variable {P : Program} {I : List MEnt → AHeap → World → Prop} {ro : Option Nat} {ET : Nat} {EX : Bool} {EN EV EP : Nat}
theorem al_round {x : Bool} {n v V al m kk i : Nat} {y1 y2 y3 z3 : Nat} {y0 z0 z1 : List UInt8} {B NB : List UInt8} (hk : kk = NB.length) (hk1 : 1 ≤ kk ∧ kk ≤ 4) (hV : V < 100000) (hi : i < V) (hm : V < m) (hmB : m = B.length) (hmm : m < 1000000) (hb : B[i]? = some (wantB x NB n V i)) :
    codesKK (EA ET EX EN EV EP) (callKK (EA ET EX EN EV EP) 3) (flat (codeAt [20, 0] fn3.body)) (leafK 12 alS k16) (mkFr 175 alS (alV n v kk i (!x))) (mkH 12 (alO V al m kk y1 y2 y3 z3 y0 z0 z1 (bT B) (bT NB))) = lf .normal 175 ((alV n v kk (i + 1) (!x)).map some) ((alO V al m kk y1 y2 y3 z3 y0 z0 z1 (bT B) (bT NB)).map some) := by
  have g := al_get hb (by omega)
  have c1 : ilt (.ofNat i) (wrapR .i64 (.ofNat V)) = true := by rw [wrap_i64 (by omega), ilt_nat]; exact blt_t hi
  have c2 : Nat.beq kk 0 = false := beq_f (by omega)
  have c3 : Nat.blt i m = true := blt_t (by omega)
  have u1 : up i = .ofNat (i + 1) := up_eq (by have : (2 : Nat) ^ 61 = 2305843009213693952 := by decide
                                               omega)
  have fin : ∀ {w : Int} {y z : Option Leaf}, wantB x NB n V i = UInt8.ofNat w.toNat → w = .ofNat (wantB x NB n V i).toNat → bc (!(ieq (asI (Tr.get (bT B) (at1 i))) w)) y z = z := fun {w y z} _ h2 => by
    rw [g, byte_asI, ← h2, ieq_self]; rfl
  cases x with
  | false =>
    refine (alBt_eq ET EX EN EV EP n v V al m kk i y1 y2 y3 z3 y0 z0 z1 (bT B) (bT NB)).trans ((bcT c1).trans ((bcF c2).trans ((bcT c3).trans ((bcT (by rw [g]; rfl)).trans ?_))))
    have hw : wantB false NB n V i = 0 := by unfold wantB; rw [if_neg (fun h => by cases h.1)]
    rw [hw] at g
    rw [g, byte_asI]
    refine (bcF rfl).trans ?_
    rw [u1]
    rfl
  | true =>
    have hq : i / kk * kk ≤ i := Nat.div_mul_le_self i kk
    have f1 : wrapR .i64 (Int.mul (wrapR .i64 (Int.tdiv (.ofNat i) (.ofNat kk))) (.ofNat kk)) = .ofNat (i / kk * kk) := by
      have : i / kk ≤ i := Nat.div_le_self i kk
      rw [tdiv_nat, wrap_i64 (by omega), mul_nat', wrap_i64 (by omega)]
    have f2 : wrapR .i64 (Int.add (.ofNat (i / kk * kk)) (.ofNat kk)) = .ofNat (i / kk * kk + kk) := by rw [add_nat, wrap_i64 (by omega)]
    have fV : wrapR .i64 (.ofNat V) = .ofNat V := wrap_i64 (by omega)
    refine (alBf_eq ET EX EN EV EP n v V al m kk i y1 y2 y3 z3 y0 z0 z1 (bT B) (bT NB)).trans ((bcT c1).trans ((bcF c2).trans ?_))
    rw [f1, f2, fV, ilt_nat, ilt_nat]
    have zero : wantB true NB n V i = 0 → bc (Nat.blt i m) (bc (isI .u8 (Tr.get (bT B) (at1 i))) (bc (!(ieq (asI (Tr.get (bT B) (at1 i))) (.ofNat 0))) (lf .ret 175 ((alV n v kk i false).map some) ((alO V al m kk y1 y2 y3 z3 y0 z0 z1 (bT B) (bT NB)).map some)) (lf .normal 175 ([.int .i64 (.ofNat n), .bool false, .int .i64 (.ofNat v), .ptr 12 0, .ptr 13 0, .sl 15 0 kk (some kk), .int .i64 (Go.Vai.up i)].map some) ((alO V al m kk y1 y2 y3 z3 y0 z0 z1 (bT B) (bT NB)).map some))) none) none = lf .normal 175 ((alV n v kk (i + 1) (!true)).map some) ((alO V al m kk y1 y2 y3 z3 y0 z0 z1 (bT B) (bT NB)).map some) := fun hw => by
      refine (bcT c3).trans ((bcT (by rw [g]; rfl)).trans ?_)
      rw [hw] at g
      rw [g, byte_asI]
      refine (bcF rfl).trans ?_
      rw [u1]
      rfl
    by_cases h1 : n ≤ i / kk * kk
    · refine (bcT (by rw [blt_f (by omega)]; rfl)).trans ?_
      by_cases h2 : i / kk * kk + kk ≤ V
      · refine (bcT (by rw [blt_f (by omega)]; rfl)).trans ((bcF c2).trans ?_)
        have hr : i % kk < kk := Nat.mod_lt _ hk1.1
        have hw : wantB true NB n V i = NB.getD (i % kk) 0 := by
          unfold wantB
          rw [← hk, if_pos ⟨rfl, h1, h2⟩]
        have hN : NB[i % kk]? = some (NB.getD (i % kk) 0) := by
          rw [List.getElem?_eq_getElem (by omega)]
          simp [List.getD, List.getElem?_eq_getElem (show i % kk < NB.length by omega)]
        have gN := al_get hN (by omega)
        rw [tmod_nat, ilt_nat]
        refine (bcF (blt_f (by omega))).trans ((bcT (blt_t (show (Int.ofNat (i % kk)).toNat < kk from hr))).trans ?_)
        show bc (isI .u8 (Tr.get (bT NB) (at1 (i % kk)))) _ _ = _
        refine (bcT (by rw [gN]; rfl)).trans ((bcT c3).trans ((bcT (by rw [g]; rfl)).trans ?_))
        have e1 : asI (Tr.get (bT NB) (at1 (Int.toNat (Int.ofNat (i % kk))))) = .ofNat (NB.getD (i % kk) 0).toNat := by
          show asI (Tr.get (bT NB) (at1 (i % kk))) = _
          rw [gN]; rfl
        rw [e1, g, byte_asI, hw, ieq_self]
        refine (bcF rfl).trans ?_
        rw [u1]
        rfl
      · refine (bcF (by rw [blt_t (by omega)]; rfl)).trans ?_
        refine zero ?_
        unfold wantB
        rw [← hk, if_neg (fun h => h2 h.2.2)]
    · refine (bcF (by rw [blt_t (by omega)]; rfl)).trans ?_
      refine zero ?_
      unfold wantB
      rw [← hk, if_neg (fun h => h1 h.2.1)]
theorem al_stop {d : Bool} {n v V al m kk : Nat} {y1 y2 y3 z3 : Nat} {y0 z0 z1 : List UInt8} {T TN : Tr AV} (hV : V < 100000) :
    codesKK (EA ET EX EN EV EP) (callKK (EA ET EX EN EV EP) 3) (flat (codeAt [20, 0] fn3.body)) (leafK 12 alS k16) (mkFr 175 alS (alV n v kk V d)) (mkH 12 (alO V al m kk y1 y2 y3 z3 y0 z0 z1 T TN)) = lf (.exit 0) 175 ((alV n v kk V d).map some) ((alO V al m kk y1 y2 y3 z3 y0 z0 z1 T TN).map some) := by
  have c1 : ilt (.ofNat V) (wrapR .i64 (.ofNat V)) = false := by rw [wrap_i64 (by omega), ilt_nat]; exact blt_f (Nat.lt_irrefl V)
  cases d with
  | true => exact (alBt_eq ET EX EN EV EP n v V al m kk V y1 y2 y3 z3 y0 z0 z1 T TN).trans (bcF c1)
  | false => exact (alBf_eq ET EX EN EV EP n v V al m kk V y1 y2 y3 z3 y0 z0 z1 T TN).trans (bcF c1)
theorem al_tail (hE : EnvOk (EA ET EX EN EV EP) P I) (hI : Carried I) {x : Bool} {n v V al m kk : Nat} {y1 y2 y3 z3 : Nat} {y0 z0 z1 : List UInt8} {B NB : List UInt8} (hk : kk = NB.length) (hk1 : 1 ≤ kk ∧ kk ≤ 4) (hV : V < 100000) (hn : n ≤ V) (hm : V < m) (hmB : m = B.length) (hmm : m < 1000000) (hb : ∀ i, n ≤ i → i < V → B[i]? = some (wantB x NB n V i)) (h7 : B[V]? = some 7) (hal : v ≤ al) :
    TriL (EA ET EX EN EV EP) P I ro (.block 0 (.loop (codeAt [20, 0] fn3.body)) :: (((flat fn3.body).take 99).drop 21)) (mkFr 175 alS (alV n v kk n (!x))) (mkH 12 (alO V al m kk y1 y2 y3 z3 y0 z0 z1 (bT B) (bT NB))) fun e fr _ => (e = .normal ∨ e = .ret) ∧ fr.df = [] ∧ fr.t.get 8 = some (.bool true) := by
  refine Tri.mono (Tri.block (Q := fun e fr H => e = .normal ∧ Ren 12 k16 fr H (mkFr 175 alS (alV n v kk V (!x))) (mkH 12 (alO V al m kk y1 y2 y3 z3 y0 z0 z1 (bT B) (bT NB)))) (Tri.loop (X := Nat) (fr := fun i => mkFr 175 alS (alV n v kk i (!x))) (H := fun _ => mkH 12 (alO V al m kk y1 y2 y3 z3 y0 z0 z1 (bT B) (bT NB))) (Inv := fun i => n ≤ i ∧ i ≤ V) (fun i => V - i) hI ?_ n ⟨Nat.le_refl _, hn⟩)) ?_
  · intro i hi
    refine tri_of_triL _ ?_
    by_cases h : i < V
    · exact TriL.leafE hE (al_round hk hk1 hV h hm hmB hmm (hb i hi.1 h)) ok16 rfl rfl al_rows fun fr' H' r => .inl ⟨rfl, i + 1, _, ⟨by omega, by omega⟩, by omega, r⟩
    · obtain rfl : i = V := by omega
      exact TriL.leafE hE (al_stop hV) ok16 rfl rfl al_rows fun fr' H' r => .inr ⟨(by intro h; cases h), rfl, r⟩
  · rintro e fr H ⟨rfl, r⟩
    refine .inl ⟨rfl, TriL.ren hI r ?_⟩
    have g := al_get h7 (by omega)
    have e : codesKK (EA ET EX EN EV EP) (callKK (EA ET EX EN EV EP) 3) (((flat fn3.body).take 99).drop 21) (leafK 12 [8] [0, 1, 2, 3, 4, 5, 6, 7, 8, 9, 10, 11]) (mkFr 175 alS (alV n v kk V (!x))) (mkH 12 (alO V al m kk y1 y2 y3 z3 y0 z0 z1 (bT B) (bT NB))) = lf .ret 175 ([.bool true].map some) ([].map some) := by
      refine (alZ_eq ET EX EN EV EP n v V al m kk V y1 y2 y3 z3 y0 z0 z1 (bT B) (bT NB) (!x)).trans ((bcT (by rw [blt_f (by omega)]; rfl)).trans ((bcT (blt_t hm)).trans ((bcT (by rw [g]; rfl)).trans ?_)))
      rw [g, byte_asI]
      rfl
    exact TriL.leafE hE (os2 := []) e ok12 rfl rfl rows0 fun fr' H' r => ⟨.inr rfl, r.df.1, bool8 r⟩
theorem as_tri (hE : EnvOk (EA ET EX EN EV EP) P I) (hI : Carried I) {x : Bool} {t n kk v : Nat} {al y1 y2 y3 z3 m : Nat} {y0 z0 z1 : List UInt8} {B : List UInt8} {K : List Nat} {os : List AObj} {o : Orc} {sk : Smk Leaf} (hsk : SmkOk (EA ET EX EN EV EP) sk) (ht : 0 < t ∧ t < 4) (hn : n ≤ 300) (hkk : kk ≤ 9) (hv : v = 2 ^ kk) {V : Nat} (hV : V < 100000) (hnV : n ≤ V) (hm : V < m) (hmB : m = B.length) (hmm : m < 1000000) (hb : ∀ i, n ≤ i → i < V → B[i]? = some (wantB x (nopL t) n V i)) (h7 : B[V]? = some 7) (hal : v ≤ al)
    (hmid : codesP (EA ET EX EN EV EP) (callPS (EA ET EX EN EV EP) sk noPin 400) (((flat fn3.body).take 20).drop 9) (leafKP 12 alS K) (mkFr 175 [0, 1, 3, 9, 10] [.int .i64 (.ofNat t), .int .i64 (.ofNat n), .bool (!x), .int .i64 (.ofNat v), .str (bif x then [46, 116, 101, 120, 116, 10] else [46, 100, 97, 116, 97, 10])]) (mkH 12 []) o = lf .normal 175 ((alV n v (nopL t).length n (!x)).map some) (os.map some))
    (hK : keepOk 12 K = true) (hl : os.length = 4) (hKl : K.length = 12 + 4) (hrows : ∀ (j : Nat) u u2, os[j]? = some u → (alO V al m (nopL t).length y1 y2 y3 z3 y0 z0 z1 (bT B) (bT (nopL t)))[j]? = some u2 → RObj 0 K u u2) :
    Tri (EA ET EX EN EV EP) P I ro fn3.body (newFr fn3 [.int .i64 (.ofNat t), .int .i64 (.ofNat n), .int .i64 (.ofNat kk), .bool (!x)]) (mkH 12 []) fun e fr _ => (e = .normal ∨ e = .ret) ∧ fr.df = [] ∧ fr.t.get 8 = some (.bool true) := by
  refine tri_of_triL _ ?_
  rw [as_flat]
  have sh : wrapR .i64 (shlI (.ofNat 1) (Nat.min (Int.toNat (wrapR .u64 (.ofNat kk))) 64)) = .ofNat v := by
    have : kk = 0 ∨ kk = 1 ∨ kk = 2 ∨ kk = 3 ∨ kk = 4 ∨ kk = 5 ∨ kk = 6 ∨ kk = 7 ∨ kk = 8 ∨ kk = 9 := by omega
    rw [hv]
    rcases this with rfl | rfl | rfl | rfl | rfl | rfl | rfl | rfl | rfl | rfl <;> rfl
  have g1 : ilt (.ofNat t) (.ofNat 1) = false := by rw [ilt_nat]; exact blt_f (by omega)
  have g2 : ilt (.ofNat 3) (.ofNat t) = false := by rw [ilt_nat]; exact blt_f (by omega)
  have g3 : ilt (.ofNat n) (.ofNat 0) = false := by rw [ilt_nat]; exact blt_f (by omega)
  have g4 : ilt (.ofNat 300) (.ofNat n) = false := by rw [ilt_nat]; exact blt_f (by omega)
  have g5 : ilt (.ofNat kk) (.ofNat 0) = false := by rw [ilt_nat]; exact blt_f (by omega)
  have g6 : ilt (.ofNat 9) (.ofNat kk) = false := by rw [ilt_nat]; exact blt_f (by omega)
  have g7 : ilt (wrapR .u64 (.ofNat kk)) (.ofNat 0) = false := by rw [wrap_u64 (by omega), ilt_nat]; exact blt_f (by omega)
  have head : codesKK (EA ET EX EN EV EP) (callKK (EA ET EX EN EV EP) 3) ((flat fn3.body).take 9) (leafK 12 [0, 1, 3, 9, 10] [0, 1, 2, 3, 4, 5, 6, 7, 8, 9, 10, 11]) (newFr fn3 [.int .i64 (.ofNat t), .int .i64 (.ofNat n), .int .i64 (.ofNat kk), .bool (!x)]) (mkH 12 []) = lf .normal 175 ([.int .i64 (.ofNat t), .int .i64 (.ofNat n), .bool (!x), .int .i64 (.ofNat v), .str (bif x then [46, 116, 101, 120, 116, 10] else [46, 100, 97, 116, 97, 10])].map some) ([].map some) := by
    cases x with
    | true =>
      refine (asAf_eq ET EX EN EV EP (.ofNat t) (.ofNat n) (.ofNat kk)).trans ((bcF g1).trans ((bcF g2).trans ((bcF g3).trans ((bcF g4).trans ((bcF g5).trans ((bcF g6).trans ((bcF g7).trans ?_)))))))
      rw [sh]; rfl
    | false =>
      refine (asAt_eq ET EX EN EV EP (.ofNat t) (.ofNat n) (.ofNat kk)).trans ((bcF g1).trans ((bcF g2).trans ((bcF g3).trans ((bcF g4).trans ((bcF g5).trans ((bcF g6).trans ((bcF g7).trans ?_)))))))
      rw [sh]; rfl
  refine TriL.leafX hE hI (os2 := []) head ok12 rfl rfl rows0 (.inl ⟨rfl, ?_⟩)
  refine TriL.leafKPX hE hI (callPS_ok (EA ET EX EN EV EP) hsk noPin 400) hmid hK (by rw [hl]; rfl) (by rw [hl]; exact hKl) hrows (.inl ⟨rfl, ?_⟩)
  exact al_tail hE hI rfl ⟨by have := nop_len t; omega, by have := nop_len t; omega⟩ hV hnV hm hmB hmm hb h7 hal
theorem as_out (hE : EnvOk (EA ET EX EN EV EP) P I) (hI : Carried I) {a b c : Int} {d : Bool} (h : a < 1 ∨ 3 < a ∨ b < 0 ∨ 300 < b ∨ c < 0 ∨ 9 < c) : Tri (EA ET EX EN EV EP) P I ro fn3.body (newFr fn3 [.int .i64 a, .int .i64 b, .int .i64 c, .bool d]) (mkH 12 []) fun e fr _ => (e = .normal ∨ e = .ret) ∧ fr.df = [] ∧ fr.t.get 8 = some (.bool true) := by
  refine tri_of_triL _ ?_
  rw [as_flat]
  have out : codesKK (EA ET EX EN EV EP) (callKK (EA ET EX EN EV EP) 3) ((flat fn3.body).take 9) (leafK 12 [8] [0, 1, 2, 3, 4, 5, 6, 7, 8, 9, 10, 11]) (newFr fn3 [.int .i64 a, .int .i64 b, .int .i64 c, .bool d]) (mkH 12 []) = lf .ret 175 ([.bool true].map some) ([].map some) := by
    have e : codesKK (EA ET EX EN EV EP) (callKK (EA ET EX EN EV EP) 3) ((flat fn3.body).take 9) (leafK 12 [8] [0, 1, 2, 3, 4, 5, 6, 7, 8, 9, 10, 11]) (newFr fn3 [.int .i64 a, .int .i64 b, .int .i64 c, .bool d]) (mkH 12 []) = bc (ilt a (.ofNat 1)) (lf .ret 175 ([.bool true].map some) ([].map some)) (bc (ilt (.ofNat 3) a) (lf .ret 175 ([.bool true].map some) ([].map some)) (bc (ilt b (.ofNat 0)) (lf .ret 175 ([.bool true].map some) ([].map some)) (bc (ilt (.ofNat 300) b) (lf .ret 175 ([.bool true].map some) ([].map some)) (bc (ilt c (.ofNat 0)) (lf .ret 175 ([.bool true].map some) ([].map some)) (bc (ilt (.ofNat 9) c) (lf .ret 175 ([.bool true].map some) ([].map some)) (bc (ilt (wrapR .u64 c) (.ofNat 0)) (none) (lf .normal 175 ([.bool false].map some) ([].map some)))))))) := by
      cases d with
      | true => exact asRt_eq ET EX EN EV EP a b c
      | false => exact asRf_eq ET EX EN EV EP a b c
    rw [e]
    have il : ∀ p q : Int, ilt p q = decide (p < q) := ilt_iff
    simp only [il]
    by_cases h1 : a < 1
    · exact bcT (decide_eq_true h1)
    refine (bcF (decide_eq_false h1)).trans ?_
    by_cases h2 : 3 < a
    · exact bcT (decide_eq_true h2)
    refine (bcF (decide_eq_false h2)).trans ?_
    by_cases h3 : b < 0
    · exact bcT (decide_eq_true h3)
    refine (bcF (decide_eq_false h3)).trans ?_
    by_cases h4 : 300 < b
    · exact bcT (decide_eq_true h4)
    refine (bcF (decide_eq_false h4)).trans ?_
    by_cases h5 : c < 0
    · exact bcT (decide_eq_true h5)
    refine (bcF (decide_eq_false h5)).trans ?_
    by_cases h6 : 9 < c
    · exact bcT (decide_eq_true h6)
    omega
  exact TriL.leafXC (os2 := []) hE hI (callKK_ok _ 3) out ok12 rfl rfl rows0 (.inr ⟨(by intro h; cases h), fun fr' H' r => ⟨.inr rfl, r.df.1, bool8 r⟩⟩)
end
end
end Go.Proofs.YthlcgkebfodnmaaGreatDoor
