/- AsmAligns: the environment of the law's runs, what a run asks, that it holds. -/
import Derived.Test.YthlcgkebfodnmaaGreatDoorAsBegun
namespace Go.Proofs.YthlcgkebfodnmaaGreatDoor
open Go Go.Vai
noncomputable section
set_option maxRecDepth 100000
def pnO (nm : List UInt8) : AObj := .cells 6 ((Tr.nil.putAll 0 [.str nm, .str [97, 120]]).set 3 .nils) 0 none 0 true false
def m0O : AObj := .cells 11 .nil 0 none 0 true false
def TRes.isN : Option TRes → Bool
  | some (.call (.ret .nils _)) => true
  | _ => false
theorem nil_run (nm : List UInt8) : TRes.isN (run EEn 40 (.call 37 [.ptr 12 0, .ptr 13 0] (mkH 12 [m0O, pnO nm]))) = true := by kernel_rfl
theorem nil_fn : (EEn.fn 37).isSome = true := by kernel_rfl
def byNilSm : Sm := fun f args H => match args with
  | [.ptr i 0, .ptr q 0] => bif Nat.beq f 37 then (match H.get i, H.get q with
    | some (.cells 11 _ _ _ _ _ _), some (.cells 6 T2 _ _ _ _ _) => (match T2.get 0, T2.get 1, T2.get 3 with
      | some (.str _), some (.str fl), some .nils => bif leq fl [97, 120] then some (.nils, H) else none
      | _, _, _ => none)
    | _, _ => none) else none
  | _ => none
theorem byNil_ok : SmOk Tryz.prog gl byNilSm := by
  intro f args H v H' M w cargs hs hw hr ha
  unfold byNilSm at hs
  split at hs
  case h_2 => cases hs
  rename_i i j
  rw [Bool.cond_eq_ite] at hs
  split at hs
  case isFalse => cases hs
  rename_i hb
  rw [Nat.beq_eq] at hb
  subst hb
  split at hs
  case h_2 => cases hs
  rename_i T1 _ _ _ _ _ T2 _ _ _ _ _ hg1 hg2
  split at hs
  case h_2 => cases hs
  rename_i nm fl h1 h2 h3
  rw [Bool.cond_eq_ite] at hs
  split at hs
  case isFalse => cases hs
  rename_i hl
  rw [leq_iff, decide_eq_true_eq] at hl
  subst hl
  simp only [Option.some.injEq, Prod.mk.injEq] at hs
  obtain ⟨rfl, rfl⟩ := hs
  obtain ⟨m1, hm1, o1⟩ := hr.obj i _ hg1
  obtain ⟨m2, hm2, o2⟩ := hr.obj j _ hg2
  have s1 : ORel [] m1 w m0O := row_sub o1 (T2 := .nil) (fun q y hy => by simp [Tr.get_nil] at hy) 0
  have s2 : ORel [] m2 w (pnO nm) := row_sub o2 (T2 := (Tr.nil.putAll 0 [AV.str nm, AV.str [97, 120]]).set 3 AV.nils) (fun q y hy => by
    rcases Tr.get_set hy with ⟨rfl, rfl⟩ | ⟨_, hy⟩
    · exact ⟨h3, fun _ _ => rfl⟩
    · rcases Tr.get_putAll _ hy with ⟨p, rfl, hp⟩ | ⟨_, hu⟩
      · match p, hp with
        | 0, hp => cases hp; exact ⟨h1, plain_str _⟩
        | 1, hp => cases hp; exact ⟨h2, plain_str _⟩
        | p + 2, hp => simp at hp
      · simp [Tr.get_nil] at hu) 0
  have hn := nil_run nm
  unfold TRes.isN at hn
  split at hn
  case h_2 => cases hn
  rename_i H1 hrun
  match cargs, ha with
  | [a0, a1], ⟨v0, v1, _⟩ =>
    have x0 : VRel (mGlob EEn.ng 0 ++ [m1, m2]) (.ptr 12 0) a0 := by
      obtain ⟨mm, hmm, e⟩ := v0
      rw [hm1] at hmm; cases hmm
      exact ⟨m1, by rw [List.getElem?_append_right (by rw [mGlob_len]; exact Nat.le_refl _), mGlob_len]; rfl, e⟩
    have x1 : VRel (mGlob EEn.ng 0 ++ [m1, m2]) (.ptr 13 0) a1 := by
      obtain ⟨mm, hmm, e⟩ := v1
      rw [hm2] at hmm; cases hmm
      exact ⟨m2, by rw [List.getElem?_append_right (by rw [mGlob_len]; exact Nat.le_succ _), mGlob_len]; rfl, e⟩
    exact view_new (ex := [m1, m2]) (os := [m0O, pnO nm]) (args := [.ptr 12 0, .ptr 13 0]) (keep := []) (new := []) een_ok nil_fn hw hr rfl (fun o ho => by
      rcases List.mem_cons.1 ho with rfl | ho
      · rfl
      · cases List.mem_singleton.1 ho; rfl) (fun q m o e1 e2 => by
      match q, e1, e2 with
      | 0, e1, e2 => cases e1; cases e2; exact s1
      | 1, e1, e2 => cases e1; cases e2; exact s2
      | q + 2, e1, e2 => simp at e1) ⟨x0, x1, trivial⟩ List.nodup_nil rfl (fun j x hx => by simp at hx) rfl hrun
def wsA (hd : List UInt8) (n v : Nat) : List (List WP) := [[(⟨1, hd, 0⟩, 0)], [(⟨1, [46, 115, 112, 97, 99, 101], 0⟩, 0), (⟨2, [], n⟩, 7)], [(⟨1, [46, 97, 108, 105, 103, 110], 0⟩, 0), (⟨2, [], v⟩, 7)], [(⟨1, [120], 0⟩, 0), (⟨4, [58], 0⟩, 1), (⟨1, [46, 98, 121, 116, 101], 0⟩, 3), (⟨2, [], 7⟩, 9)]]
def hdB (x : Bool) : List UInt8 := bif x then [46, 116, 101, 120, 116] else [46, 100, 97, 116, 97]
def EA (t : Nat) (x : Bool) (n v p : Nat) : Env := envOf Tryz.prog 12 [5, 7, 19, 76, 37, 127] (orSm (extSm kinds) (orSm (contSm 127) (orSm (retSm 5 true) (orSm (plainSm plainFv) (orSm (plainSm padFv) (orSm linesSm (orSm byNilSm (bySm t x n v p))))))))
theorem ea_ok {t : Nat} {x : Bool} {n v p : Nat} (ht : 0 < t ∧ t < 4) (hv : 0 < v) (hn : n ≤ 5000) (hp : p ≤ 5000) {I : List MEnt → AHeap → World → Prop} (hI : ∀ M H w, I M H w → JG gl M H w) (hc : Carried I) : EnvOk (EA t x n v p) Tryz.prog I :=
  envOk_j (gl := gl) (by kernel_rfl) (((smOk_ext ext_ok).j).or (cont_ok1.j.or ((smOk_ret begun_ret).j.or (plainF_ok.j.or (pad_ok.j.or (lines_ok.j.or (byNil_ok.j.or (by_ok ht hv hn hp (padB_at x t n p).1)))))))) mixed_ok hI hc.ext
def eqK1 {α : Type} (a b : AV) (k : Option α) : Option α := match a, b with
  | .int .i64 x, .int .i64 y => bc (ieq x y) k none
  | .bool x, .bool y => bif x then (bif y then k else none) else (bif y then none else k)
  | .str x, .str y => bc (leq x y) k none
  | .nils, .nils => k
  | .sl i o n none, .sl j q m none => bc (Nat.beq i j) (bc (Nat.beq o q) (bc (Nat.beq n m) k none) none) none
  | _, _ => none
def cellsQ {α : Type} : List AV → List AV → Option α → Option α
  | [], [], k => k
  | a :: xs, b :: ys, k => eqK1 a b (cellsQ xs ys k)
  | _, _, _ => none
theorem eqK1_some {α : Type} {a b : AV} {k : Option α} {r : α} (h : eqK1 a b k = some r) : a = b ∧ k = some r := by
  unfold eqK1 at h
  split at h
  · obtain ⟨e, h⟩ := bc_none h
    rw [ieq_iff, decide_eq_true_eq] at e
    rw [e]; exact ⟨rfl, h⟩
  · rename_i x y
    cases x <;> cases y <;> first | exact ⟨rfl, h⟩ | cases h
  · obtain ⟨e, h⟩ := bc_none h
    rw [leq_iff, decide_eq_true_eq] at e
    rw [e]; exact ⟨rfl, h⟩
  · exact ⟨rfl, h⟩
  · obtain ⟨e1, h⟩ := bc_none h
    obtain ⟨e2, h⟩ := bc_none h
    obtain ⟨e3, h⟩ := bc_none h
    rw [Nat.beq_eq] at e1 e2 e3
    rw [e1, e2, e3]; exact ⟨rfl, h⟩
  · cases h
theorem cellsQ_some {α : Type} : ∀ {l m : List AV} {k : Option α} {r : α}, cellsQ l m k = some r → l = m ∧ k = some r
  | [], [], _, _, h => ⟨rfl, h⟩
  | [], _ :: _, _, _, h => by cases h
  | _ :: _, [], _, _, h => by cases h
  | a :: xs, b :: ys, k, r, h => by
    obtain ⟨e1, h1⟩ := eqK1_some (k := cellsQ xs ys k) h
    obtain ⟨e2, h2⟩ := cellsQ_some (l := xs) (m := ys) h1
    exact ⟨by rw [e1, e2], h2⟩
def namB (a b c d : Nat) : Bool := (!(Nat.beq a b) && (!(Nat.beq a c) && (!(Nat.beq a d) && (!(Nat.beq b c) && (!(Nat.beq b d) && !(Nat.beq c d)))))) && (Nat.ble 12 a && (Nat.ble 12 b && (Nat.ble 12 c && Nat.ble 12 d)))
def byK {α : Type} (t : Nat) (x : Bool) (n v p : Nat) (args : List AV) (H : AHeap) (k : AV → AHeap → Option α) : Option α := match args with
  | [.ptr i 0, .ptr q 0] => (match H.get i, H.get q with
    | some (.cells 11 T1 _ _ _ _ _), some (.cells 6 T2 _ _ _ _ _) => (match T2.get 0, T2.get 1, T2.get 3 with
      | some (.str _), some (.str fl), some .nils => bc (leq fl [97, 120]) (k .nils H) none
      | some (.str _), some (.str fl), some (.sl it 0 3 none) => bc (leq fl (flO x)) (match T1.get 0, H.get it with
        | some (.int .i64 (.ofNat t')), some (.cells 33 T3 _ _ _ _ _) => bc (Nat.beq t' t) (match T3.getAll 0 33, T3.get 25 with
          | some l, some (.sl dt 0 1 none) => cellsQ l (itL n v p (.sl dt 0 1 none)) (match H.get dt with
            | some (.cells 1 T4 _ _ _ _ _) => (match T4.get 0 with
              | some (.int .u8 b) => bc (ieq b (.ofNat 7)) (bc (namB i q it dt) (k (.sl H.next 0 (n + p + 1) none) (H.new (.cells (n + p + 1) (bT (byB n (padB x (nopL t) n p))) 5 (some 1) 0 false false))) none) none
              | _ => none)
            | _ => none)
          | _, _ => none) none
        | _, _ => none) none
      | _, _, _ => none)
    | _, _ => none)
  | _ => none
def dgT (x : Int) : Bool := !(ilt x (.ofNat 0)) && ilt x (.ofNat 4294967296)
def SKa {α : Type} (t : Nat) (x : Bool) (n v p : Nat) (TX : List UInt8) : Smk α := fun f args H k => bif Nat.beq f 7 then (match args with
  | [.int .i64 a] => bc (dgT a) (k (.str (dgs a.toNat)) H) none
  | _ => none) else bif Nat.beq f 19 then (match args with
  | [.str s] => bc (leq s TX) (k (ansV H 4) (ansa (wsA (hdB x) n v) H)) none
  | _ => none) else bif Nat.beq f 76 then (match args with
  | [.int .i64 a, .int .i64 b] => bc (ieq a (.ofNat n)) (bc (ieq b (.ofNat v)) (k (.int .i64 (.ofNat p)) H) none) none
  | _ => none) else bif Nat.beq f 37 then byK t x n v p args H k else smC (EA t x n v p) f args H k
theorem pl_ne {F : Nat → List AV → Option AV} {g : Nat} {args : List AV} {H : AHeap} (h : F g args = none) : plainSm F g args H = none := by unfold plainSm; rw [h]
theorem bg_ne {g : Nat} (h : g ≠ 5) (args : List AV) (H : AHeap) : retSm 5 true g args H = none := by
  unfold retSm
  split
  · rw [beqF h]; rfl
  · rfl
theorem dg_ne {g : Nat} (h : g ≠ 7) (args : List AV) : plainFv g args = none := by
  unfold plainFv
  split
  · rw [beqF h]; rfl
  · rfl
theorem pf_ne {g : Nat} (h : g ≠ 76) (args : List AV) : padFv g args = none := by
  unfold padFv
  split
  · rw [beqF h]; rfl
  · rfl
theorem ln_ne {g : Nat} (h : g ≠ 19) (args : List AV) (H : AHeap) : linesSm g args H = none := by
  unfold linesSm
  split
  · rw [beqF h]; rfl
  · rfl
theorem ska_ok {α : Type} {t : Nat} {x : Bool} {n v p : Nat} {TX : List UInt8} (hp : p = padN n v) (hv : 0 < v ∧ v < 1000000000) (h1 : TX.length ≤ 262144) (h2 : linG TX = true) (h3 : linO TX = wsA (hdB x) n v) : SmkOk (α := α) (EA t x n v p) (SKa t x n v p TX) := by
  intro f args H k r h
  unfold SKa at h
  simp only [Bool.cond_eq_ite, Nat.beq_eq] at h
  split at h
  · rename_i e
    subst e
    split at h
    case h_2 => cases h
    rename_i a
    obtain ⟨e, h'⟩ := bc_none h
    clear h
    unfold dgT at e
    rw [Bool.and_eq_true] at e
    cases a with
    | negSucc a => exact absurd e.1 (by show ¬ (!(true) = true); decide)
    | ofNat a =>
      have e2 : Nat.blt a 4294967296 = true := e.2
      refine ⟨_, _, ?_, h'⟩
      show orSm (extSm kinds) (orSm (contSm 127) (orSm (retSm 5 true) (orSm (plainSm plainFv) (orSm (plainSm padFv) (orSm linesSm (orSm byNilSm (bySm t x n v p))))))) 7 [.int .i64 (.ofNat a)] H = _
      rw [or_ne (ext_ne (by decide) _ H), or_ne (cont_ne (by decide) _ H), or_ne (bg_ne (by decide) _ H)]
      refine or_yes ?_
      have e : plainFv 7 [.int .i64 (.ofNat a)] = some (.str (dgs a)) := by
        show (bif Nat.beq 7 7 && Nat.blt a 4294967296 then some (AV.str (dgs a)) else none) = _
        rw [e2]; rfl
      unfold plainSm
      rw [e]; rfl
  split at h
  · rename_i e
    subst e
    split at h
    case h_2 => cases h
    rename_i s
    obtain ⟨e, h'⟩ := bc_none h
    clear h
    rw [leq_iff, decide_eq_true_eq] at e
    subst e
    refine ⟨_, _, ?_, h'⟩
    show orSm (extSm kinds) (orSm (contSm 127) (orSm (retSm 5 true) (orSm (plainSm plainFv) (orSm (plainSm padFv) (orSm linesSm (orSm byNilSm (bySm t x n v p))))))) 19 [.str s] H = _
    rw [or_ne (ext_ne (by decide) _ H), or_ne (cont_ne (by decide) _ H), or_ne (bg_ne (by decide) _ H), or_ne (pl_ne (dg_ne (by decide) _)), or_ne (pl_ne (pf_ne (by decide) _))]
    refine or_yes ?_
    unfold linesSm
    simp only [Nat.beq_refl, Bool.true_and, ble_t h1, h2, cond_true]
    rw [h3]
    rfl
  split at h
  · rename_i e
    subst e
    split at h
    case h_2 => cases h
    rename_i a b
    obtain ⟨e1, q1⟩ := bc_none h
    obtain ⟨e2, q2⟩ := bc_none q1
    clear h q1
    rw [ieq_iff, decide_eq_true_eq] at e1 e2
    subst e1 e2
    refine ⟨_, _, ?_, q2⟩
    show orSm (extSm kinds) (orSm (contSm 127) (orSm (retSm 5 true) (orSm (plainSm plainFv) (orSm (plainSm padFv) (orSm linesSm (orSm byNilSm (bySm t x n v p))))))) 76 [.int .i64 (.ofNat n), .int .i64 (.ofNat v)] H = _
    rw [or_ne (ext_ne (by decide) _ H), or_ne (cont_ne (by decide) _ H), or_ne (bg_ne (by decide) _ H), or_ne (pl_ne (dg_ne (by decide) _))]
    refine or_yes ?_
    have e : padFv 76 [.int .i64 (.ofNat n), .int .i64 (.ofNat v)] = some (.int .i64 (.ofNat (padN n v))) := by
      show (bif Nat.beq 76 76 && (Nat.blt 0 v && Nat.blt v 1000000000) then _ else none) = _
      rw [blt_t hv.1, blt_t hv.2]; rfl
    unfold plainSm
    rw [e, hp]
  split at h
  · rename_i e
    subst e
    have base : ∀ (args : List AV), (EA t x n v p).sm 37 args H = orSm byNilSm (bySm t x n v p) 37 args H := fun args => by
      show orSm (extSm kinds) (orSm (contSm 127) (orSm (retSm 5 true) (orSm (plainSm plainFv) (orSm (plainSm padFv) (orSm linesSm (orSm byNilSm (bySm t x n v p))))))) 37 args H = _
      rw [or_ne (ext_ne (by decide) _ H), or_ne (cont_ne (by decide) _ H), or_ne (bg_ne (by decide) _ H), or_ne (pl_ne (dg_ne (by decide) _)), or_ne (pl_ne (pf_ne (by decide) _)), or_ne (ln_ne (by decide) _ H)]
    unfold byK at h
    split at h
    case h_2 => cases h
    rename_i i q
    rw [base]
    split at h
    case h_2 => cases h
    rename_i T1 a1 b1 c1 d1 f1 T2 a2 b2 c2 d2 f2 g1 g2
    split at h
    case h_3 => cases h
    · rename_i nm fl k1 k2 k3
      obtain ⟨e, h'⟩ := bc_none h
      refine ⟨_, _, or_yes ?_, h'⟩
      unfold byNilSm
      simp only [Nat.beq_refl, cond_true, g1, g2]
      rw [k1, k2, k3]
      simp only [e, cond_true]
    · rename_i nm fl it k1 k2 k3
      obtain ⟨e0, h0⟩ := bc_none h
      clear h
      rw [leq_iff, decide_eq_true_eq] at e0
      subst e0
      split at h0
      case h_2 => cases h0
      rename_i t' T3 a3 b3 c3 d3 f3 k4 g3
      obtain ⟨e4, h5⟩ := bc_none h0
      clear h0
      rw [Nat.beq_eq] at e4
      subst e4
      split at h5
      case h_2 => cases h5
      rename_i l dt k5 k6
      obtain ⟨e5, h6⟩ := cellsQ_some h5
      clear h5
      split at h6
      case h_2 => cases h6
      rename_i T4 a4 b4 c4 d4 f4 g4
      split at h6
      case h_2 => cases h6
      rename_i b k7
      obtain ⟨e6, h7⟩ := bc_none h6
      obtain ⟨e7, h8⟩ := bc_none h7
      rw [ieq_iff, decide_eq_true_eq] at e6
      subst e6
      have hN : byNilSm 37 [.ptr i 0, .ptr q 0] H = none := by
        unfold byNilSm
        simp only [Nat.beq_refl, cond_true, g1, g2]
        rw [k1, k2, k3]
      rw [or_ne hN]
      refine ⟨_, _, ?_, h8⟩
      unfold bySm
      simp only
      rw [if_pos]
      refine ⟨rfl, it, dt, T1, a1, b1, c1, d1, f1, T2, a2, b2, c2, d2, f2, T3, a3, b3, c3, d3, f3, T4, a4, b4, c4, d4, f4, nm, g1, k4, g2, k1, k2, k3, g3, fun j y hy => ?_, g4, k7, ?_, ?_⟩
      · rw [e5] at k5
        have hj := (List.getElem?_eq_some_iff.1 hy).1
        have hlen : (itL n v p (.sl dt 0 1 none)).length = 33 := rfl
        have := getAll_get k5 j (by rw [hlen] at hj; exact hj)
        rw [Nat.zero_add] at this
        rw [this]; exact hy
      · unfold namB at e7
        simp only [Bool.and_eq_true, Bool.not_eq_true'] at e7
        obtain ⟨⟨n1, n2, n3, n4, n5, n6⟩, _⟩ := e7
        have ne : ∀ {a b : Nat}, Nat.beq a b = false → a ≠ b := fun h e => by rw [beq_t e] at h; cases h
        simp only [List.nodup_cons, List.mem_cons, List.not_mem_nil, or_false, not_or, List.nodup_nil, and_true, not_false_eq_true]
        exact ⟨⟨ne n1, ne n2, ne n3⟩, ⟨ne n4, ne n5⟩, ne n6⟩
      · unfold namB at e7
        simp only [Bool.and_eq_true, Nat.ble_eq] at e7
        obtain ⟨_, n1, n2, n3, n4⟩ := e7
        intro z hz
        simp only [List.mem_cons, List.not_mem_nil, or_false] at hz
        rcases hz with rfl | rfl | rfl | rfl <;> assumption
  · exact smC_ok _ _ _ _ _ _ h
def leafKP (ng : Nat) (S keep : List Nat) : PC Leaf := fun e fr H _ => leafK ng S keep e fr H
section
variable {E : Env} {P : Program} {I : List MEnt → AHeap → World → Prop} {ro : Option Nat}
theorem TriL.leafKPX (hE : EnvOk E P I) (hI : Carried I) {cl : PCl Leaf} {d : Nat} (hc : POk cl (Go.Vai.run E d)) {l m : List Code} {fr : AFr} {H : AHeap} {o : Orc} {S keep : List Nat} {e : AExit} {n : Nat} {vs : List AV} {os os2 : List AObj} {Q : TQ}
    (h : codesP E cl l (leafKP E.ng S keep) fr H o = lf e n (vs.map some) (os.map some)) (hk : keepOk E.ng keep = true) (hl : os2.length = os.length) (hkl : keep.length = E.ng + os.length)
    (hr : ∀ (j : Nat) o o2, os[j]? = some o → os2[j]? = some o2 → RObj 0 keep o o2)
    (hm : (e = .normal ∧ TriL E P I ro m (mkFr n S vs) (mkH E.ng os2) Q) ∨ (e ≠ .normal ∧ ∀ fr' H', Ren E.ng keep fr' H' (mkFr n S vs) (mkH E.ng os2) → Q e fr' H')) : TriL E P I ro (l ++ m) fr H Q := by
  obtain ⟨e1, fr', H', o', e2, e3⟩ := codesP_some hc l _ fr H o _ h
  obtain ⟨rfl, ren⟩ := ren_of_leaf e3 hk hl hkl hr
  refine TriL.run hE (sound_run hE _) e2 ?_
  rcases hm with ⟨rfl, hm⟩ | ⟨hne, hm⟩
  · exact .inl ⟨rfl, TriL.ren hI ren hm⟩
  · exact .inr ⟨hne, hm _ _ ren⟩
end
def fn3 : AFunc := (E1.fn 3).getD default
theorem fn3_eq (t : Nat) (x : Bool) (n v p : Nat) : (EA t x n v p).fn 3 = some fn3 := by kernel_rfl
def asT (hd : List UInt8) (u n v p : Nat) (TX : List UInt8) (KK : Option Leaf) : Option Leaf := bc (dgT (.ofNat n)) (bc (Nat.ble (Nat.add 13 (lenU ((dgs n)))) 1099511627776) (bc (Nat.ble (Nat.add (lenU (hd ++ ((dgs n)))) 8) 1099511627776) (bc (dgT (.ofNat v)) (bc (Nat.ble (Nat.add (lenU ((hd ++ ((dgs n))) ++ [10, 46, 97, 108, 105, 103, 110, 32])) (lenU ((dgs v)))) 1099511627776) (bc (Nat.ble (Nat.add (lenU (((hd ++ ((dgs n))) ++ [10, 46, 97, 108, 105, 103, 110, 32]) ++ ((dgs v)))) 11) 1099511627776) (bc (leq ((((hd ++ ((dgs n))) ++ [10, 46, 97, 108, 105, 103, 110, 32]) ++ ((dgs v))) ++ [10, 120, 58, 32, 46, 98, 121, 116, 101, 32, 55]) TX) (bc (!(!(Nat.blt 4611686018427387904 n))) (none) (bc (!(ilt (wrapR .i64 (.ofNat n)) (.ofNat 0))) (bc (!(!(ilt (.ofNat 1048576) (wrapR .i64 (.ofNat n))))) (none) (bc (!(!(Nat.blt 4611686018427387904 v))) (none) (bc (!(ilt (wrapR .i64 (.ofNat v)) (.ofNat 1))) (bc (!(!(ilt (.ofNat 4096) (wrapR .i64 (.ofNat v))))) (none) (bc (!(ieq (wrapR .i64 (andI .i64 (wrapR .i64 (.ofNat v)) (wrapR .i64 (Int.sub (wrapR .i64 (.ofNat v)) (.ofNat 1))))) (.ofNat 0))) (none) (bc (ieq (wrapR .i64 (Int.add (.ofNat 0) (wrapR .i64 (.ofNat n)))) (.ofNat n)) (bc (ieq (wrapR .i64 (.ofNat v)) (.ofNat v)) (bc (ilt (.ofNat 0) (wrapR .i64 (.ofNat v))) (bc (ieq (wrapR .i64 (Int.add (.ofNat 0) (wrapR .i64 (Int.add (.ofNat 0) (wrapR .i64 (.ofNat n)))))) (.ofNat n)) (bc (ieq (wrapR .i64 (.ofNat v)) (.ofNat v)) (bc (ilt (.ofNat 0) (wrapR .i64 (.ofNat v))) (bc (ieq (wrapR .i64 (Int.add (.ofNat 0) (wrapR .i64 (Int.add (.ofNat 0) (wrapR .i64 (.ofNat n)))))) (.ofNat n)) (bc (ieq (wrapR .i64 (.ofNat v)) (.ofNat v)) (bc (!(!(ilt (.ofNat 1048576) (wrapR .i64 (Int.add (wrapR .i64 (Int.add (wrapR .i64 (Int.add (.ofNat 0) (wrapR .i64 (Int.add (.ofNat 0) (wrapR .i64 (.ofNat n)))))) (.ofNat p))) (.ofNat 1)))))) (none) (bc (AV.eqb (.int .u64 (wrapR .u64 (wrapR .i64 (Int.add (wrapR .i64 (Int.add (.ofNat 0) (wrapR .i64 (Int.add (.ofNat 0) (wrapR .i64 (.ofNat n)))))) (.ofNat p))))) (.int .u64 (wrapR .u64 (wrapR .i64 (Int.add (wrapR .i64 (Int.add (.ofNat 0) (wrapR .i64 (Int.add (.ofNat 0) (wrapR .i64 (.ofNat n)))))) (.ofNat p)))))) (bc (ieq (wrapR .i64 (.ofNat n)) (.ofNat n)) (bc (ieq (wrapR .i64 (Int.add (.ofNat 0) (wrapR .i64 (.ofNat n)))) (.ofNat n)) (bc (ieq (wrapR .i64 (.ofNat v)) (.ofNat v)) (bc (ieq (wrapR .i64 (Int.add (.ofNat 0) (wrapR .i64 (Int.add (.ofNat 0) (wrapR .i64 (.ofNat n)))))) (.ofNat n)) (bc (Nat.beq p p) (bc (ieq (wrapR .i64 (Int.add (wrapR .i64 (Int.add (.ofNat 0) (wrapR .i64 (Int.add (.ofNat 0) (wrapR .i64 (.ofNat n)))))) (.ofNat p))) (.ofNat (Nat.add n p))) (bc (AV.eqb (.int .i64 (wrapR .i64 (Int.add (wrapR .i64 (Int.add (wrapR .i64 (Int.add (.ofNat 0) (wrapR .i64 (Int.add (.ofNat 0) (wrapR .i64 (.ofNat n)))))) (.ofNat p))) (.ofNat 1)))) (.int .i64 (wrapR .i64 (Int.add (wrapR .i64 (Int.add (wrapR .i64 (Int.add (.ofNat 0) (wrapR .i64 (Int.add (.ofNat 0) (wrapR .i64 (.ofNat n)))))) (.ofNat p))) (.ofNat 1))))) (bc (AV.eqb (.int .i64 (bif ilt (.ofNat u) (wrapR .i64 (.ofNat v)) then (wrapR .i64 (.ofNat v)) else (.ofNat u))) (.int .i64 (bif ilt (.ofNat u) (wrapR .i64 (.ofNat v)) then (wrapR .i64 (.ofNat v)) else (.ofNat u)))) (bc (AV.eqb (.int .i64 (wrapR .i64 (Int.add (wrapR .i64 (Int.add (wrapR .i64 (Int.add (.ofNat 0) (wrapR .i64 (Int.add (.ofNat 0) (wrapR .i64 (.ofNat n)))))) (.ofNat p))) (.ofNat 1)))) (.int .i64 (wrapR .i64 (Int.add (wrapR .i64 (Int.add (wrapR .i64 (Int.add (.ofNat 0) (wrapR .i64 (Int.add (.ofNat 0) (wrapR .i64 (.ofNat n)))))) (.ofNat p))) (.ofNat 1))))) (bc (AV.eqb (.int .i64 (bif ilt (.ofNat u) (wrapR .i64 (.ofNat v)) then (wrapR .i64 (.ofNat v)) else (.ofNat u))) (.int .i64 (bif ilt (.ofNat u) (wrapR .i64 (.ofNat v)) then (wrapR .i64 (.ofNat v)) else (.ofNat u)))) (bc (ilt (bif ilt (.ofNat u) (wrapR .i64 (.ofNat v)) then (wrapR .i64 (.ofNat v)) else (.ofNat u)) (.ofNat 1)) (none) (bc (ilt (.ofNat 4096) (bif ilt (.ofNat u) (wrapR .i64 (.ofNat v)) then (wrapR .i64 (.ofNat v)) else (.ofNat u))) (none) (bc (!(ieq (wrapR .i64 (andI .i64 (bif ilt (.ofNat u) (wrapR .i64 (.ofNat v)) then (wrapR .i64 (.ofNat v)) else (.ofNat u)) (wrapR .i64 (Int.sub (bif ilt (.ofNat u) (wrapR .i64 (.ofNat v)) then (wrapR .i64 (.ofNat v)) else (.ofNat u)) (.ofNat 1))))) (.ofNat 0))) (none) (bc (!(ieq (wrapR .i64 (Int.add (wrapR .i64 (Int.add (wrapR .i64 (Int.add (.ofNat 0) (wrapR .i64 (Int.add (.ofNat 0) (wrapR .i64 (.ofNat n)))))) (.ofNat p))) (.ofNat 1))) (.ofNat (n + p + 1)))) (none) (bc (ieq (wrapR .u64 (.ofNat v)) (.ofNat 0)) (none) (bc (!(ieq (Int.tmod (wrapR .u64 (wrapR .i64 (Int.add (wrapR .i64 (Int.add (.ofNat 0) (wrapR .i64 (Int.add (.ofNat 0) (wrapR .i64 (.ofNat n)))))) (.ofNat p)))) (wrapR .u64 (.ofNat v))) (.ofNat 0))) (none) (bc (ilt (wrapR .u64 (wrapR .i64 (Int.add (wrapR .i64 (Int.add (.ofNat 0) (wrapR .i64 (Int.add (.ofNat 0) (wrapR .i64 (.ofNat n)))))) (.ofNat p)))) (wrapR .u64 (.ofNat n))) (none) (bc (!(ilt (wrapR .u64 (wrapR .i64 (Int.add (wrapR .i64 (Int.add (.ofNat 0) (wrapR .i64 (Int.add (.ofNat 0) (wrapR .i64 (.ofNat n)))))) (.ofNat p)))) (wrapR .u64 (wrapR .i64 (.ofNat (Nat.add n v)))))) (none) (KK))))))))) (none)) (none)) (none)) (none)) (none)) (none)) (none)) (none)) (none)) (none)) (none))) (none)) (none)) (none)) (none)) (none)) (none)) (none)) (none)))) (none)))) (none))) (none)) (none)) (none)) (none)) (none)) (none)) (none)
def txA (hd : List UInt8) (n v : Nat) : List UInt8 := (((hd ++ dgs n) ++ [10, 46, 97, 108, 105, 103, 110, 32]) ++ dgs v) ++ [10, 120, 58, 32, 46, 98, 121, 116, 101, 32, 55]
def upA (u v : Nat) : Nat := if u < v then v else u
theorem asT_true {hd : List UInt8} {u n v p kk : Nat} {KK : Option Leaf} (hh : hd.length = 13) (hn : n ≤ 300) (hk : kk ≤ 9) (hv : v = 2 ^ kk) (hp : p < v) (hm : (n + p) % v = 0) (hu : u = 1 ∨ u = 2 ∨ u = 4) : asT hd u n v p (txA hd n v) KK = KK := by
  have hv1 : 1 ≤ v ∧ v ≤ 512 := by
    have : kk = 0 ∨ kk = 1 ∨ kk = 2 ∨ kk = 3 ∨ kk = 4 ∨ kk = 5 ∨ kk = 6 ∨ kk = 7 ∨ kk = 8 ∨ kk = 9 := by omega
    rcases this with h | h | h | h | h | h | h | h | h | h <;> rw [h] at hv <;> rw [hv] <;> decide
  have ld := dgF_len 19 n
  have lv := dgF_len 19 v
  have l1 : lenU (dgs n) ≤ 20 := ld.2
  have l2 : lenU (dgs v) ≤ 20 := lv.2
  have big : ∀ a : Nat, a ≤ 1000 → Nat.ble a 1099511627776 = true := fun a h => ble_t (by omega)
  have lU : ∀ a : List UInt8, lenU a = a.length := fun _ => rfl
  have wn : wrapR .i64 (.ofNat n) = .ofNat n := wrap_i64 (by omega)
  have wv : wrapR .i64 (.ofNat v) = .ofNat v := wrap_i64 (by omega)
  have wp : wrapR .i64 (.ofNat (n + p)) = .ofNat (n + p) := wrap_i64 (by omega)
  have wp1 : wrapR .i64 (.ofNat (n + p + 1)) = .ofNat (n + p + 1) := wrap_i64 (by omega)
  have wnv : wrapR .i64 (.ofNat (Nat.add n v)) = .ofNat (n + v) := wrap_i64 (show n + v < _ by omega)
  have un : wrapR .u64 (.ofNat n) = .ofNat n := wrap_u64 (by omega)
  have uv : wrapR .u64 (.ofNat v) = .ofNat v := wrap_u64 (by omega)
  have up : wrapR .u64 (.ofNat (n + p)) = .ofNat (n + p) := wrap_u64 (by omega)
  have unv : wrapR .u64 (.ofNat (n + v)) = .ofNat (n + v) := wrap_u64 (by omega)
  have z0 : ∀ a : Nat, Int.add (.ofNat 0) (.ofNat a) = .ofNat a := fun a => by rw [add_nat, Nat.zero_add]
  have an : Int.add (.ofNat n) (.ofNat p) = .ofNat (n + p) := add_nat n p
  have an1 : Int.add (.ofNat (n + p)) (.ofNat 1) = .ofNat (n + p + 1) := add_nat _ 1
  have pw : ∀ w : Nat, (w = 1 ∨ w = 2 ∨ w = 4 ∨ w = 8 ∨ w = 16 ∨ w = 32 ∨ w = 64 ∨ w = 128 ∨ w = 256 ∨ w = 512) → ieq (wrapR .i64 (andI .i64 (.ofNat w) (wrapR .i64 (Int.sub (.ofNat w) (.ofNat 1))))) (.ofNat 0) = true := fun w h => by
    rcases h with rfl | rfl | rfl | rfl | rfl | rfl | rfl | rfl | rfl | rfl <;> rfl
  have hvc : v = 1 ∨ v = 2 ∨ v = 4 ∨ v = 8 ∨ v = 16 ∨ v = 32 ∨ v = 64 ∨ v = 128 ∨ v = 256 ∨ v = 512 := by
    have : kk = 0 ∨ kk = 1 ∨ kk = 2 ∨ kk = 3 ∨ kk = 4 ∨ kk = 5 ∨ kk = 6 ∨ kk = 7 ∨ kk = 8 ∨ kk = 9 := by omega
    rcases this with h | h | h | h | h | h | h | h | h | h <;> rw [h] at hv <;> omega
  have ha : (bif ilt (.ofNat u) (.ofNat v) then (Int.ofNat v) else (.ofNat u)) = .ofNat (upA u v) := by
    rw [ilt_nat]
    unfold upA
    by_cases h : u < v
    · rw [blt_t h, if_pos h]; rfl
    · rw [blt_f h, if_neg h]; rfl
  have hA : upA u v = 1 ∨ upA u v = 2 ∨ upA u v = 4 ∨ upA u v = 8 ∨ upA u v = 16 ∨ upA u v = 32 ∨ upA u v = 64 ∨ upA u v = 128 ∨ upA u v = 256 ∨ upA u v = 512 := by
    unfold upA
    split
    · exact hvc
    · omega
  have d1 : dgT (.ofNat n) = true := by
    unfold dgT
    rw [ilt_nat, ilt_nat, blt_f (by omega), blt_t (by omega)]; rfl
  have d2 : dgT (.ofNat v) = true := by
    unfold dgT
    rw [ilt_nat, ilt_nat, blt_f (by omega), blt_t (by omega)]; rfl
  unfold asT txA
  simp only [wn, wv, z0, an, wp, an1, wp1, wnv, un, uv, up, unv, ha, d1, d2, bc_true]
  rw [big (Nat.add 13 (lenU (dgs n))) (show 13 + lenU (dgs n) ≤ _ by omega), bc_true]
  rw [big _ (show Nat.add (lenU (hd ++ dgs n)) 8 ≤ 1000 by rw [lU, List.length_append, hh]; rw [lU] at l1; show 13 + _ + 8 ≤ _; omega), bc_true]
  rw [big _ (show Nat.add (lenU ((hd ++ dgs n) ++ [10, 46, 97, 108, 105, 103, 110, 32])) (lenU (dgs v)) ≤ 1000 by rw [lU, List.length_append, List.length_append, hh]; rw [lU] at l1; show 13 + _ + 8 + _ ≤ _; omega), bc_true]
  rw [big _ (show Nat.add (lenU (((hd ++ dgs n) ++ [10, 46, 97, 108, 105, 103, 110, 32]) ++ dgs v)) 11 ≤ 1000 by rw [lU, List.length_append, List.length_append, List.length_append, hh]; rw [lU] at l1 l2; show 13 + _ + 8 + _ + 11 ≤ _; omega), bc_true]
  have b1 : Nat.blt 4611686018427387904 n = false := blt_f (by omega)
  have b2 : Nat.blt 4611686018427387904 v = false := blt_f (by omega)
  have i1 : ilt (.ofNat n) (.ofNat 0) = false := by rw [ilt_nat]; exact blt_f (by omega)
  have i2 : ilt (.ofNat 1048576) (.ofNat n) = false := by rw [ilt_nat]; exact blt_f (by omega)
  have i3 : ilt (.ofNat v) (.ofNat 1) = false := by rw [ilt_nat]; exact blt_f (by omega)
  have i4 : ilt (.ofNat 4096) (.ofNat v) = false := by rw [ilt_nat]; exact blt_f (by omega)
  have i5 : ilt (.ofNat 0) (.ofNat v) = true := by rw [ilt_nat]; exact blt_t (by omega)
  have i6 : ilt (.ofNat 1048576) (.ofNat (n + p + 1)) = false := by rw [ilt_nat]; exact blt_f (by omega)
  have i7 : ilt (.ofNat (upA u v)) (.ofNat 1) = false := by rw [ilt_nat]; exact blt_f (by omega)
  have i8 : ilt (.ofNat 4096) (.ofNat (upA u v)) = false := by rw [ilt_nat]; exact blt_f (by omega)
  have i9 : ilt (.ofNat (n + p)) (.ofNat n) = false := by rw [ilt_nat]; exact blt_f (by omega)
  have i10 : ilt (.ofNat (n + p)) (.ofNat (n + v)) = true := by rw [ilt_nat]; exact blt_t (by omega)
  have i11 : ieq (.ofNat v) (.ofNat 0) = false := by rw [ieq_nat]; exact beq_f (by omega)
  have i12 : ieq (Int.tmod (.ofNat (n + p)) (.ofNat v)) (.ofNat 0) = true := by rw [tmod_nat, ieq_nat]; exact beq_t hm
  have i13 : Nat.beq p p = true := beq_t rfl
  have i14 : ieq (.ofNat (n + p)) (.ofNat (Nat.add n p)) = true := ieq_self _
  simp only [leq_self, b1, b2, i1, i2, i3, i4, i5, i6, i7, i8, i9, i10, i11, i12, i13, i14, pw v hvc, pw _ hA, ieq_self, eqb_refl, Bool.not_true, Bool.not_false, bc_true, bc_false]
end
end Go.Proofs.YthlcgkebfodnmaaGreatDoor
