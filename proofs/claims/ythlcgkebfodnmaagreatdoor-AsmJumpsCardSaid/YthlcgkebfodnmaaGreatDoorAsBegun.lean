/- foundrylaw20.begun answers true: by the interpreter, run by the kernel. -/
import Derived.Test.YthlcgkebfodnmaaGreatDoorAsBgD0
import Derived.Test.YthlcgkebfodnmaaGreatDoorAsBgD1
import Derived.Test.YthlcgkebfodnmaaGreatDoorAsBgD2
import Derived.Test.YthlcgkebfodnmaaGreatDoorAsEncJ
namespace Go.Proofs.YthlcgkebfodnmaaGreatDoor
open Go Go.Vai
noncomputable section
set_option maxRecDepth 100000
def EBg : Env := envOf Tryz.prog 12 [6, 88, 127] (orSm (extSm kinds) (orSm (contSm 127) (orSm dataSm (orSm (closedSm srcD0) (orSm (closedSm srcD1) (closedSm srcD2))))))
theorem ebg_ok (w : World) (hw : GlobOk gl w) : EnvOk EBg Tryz.prog (Kept gl w) := envOk_sm (by kernel_rfl) ((smOk_ext ext_ok).or (cont_ok1.or (data_ok.or (srcD0_ok.or (srcD1_ok.or srcD2_ok))))) mixed_ok (fun _ _ _ h => h.1) (kept_carried hw).ext
theorem begun_fn : (EBg.fn 5).isSome = true := by kernel_rfl
theorem begun_run : TRes.isB true (runR EBg 100000 (.call 5 [] (gHeap 12 gl))) = true := by kernel_rfl
theorem begun_ret : ∀ w, GlobOk gl w → (callFunc 5 #[]).run Tryz.prog w = .ok (.enter 5 #[]) w ∧ Calls Tryz.prog 5 #[] w fun e w' => e = .returned (.bool true) ∧ Keeps w w' := by
  intro w hw
  have h := begun_run
  rw [runR_eq] at h
  obtain ⟨H1, h2⟩ := TRes.isB_some h
  obtain ⟨a, b⟩ := body_closed (args := []) (cargs := []) (E := EBg) ebg_ok gl_ok begun_fn trivial h2 w hw
  refine ⟨a, Calls.mono (callsIn_wide.1 b) ?_⟩
  rintro e w' ⟨cv, v, H, M, rfl, _, kp, hv, rfl, rfl⟩
  simp only [VRel] at hv
  exact ⟨by rw [hv], kp.2.1⟩
end
end Go.Proofs.YthlcgkebfodnmaaGreatDoor
namespace Go.Proofs.YthlcgkebfodnmaaGreatDoor
open Go Go.Vai
noncomputable section
set_option maxRecDepth 100000
def pnO (nm : List UInt8) : AObj := .cells 6 ((Tr.nil.putAll 0 [.str nm, .str [97, 120]]).set 3 .nils) 0 none 0 true false
def m0O : AObj := .cells 11 .nil 0 none 0 true false
def TRes.isN : Option TRes → Bool
  | some (.call (.ret .nils _)) => true
  | _ => false
theorem nil_run (nm : List UInt8) : TRes.isN (run EEn 40 (.call 37 [.ptr 12 0, .ptr 13 0] (mkH 12 [m0O, pnO nm]))) = true := by kernel_rfl
theorem nil_fn : (EEn.fn 37).isSome = true := by kernel_rfl
def byNilSm : Sm := fun f args H => match args with
  | [.ptr i 0, .ptr q 0] => bif Nat.beq f 37 then (match H.get i, H.get q with
    | some (.cells 11 _ _ _ _ _ _), some (.cells 6 T2 _ _ _ _ _) => (match T2.get 0, T2.get 1, T2.get 3 with
      | some (.str _), some (.str fl), some .nils => bif leq fl [97, 120] then some (.nils, H) else none
      | _, _, _ => none)
    | _, _ => none) else none
  | _ => none
theorem byNil_ok : SmOk Tryz.prog gl byNilSm := by
  intro f args H v H' M w cargs hs hw hr ha
  unfold byNilSm at hs
  split at hs
  case h_2 => cases hs
  rename_i i j
  rw [Bool.cond_eq_ite] at hs
  split at hs
  case isFalse => cases hs
  rename_i hb
  rw [Nat.beq_eq] at hb
  subst hb
  split at hs
  case h_2 => cases hs
  rename_i T1 _ _ _ _ _ T2 _ _ _ _ _ hg1 hg2
  split at hs
  case h_2 => cases hs
  rename_i nm fl h1 h2 h3
  rw [Bool.cond_eq_ite] at hs
  split at hs
  case isFalse => cases hs
  rename_i hl
  rw [leq_iff, decide_eq_true_eq] at hl
  subst hl
  simp only [Option.some.injEq, Prod.mk.injEq] at hs
  obtain ⟨rfl, rfl⟩ := hs
  obtain ⟨m1, hm1, o1⟩ := hr.obj i _ hg1
  obtain ⟨m2, hm2, o2⟩ := hr.obj j _ hg2
  have s1 : ORel [] m1 w m0O := row_sub o1 (T2 := .nil) (fun q y hy => by simp [Tr.get_nil] at hy) 0
  have s2 : ORel [] m2 w (pnO nm) := row_sub o2 (T2 := (Tr.nil.putAll 0 [AV.str nm, AV.str [97, 120]]).set 3 AV.nils) (fun q y hy => by
    rcases Tr.get_set hy with ⟨rfl, rfl⟩ | ⟨_, hy⟩
    · exact ⟨h3, fun _ _ => rfl⟩
    · rcases Tr.get_putAll _ hy with ⟨p, rfl, hp⟩ | ⟨_, hu⟩
      · match p, hp with
        | 0, hp => cases hp; exact ⟨h1, plain_str _⟩
        | 1, hp => cases hp; exact ⟨h2, plain_str _⟩
        | p + 2, hp => simp at hp
      · simp [Tr.get_nil] at hu) 0
  have hn := nil_run nm
  unfold TRes.isN at hn
  split at hn
  case h_2 => cases hn
  rename_i H1 hrun
  match cargs, ha with
  | [a0, a1], ⟨v0, v1, _⟩ =>
    have x0 : VRel (mGlob EEn.ng 0 ++ [m1, m2]) (.ptr 12 0) a0 := by
      obtain ⟨mm, hmm, e⟩ := v0
      rw [hm1] at hmm; cases hmm
      exact ⟨m1, by rw [List.getElem?_append_right (by rw [mGlob_len]; exact Nat.le_refl _), mGlob_len]; rfl, e⟩
    have x1 : VRel (mGlob EEn.ng 0 ++ [m1, m2]) (.ptr 13 0) a1 := by
      obtain ⟨mm, hmm, e⟩ := v1
      rw [hm2] at hmm; cases hmm
      exact ⟨m2, by rw [List.getElem?_append_right (by rw [mGlob_len]; exact Nat.le_succ _), mGlob_len]; rfl, e⟩
    exact view_new (ex := [m1, m2]) (os := [m0O, pnO nm]) (args := [.ptr 12 0, .ptr 13 0]) (keep := []) (new := []) een_ok nil_fn hw hr rfl (fun o ho => by
      rcases List.mem_cons.1 ho with rfl | ho
      · rfl
      · cases List.mem_singleton.1 ho; rfl) (fun q m o e1 e2 => by
      match q, e1, e2 with
      | 0, e1, e2 => cases e1; cases e2; exact s1
      | 1, e1, e2 => cases e1; cases e2; exact s2
      | q + 2, e1, e2 => simp at e1) ⟨x0, x1, trivial⟩ List.nodup_nil rfl (fun j x hx => by simp at hx) rfl hrun
def eqK1 {α : Type} (a b : AV) (k : Option α) : Option α := match a, b with
  | .int .i64 x, .int .i64 y => bc (ieq x y) k none
  | .bool x, .bool y => bif x then (bif y then k else none) else (bif y then none else k)
  | .str x, .str y => bc (leq x y) k none
  | .nils, .nils => k
  | .sl i o n none, .sl j q m none => bc (Nat.beq i j) (bc (Nat.beq o q) (bc (Nat.beq n m) k none) none) none
  | _, _ => none
def cellsQ {α : Type} : List AV → List AV → Option α → Option α
  | [], [], k => k
  | a :: xs, b :: ys, k => eqK1 a b (cellsQ xs ys k)
  | _, _, _ => none
theorem eqK1_some {α : Type} {a b : AV} {k : Option α} {r : α} (h : eqK1 a b k = some r) : a = b ∧ k = some r := by
  unfold eqK1 at h
  split at h
  · obtain ⟨e, h⟩ := bc_none h
    rw [ieq_iff, decide_eq_true_eq] at e
    rw [e]; exact ⟨rfl, h⟩
  · rename_i x y
    cases x <;> cases y <;> first | exact ⟨rfl, h⟩ | cases h
  · obtain ⟨e, h⟩ := bc_none h
    rw [leq_iff, decide_eq_true_eq] at e
    rw [e]; exact ⟨rfl, h⟩
  · exact ⟨rfl, h⟩
  · obtain ⟨e1, h⟩ := bc_none h
    obtain ⟨e2, h⟩ := bc_none h
    obtain ⟨e3, h⟩ := bc_none h
    rw [Nat.beq_eq] at e1 e2 e3
    rw [e1, e2, e3]; exact ⟨rfl, h⟩
  · cases h
theorem cellsQ_some {α : Type} : ∀ {l m : List AV} {k : Option α} {r : α}, cellsQ l m k = some r → l = m ∧ k = some r
  | [], [], _, _, h => ⟨rfl, h⟩
  | [], _ :: _, _, _, h => by cases h
  | _ :: _, [], _, _, h => by cases h
  | a :: xs, b :: ys, k, r, h => by
    obtain ⟨e1, h1⟩ := eqK1_some (k := cellsQ xs ys k) h
    obtain ⟨e2, h2⟩ := cellsQ_some (l := xs) (m := ys) h1
    exact ⟨by rw [e1, e2], h2⟩
def dgT (x : Int) : Bool := !(ilt x (.ofNat 0)) && ilt x (.ofNat 4294967296)
theorem pl_ne {F : Nat → List AV → Option AV} {g : Nat} {args : List AV} {H : AHeap} (h : F g args = none) : plainSm F g args H = none := by unfold plainSm; rw [h]
theorem bg_ne {g : Nat} (h : g ≠ 5) (args : List AV) (H : AHeap) : retSm 5 true g args H = none := by
  unfold retSm
  split
  · rw [beqF h]; rfl
  · rfl
theorem dg_ne {g : Nat} (h : g ≠ 7) (args : List AV) : plainFv g args = none := by
  unfold plainFv
  split
  · rw [beqF h]; rfl
  · rfl
theorem ln_ne {g : Nat} (h : g ≠ 19) (args : List AV) (H : AHeap) : linesSm g args H = none := by
  unfold linesSm
  split
  · rw [beqF h]; rfl
  · rfl
section
variable {E : Env} {P : Program} {I : List MEnt → AHeap → World → Prop} {ro : Option Nat}
end
end
end Go.Proofs.YthlcgkebfodnmaaGreatDoor
namespace Go.Proofs.YthlcgkebfodnmaaGreatDoor
open Go Go.Vai
noncomputable section
set_option maxRecDepth 100000
def jpOf (n m z0 z1 z2 : Nat) : JP := ⟨n, m, z0, z1, z2, 0, z0, Nat.add z0 n, Nat.add (Nat.add z0 n) z1, Nat.add (Nat.add (Nat.add z0 n) z1) m, Nat.beq z0 5, Nat.beq z1 5, Nat.beq z2 5⟩
def byJ (n m z0 z1 z2 : Nat) (d0 d1 d2 : Int) : List UInt8 := byJL (jcB z0 d0) n (jcB z1 d1) m (jcB z2 d2)
def wsJ (n m : Nat) : List (List WP) := [[(⟨1, [106, 109, 112], 0⟩, 0), (⟨1, [98], 0⟩, 4)], [(⟨1, [46, 115, 112, 97, 99, 101], 0⟩, 0), (⟨2, [], n⟩, 7)], [(⟨1, [106, 109, 112], 0⟩, 0), (⟨1, [99], 0⟩, 4)], [(⟨1, [98], 0⟩, 0), (⟨4, [58], 0⟩, 1), (⟨1, [46, 115, 112, 97, 99, 101], 0⟩, 3), (⟨2, [], m⟩, 10)], [(⟨1, [99], 0⟩, 0), (⟨4, [58], 0⟩, 1), (⟨1, [106, 109, 112], 0⟩, 3), (⟨1, [98], 0⟩, 7)]]
def EJ (x : JP) (d0 d1 d2 : Int) : Env := envOf Tryz.prog 12 [5, 7, 19, 37, 127, 9, 131, 29] (orSm (extSm kinds) (orSm (contSm 127) (orSm (retSm 5 true) (orSm (plainSm plainFv) (orSm linesSm (orSm byNilSm (orSm (byjSm x (jcB x.k0 d0) (jcB x.k1 d1) (jcB x.k2 d2)) (orSm decJ1 (orSm decJ4 (orSm (closedSm opD) encJ))))))))))
theorem ej_ok {x : JP} {d0 d1 d2 : Int} (hx : x.Ok (jcB x.k0 d0) (jcB x.k1 d1) (jcB x.k2 d2)) {I : List MEnt → AHeap → World → Prop} (hI : ∀ M H w, I M H w → JG gl M H w) (hc : Carried I) : EnvOk (EJ x d0 d1 d2) Tryz.prog I :=
  envOk_j (gl := gl) (by kernel_rfl) (((smOk_ext ext_ok).j).or (cont_ok1.j.or ((smOk_ret begun_ret).j.or (plainF_ok.j.or (lines_ok.j.or (byNil_ok.j.or ((byj_ok hx).or (decJ1_ok.or (decJ4_ok.or (opD_ok.or encJ_ok))).j))))))) mixed_ok hI hc.ext
theorem jcI_map (z : Nat) (d : Int) : (jcB z d).map byteAV = (jcI z d).map (AV.int .u8) := by
  have av : ∀ x : Int, byteAV (u8B x) = .int .u8 (wrapR .u8 x) := fun x => (u8B_av x).symm
  unfold jcB jcI
  cases Nat.beq z 2 with
  | true => simp only [cond_true, List.map_cons, List.map_nil, av]; rfl
  | false => simp only [cond_false, List.map_cons, List.map_nil, av]; rfl
def byteQ {α : Type} : List AV → List Int → Option α → Option α
  | [], [], k => k
  | .int .u8 x :: xs, b :: ys, k => bc (ieq x b) (byteQ xs ys k) none
  | _, _, _ => none
theorem byteQ_some {α : Type} : ∀ {l : List AV} {m : List Int} {k : Option α} {r : α}, byteQ l m k = some r → l = m.map (AV.int .u8) ∧ k = some r := by
  intro l m k r h
  induction l generalizing m with
  | nil =>
    cases m with
    | nil => exact ⟨rfl, h⟩
    | cons b m => cases h
  | cons a l ih =>
    cases m with
    | nil => unfold byteQ at h; split at h <;> simp_all
    | cons b m =>
      unfold byteQ at h
      split at h
      · simp_all
      · rename_i x xs y ys k' e1 e2
        simp only [List.cons.injEq] at e1 e2
        obtain ⟨rfl, rfl⟩ := e1
        obtain ⟨rfl, rfl⟩ := e2
        obtain ⟨e, h⟩ := bc_none h
        rw [ieq_iff, decide_eq_true_eq] at e
        obtain ⟨h1, h2⟩ := ih h
        exact ⟨by rw [h1, e]; rfl, h2⟩
      · cases h
def nodB : List Nat → Bool
  | [] => true
  | x :: l => (l.all fun y => !(Nat.beq x y)) && nodB l
theorem nodB_nd : ∀ {l : List Nat}, nodB l = true → l.Nodup
  | [], _ => List.nodup_nil
  | x :: l, h => by
    have h : ((l.all fun y => !(Nat.beq x y)) && nodB l) = true := h
    rw [Bool.and_eq_true] at h
    refine List.nodup_cons.2 ⟨fun hm => ?_, nodB_nd h.2⟩
    have := List.all_eq_true.1 h.1 x hm
    rw [Nat.beq_refl] at this
    cases this
def namB6 (l : List Nat) : Bool := nodB l && l.all fun z => Nat.ble 12 z
def byjK {α : Type} (x : JP) (d0 d1 d2 : Int) (args : List AV) (H : AHeap) (k : AV → AHeap → Option α) : Option α := match args with
  | [.ptr i 0, .ptr q 0] => (match H.get i, H.get q with
    | some (.cells 11 T1 _ _ _ _ _), some (.cells 6 T2 _ _ _ _ _) => (match T2.get 0, T2.get 1, T2.get 3 with
      | some (.str _), some (.str fl), some .nils => bc (leq fl [97, 120]) (k .nils H) none
      | some (.str _), some (.str fl), some (.sl it 0 5 none) => bc (leq fl [97, 120]) (match T1.get 0, H.get it with
        | some (.int .i64 (.ofNat t')), some (.cells 55 T3 _ _ _ _ _) => bc (Nat.beq t' 1) (match T3.getAll 0 55, T3.get 3, T3.get 25, T3.get 47 with
          | some l, some (.sl e0 0 _ none), some (.sl e1 0 _ none), some (.sl e2 0 _ none) => cellsQ l (itLJ x (.sl e0 0 x.k0 none) (.sl e1 0 x.k1 none) (.sl e2 0 x.k2 none)) (match H.get e0, H.get e1, H.get e2 with
            | some (.cells m0 T4 _ _ _ _ _), some (.cells m1 T5 _ _ _ _ _), some (.cells m2 T6 _ _ _ _ _) => bc (Nat.beq m0 x.k0 && (Nat.beq m1 x.k1 && Nat.beq m2 x.k2)) (match T4.getAll 0 x.k0, T5.getAll 0 x.k1, T6.getAll 0 x.k2 with
              | some b0, some b1, some b2 => byteQ b0 (jcI x.k0 d0) (byteQ b1 (jcI x.k1 d1) (byteQ b2 (jcI x.k2 d2) (bc (namB6 [i, q, it, e0, e1, e2]) (k (.sl H.next 0 (x.k0 + x.n + x.k1 + x.m + x.k2) none) (H.new (.cells (x.k0 + x.n + x.k1 + x.m + x.k2) (bT (byJ x.n x.m x.k0 x.k1 x.k2 d0 d1 d2)) 5 (some 1) 0 false false))) none)))
              | _, _, _ => none) none
            | _, _, _ => none)
          | _, _, _, _ => none) none
        | _, _ => none) none
      | _, _, _ => none)
    | _, _ => none)
  | _ => none
def decK1 {α : Type} (z : Nat) (d : Int) (a : Nat) (T : Tr AV) (l : Nat) (off : Int) (H : AHeap) (k : AV → AHeap → Option α) : Option α := bc (ieq off (.ofNat a)) (bc (Nat.ble (Nat.add a z) l) (bc (Nat.blt l 1000000) (bc (jAt T a z d) (k (jmpA (nmJ z) d z) H) none) none) none) none
def decK {α : Type} (x0 x1 x2 : Nat) (x : JP) (d0 d1 d2 : Int) (args : List AV) (H : AHeap) (k : AV → AHeap → Option α) : Option α := match args with
  | [.int .i64 (.ofNat t), .sl id 0 l none, .int .i64 off] => bc (Nat.beq t 1) (match H.get id with
    | some (.cells _ T _ _ _ _ _) => bif Nat.beq H.next x0 then decK1 x.k0 d0 0 T l off H k else bif Nat.beq H.next x1 then decK1 x.k1 d1 (Nat.add x.k0 x.n) T l off H k else bif Nat.beq H.next x2 then decK1 x.k2 d2 (Nat.add (Nat.add (Nat.add x.k0 x.n) x.k1) x.m) T l off H k else none
    | _ => none) none
  | _ => none
def SKJ {α : Type} (errs : List Nat) (x0 x1 x2 : Nat) (x : JP) (d0 d1 d2 : Int) (TX : List UInt8) : Smk α := fun f args H k => bif Nat.beq f 7 then (match args with
  | [.int .i64 a] => bc (dgT a) (k (.str (dgs a.toNat)) H) none
  | _ => none) else bif Nat.beq f 19 then (match args with
  | [.str s] => bc (leq s TX) (k (ansV H 5) (ansb (wsJ x.n x.m) H)) none
  | _ => none) else bif Nat.beq f 37 then byjK x d0 d1 d2 args H k else bif Nat.beq f 9 then decK x0 x1 x2 x d0 d1 d2 args H k else bif Nat.beq f 29 then encK errs args H k else smC (EJ x d0 d1 d2) f args H k
def kJ : TRes → Orc → Option AV
  | .call (.ret (.bool b) _), _ => some (.bool b)
  | _, _ => none
theorem ej_sm (x : JP) (d0 d1 d2 : Int) : (EJ x d0 d1 d2).sm = orSm (extSm kinds) (orSm (contSm 127) (orSm (retSm 5 true) (orSm (plainSm plainFv) (orSm linesSm (orSm byNilSm (orSm (byjSm x (jcB x.k0 d0) (jcB x.k1 d1) (jcB x.k2 d2)) (orSm decJ1 (orSm decJ4 (orSm (closedSm opD) encJ))))))))) := rfl
theorem or_assoc {a b c : Sm} {f : Nat} {args : List AV} {H : AHeap} {r : AV × AHeap} (h : orSm a b f args H = some r) : orSm a (orSm b c) f args H = some r := by
  unfold orSm at h ⊢
  cases e : a f args H with
  | some x => rw [e] at h; exact h
  | none =>
    rw [e] at h
    have h : b f args H = some r := h
    simp only [h]
theorem op_ne {f : Nat} (h : f ≠ 131) (args : List AV) (H : AHeap) : closedSm opD f args H = none := by
  unfold closedSm
  rw [show Nat.beq f opD.f = false from beqF h]; rfl
theorem dec_ne {f : Nat} (h : f ≠ 9) (args : List AV) (H : AHeap) : decJ1 f args H = none ∧ decJ4 f args H = none := by
  constructor
  · unfold decJ1
    split
    · rw [beqF h]; rfl
    · rfl
  · unfold decJ4
    split
    · rw [beqF h]; rfl
    · rfl
theorem byN_ne {f : Nat} (h : f ≠ 37) (args : List AV) (H : AHeap) : byNilSm f args H = none := by
  unfold byNilSm
  split
  · rw [beqF h]; rfl
  · rfl
theorem byj_ne {f : Nat} (h : f ≠ 37) {x : JP} {C0 C1 C2 : List UInt8} (args : List AV) (H : AHeap) : byjSm x C0 C1 C2 f args H = none := by
  unfold byjSm
  split
  · rw [if_neg fun e => h e.1]
  · rfl
theorem decK1_some {α : Type} {x : JP} {d0 d1 d2 : Int} {z : Nat} {d : Int} {a n id l : Nat} {T : Tr AV} {e : TypeId} {g : Option Nat} {fz : Nat} {ro mk : Bool} {off : Int} {H : AHeap} {k : AV → AHeap → Option α} {r : α} (hz : jOk z d) (hg : H.get id = some (.cells n T e g fz ro mk)) (h : decK1 z d a T l off H k = some r) :
    ∃ v H', (EJ x d0 d1 d2).sm 9 [.int .i64 (.ofNat 1), .sl id 0 l none, .int .i64 off] H = some (v, H') ∧ k v H' = some r := by
  unfold decK1 at h
  obtain ⟨e1, h1⟩ := bc_none h
  obtain ⟨e2, h2⟩ := bc_none h1
  obtain ⟨e3, h3⟩ := bc_none h2
  obtain ⟨e4, h4⟩ := bc_none h3
  rw [ieq_iff, decide_eq_true_eq] at e1
  subst e1
  rw [Nat.ble_eq] at e2
  rw [Nat.blt_eq] at e3
  refine ⟨_, _, ?_, h4⟩
  rw [ej_sm, or_ne (ext_ne (by decide) _ H), or_ne (cont_ne (by decide) _ H), or_ne (bg_ne (by decide) _ H), or_ne (pl_ne (dg_ne (by decide) _)), or_ne (ln_ne (by decide) _ H), or_ne rfl, or_ne rfl]
  exact or_assoc (decJ_yes hz e3 e2 hg e4)
theorem skj_ok {α : Type} {errs : List Nat} {x0 x1 x2 : Nat} {x : JP} {d0 d1 d2 : Int} {TX : List UInt8} (h1 : TX.length ≤ 262144) (h2 : linG TX = true) (h3 : linO TX = wsJ x.n x.m) (z0 : jOk x.k0 d0) (z1 : jOk x.k1 d1) (z2 : jOk x.k2 d2) : SmkOk (α := α) (EJ x d0 d1 d2) (SKJ errs x0 x1 x2 x d0 d1 d2 TX) := by
  intro f args H k r h
  unfold SKJ at h
  simp only [Bool.cond_eq_ite, Nat.beq_eq] at h
  split at h
  · rename_i e
    subst e
    split at h
    case h_2 => cases h
    rename_i a
    obtain ⟨e, h'⟩ := bc_none h
    clear h
    unfold dgT at e
    rw [Bool.and_eq_true] at e
    cases a with
    | negSucc a => exact absurd e.1 (by show ¬ (!(true) = true); decide)
    | ofNat a =>
      have e2 : Nat.blt a 4294967296 = true := e.2
      refine ⟨_, _, ?_, h'⟩
      rw [ej_sm, or_ne (ext_ne (by decide) _ H), or_ne (cont_ne (by decide) _ H), or_ne (bg_ne (by decide) _ H)]
      refine or_yes ?_
      have e : plainFv 7 [.int .i64 (.ofNat a)] = some (.str (dgs a)) := by
        show (bif Nat.beq 7 7 && Nat.blt a 4294967296 then some (AV.str (dgs a)) else none) = _
        rw [e2]; rfl
      unfold plainSm
      rw [e]; rfl
  split at h
  · rename_i e
    subst e
    split at h
    case h_2 => cases h
    rename_i s
    obtain ⟨e, h'⟩ := bc_none h
    clear h
    rw [leq_iff, decide_eq_true_eq] at e
    subst e
    refine ⟨_, _, ?_, h'⟩
    rw [ej_sm, or_ne (ext_ne (by decide) _ H), or_ne (cont_ne (by decide) _ H), or_ne (bg_ne (by decide) _ H), or_ne (pl_ne (dg_ne (by decide) _))]
    refine or_yes ?_
    unfold linesSm
    simp only [Nat.beq_refl, Bool.true_and, ble_t h1, h2, cond_true]
    rw [h3]
    rfl
  split at h
  · rename_i e
    subst e
    have base : ∀ (args : List AV), (EJ x d0 d1 d2).sm 37 args H = orSm byNilSm (orSm (byjSm x (jcB x.k0 d0) (jcB x.k1 d1) (jcB x.k2 d2)) (orSm decJ1 (orSm decJ4 (orSm (closedSm opD) encJ)))) 37 args H := fun args => by
      rw [ej_sm, or_ne (ext_ne (by decide) _ H), or_ne (cont_ne (by decide) _ H), or_ne (bg_ne (by decide) _ H), or_ne (pl_ne (dg_ne (by decide) _)), or_ne (ln_ne (by decide) _ H)]
    unfold byjK at h
    split at h
    case h_2 => cases h
    rename_i i q
    rw [base]
    split at h
    case h_2 => cases h
    rename_i T1 a1 b1 c1 d1' f1 T2 a2 b2 c2 d2' f2 g1 g2
    split at h
    case h_3 => cases h
    · rename_i nm fl k1 k2 k3
      obtain ⟨e, h'⟩ := bc_none h
      refine ⟨_, _, or_yes ?_, h'⟩
      unfold byNilSm
      simp only [Nat.beq_refl, cond_true, g1, g2]
      rw [k1, k2, k3]
      simp only [e, cond_true]
    · rename_i nm fl it k1 k2 k3
      obtain ⟨e0, h0⟩ := bc_none h
      clear h
      rw [leq_iff, decide_eq_true_eq] at e0
      subst e0
      split at h0
      case h_2 => cases h0
      rename_i t' T3 a3 b3 c3 d3 f3 k4 g3
      obtain ⟨e4, h5⟩ := bc_none h0
      clear h0
      rw [Nat.beq_eq] at e4
      subst e4
      split at h5
      case h_2 => cases h5
      rename_i l s0 y0 s1 y1 s2 y2 k5 k6 k7 k8
      obtain ⟨e5, h6⟩ := cellsQ_some h5
      clear h5
      split at h6
      case h_2 => cases h6
      rename_i m0 T4 a4 b4 c4 d4 f4 m1 T5 a5 b5 c5 d5 f5 m2 T6 a6 b6 c6 d6 f6 g4 g5 g6
      obtain ⟨em, h7⟩ := bc_none h6
      simp only [Bool.and_eq_true, Nat.beq_eq] at em
      obtain ⟨rfl, rfl, rfl⟩ := em
      split at h7
      case h_2 => cases h7
      rename_i w0 w1 w2 k9 k10 k11
      obtain ⟨q0, h8⟩ := byteQ_some h7
      obtain ⟨q1, h9⟩ := byteQ_some h8
      obtain ⟨q2, h10⟩ := byteQ_some h9
      obtain ⟨q3, h11⟩ := bc_none h10
      have hN : byNilSm 37 [.ptr i 0, .ptr q 0] H = none := by
        unfold byNilSm
        simp only [Nat.beq_refl, cond_true, g1, g2]
        rw [k1, k2, k3]
      rw [or_ne hN]
      refine ⟨_, _, or_yes ?_, h11⟩
      have row : ∀ {T : Tr AV} {z : Nat} {d : Int} {l : List AV}, T.getAll 0 z = some l → l = (jcI z d).map (AV.int .u8) → RowB T (jcB z d) := fun {T z d l} hg hl i b hb => by
        have hl2 : l.length = z := getAll_len hg
        rw [hl, ← jcI_map] at hg hl2
        rw [List.length_map] at hl2
        have hi : i < (jcB z d).length := (List.getElem?_eq_some_iff.1 hb).1
        have := getAll_get hg i (by omega)
        rw [Nat.zero_add, List.getElem?_map, hb] at this
        exact this
      unfold byjSm
      simp only
      rw [if_pos]
      · rfl
      refine ⟨rfl, it, s0, s1, s2, T1, a1, b1, c1, d1', f1, T2, a2, b2, c2, d2', f2, T3, a3, b3, c3, d3, f3, T4, a4, b4, c4, d4, f4, T5, a5, b5, c5, d5, f5, T6, a6, b6, c6, d6, f6, nm, g1, k4, g2, k1, k2, k3, g3, fun j y hy => ?_, g4, row k9 q0, g5, row k10 q1, g6, row k11 q2, ?_, ?_⟩
      · rw [e5] at k5
        have hj := (List.getElem?_eq_some_iff.1 hy).1
        have hlen : (itLJ x (.sl s0 0 x.k0 none) (.sl s1 0 x.k1 none) (.sl s2 0 x.k2 none)).length = 55 := rfl
        have := getAll_get k5 j (by rw [hlen] at hj; exact hj)
        rw [Nat.zero_add] at this
        rw [this]; exact hy
      · unfold namB6 at q3
        rw [Bool.and_eq_true] at q3
        exact nodB_nd q3.1
      · unfold namB6 at q3
        rw [Bool.and_eq_true] at q3
        exact fun z hz => by simpa using List.all_eq_true.1 q3.2 z hz
  split at h
  · rename_i e
    subst e
    unfold decK at h
    split at h
    case h_2 => cases h
    rename_i t id l off
    obtain ⟨e, h'⟩ := bc_none h
    clear h
    rw [Nat.beq_eq] at e
    subst e
    split at h'
    case h_2 => cases h'
    rename_i n T e g fz ro mk hg
    simp only [Bool.cond_eq_ite, Nat.beq_eq] at h'
    split at h'
    · exact decK1_some z0 hg h'
    split at h'
    · exact decK1_some z1 hg h'
    split at h'
    · exact decK1_some z2 hg h'
    · cases h'
  split at h
  · rename_i e
    subst e
    obtain ⟨v, H', h1, h2⟩ := encK_some h
    refine ⟨v, H', ?_, h2⟩
    obtain ⟨q1, q4⟩ := dec_ne (f := 29) (by decide) args H
    rw [ej_sm, or_ne (ext_ne (by decide) _ H), or_ne (cont_ne (by decide) _ H), or_ne (bg_ne (by decide) _ H), or_ne (pl_ne (dg_ne (by decide) _)), or_ne (ln_ne (by decide) _ H), or_ne (byN_ne (by decide) _ H), or_ne (byj_ne (by decide) _ H), or_ne q1, or_ne q4, or_ne (op_ne (by decide) _ H)]
    exact h1
  · exact smC_ok _ _ _ _ _ _ h
end
end Go.Proofs.YthlcgkebfodnmaaGreatDoor
