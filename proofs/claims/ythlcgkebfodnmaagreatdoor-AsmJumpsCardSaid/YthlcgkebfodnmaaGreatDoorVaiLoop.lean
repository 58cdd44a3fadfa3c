/- Functions of plain values that leave nothing behind, by a triple on their body; small laws of byte texts. -/
import Derived.Test.YthlcgkebfodnmaaGreatDoorVaiH
import Derived.Shelf.Strings.Split
section
namespace Go.Vai
noncomputable section
section
variable {P : Program} {gl : List (Nat × List AV)}
def weakI : AV → AV
  | .iface t (.ptr _ _) => .iface t (.opq none)
  | v => v
theorem weakI_rel {M : List MEnt} {v : AV} {cv : Value} (h : VRel M v cv) : VRel M (weakI v) cv := by
  unfold weakI
  split
  · obtain ⟨y, e, h⟩ := h
    obtain ⟨m, _, rfl⟩ := h
    exact ⟨_, e, fun cs e => (by cases e), fun vs e => (by cases e), fun k e => (by cases e)⟩
  · exact h
def weak2 : AV → AV
  | .tup [x, y] => .tup [x, weakI y]
  | v => v
theorem weak2_rel {M : List MEnt} {v : AV} {cv : Value} (h : VRel M v cv) : VRel M (weak2 v) cv := by
  unfold weak2
  split
  · obtain ⟨vs, e, h⟩ := h
    match vs, h with
    | [a, b], ⟨h1, h2, _⟩ => exact ⟨_, e, h1, weakI_rel h2, trivial⟩
  · exact h
def jW : TRes → Orc → Option AV
  | .call (.ret v _), _ => rnV 0 [] (weak2 v)
  | _, _ => none
theorem w_okS {F : Nat → List AV → Option AV}
    (hF : ∀ f args v, F f args = some v → ∃ (E : Env) (n : Nat) (s : Smk AV), SmkOk E s ∧ (∀ w, GlobOk gl w → EnvOk E P (Kept gl w)) ∧ (gl.all fun x => Nat.blt x.1 E.ng) = true ∧ (E.fn f).isSome = true ∧ (∀ a ∈ args, Plain a) ∧ ∃ o, callPS E s noPin n (.call f args (gHeap E.ng gl)) o jW = some v) : SmOk P gl (plainSm F) := by
  intro f args H v H' M w cargs hs hw hr ha
  unfold plainSm at hs
  cases hF' : F f args with
  | none => rw [hF'] at hs; cases hs
  | some u =>
    rw [hF'] at hs
    have hs : some (u, H) = some (v, H') := hs
    simp only [Option.some.injEq, Prod.mk.injEq] at hs
    obtain ⟨rfl, rfl⟩ := hs
    obtain ⟨E, n, s, hs, hE, hgl, h1, h2, o, h3⟩ := hF f args _ hF'
    obtain ⟨x, o', e, hk⟩ := callPS_ok E hs noPin n _ _ _ _ h3
    cases x with
    | code a b c => cases hk
    | dcall a => cases hk
    | call c =>
      cases c with
      | pan v H => cases hk
      | ret v1 H1 =>
        have hk : rnV 0 [] (weak2 v1) = some u := hk
        have b : BodyTo P gl f cargs fun x _ => x = weak2 v1 := fun w hw => by
          obtain ⟨b1, b2⟩ := body_closed hE hgl h1 (VRels.anyPlain h2 ha _) e w hw
          refine ⟨b1, CallsIn.mono b2 ?_⟩
          rintro e w' ⟨cv, v2, H2, M2, rfl, x1, x2, x3, rfl, rfl⟩
          exact ⟨cv, _, _, M2, rfl, x1, x2, weak2_rel x3, rfl⟩
        refine BodyTo.calls (os := []) b hw hr ?_
        rintro v2 H2 rfl
        exact ⟨[], List.nodup_nil, rfl, by rw [rnV_nil]; exact hk, fun j x hx => by simp at hx⟩
theorem tri_plain {F : Nat → List AV → Option AV}
    (hF : ∀ f args v, F f args = some v → ∃ (E : Env) (fn : AFunc), (∀ w, GlobOk gl w → EnvOk E P (Kept gl w)) ∧ (gl.all fun x => Nat.blt x.1 E.ng) = true ∧ E.fn f = some fn ∧ (∀ a ∈ args, Plain a) ∧ Plain v ∧
      ∀ w, GlobOk gl w → Tri E P (Kept gl w) none fn.body (newFr fn args) (mkH E.ng []) fun e fr H => (e = .normal ∨ e = .ret) ∧ fr.df = [] ∧ ∃ l, resA E fr.t H fn.results = some l ∧ weak2 (resV l) = v) : SmOk P gl (plainSm F) := by
  intro f args H v H' M w cargs hs hw hr ha
  unfold plainSm at hs
  cases hF' : F f args with
  | none => rw [hF'] at hs; cases hs
  | some u =>
    rw [hF'] at hs
    have hs : some (u, H) = some (v, H') := hs
    simp only [Option.some.injEq, Prod.mk.injEq] at hs
    obtain ⟨rfl, rfl⟩ := hs
    obtain ⟨E, fn, hE, hgl, hf, hp, hv, ht⟩ := hF f args _ hF'
    have b : BodyTo P gl f cargs fun x _ => x = u := fun w hw => by
      have b1 := body_to (R := fun x _ => weak2 x = u) hE hgl hf (VRels.anyPlain hp ha _) fun w hw => Tri.ren (kept_carried hw) (ren_start hp) (ht w hw)
      obtain ⟨b2, b3⟩ := b1 w hw
      refine ⟨b2, CallsIn.mono b3 ?_⟩
      rintro e w' ⟨cv, v2, H2, M2, rfl, x1, x2, x3, rfl⟩
      exact ⟨cv, _, _, M2, rfl, x1, x2, weak2_rel x3, rfl⟩
    refine BodyTo.calls (os := []) b hw hr ?_
    rintro v2 H2 rfl
    exact ⟨[], List.nodup_nil, rfl, hv _ _, fun j x hx => by simp at hx⟩
end
theorem rn_int {b : Nat} {keep : List Nat} {x : AV} {k : IntKind} {n : Int} (h : rnV b keep x = some (.int k n)) : x = .int k n := by
  cases x <;> simp only [rnV] at h <;> (try split at h) <;> simp_all
mutual
def freeV : AV → Bool
  | .ptr _ _ => false
  | .sl _ _ _ _ => false
  | .yld _ => false
  | .mapv _ => false
  | .fn _ x y => freeVs x && freeVs y
  | .iface _ x => freeV x
  | .agg l => freeVs l
  | .tup l => freeVs l
  | _ => true
def freeVs : List AV → Bool
  | [] => true
  | v :: l => freeV v && freeVs l
end
mutual
theorem rnV_inv {b : Nat} {keep : List Nat} : ∀ (x v : AV), freeV v = true → rnV b keep x = some v → x = v
  | .ptr _ _, v, hv, h => by simp only [rnV] at h; split at h <;> cases h; cases hv
  | .sl _ _ _ _, v, hv, h => by simp only [rnV] at h; split at h <;> cases h; cases hv
  | .yld _, v, hv, h => by simp only [rnV] at h; split at h <;> cases h; cases hv
  | .mapv _, v, hv, h => by simp only [rnV] at h; split at h <;> cases h; cases hv
  | .nilm, v, _, h => by simp only [rnV, Option.some.injEq] at h; exact h
  | .opq _, v, _, h => by simp only [rnV, Option.some.injEq] at h; exact h
  | .ext _ _ _ _ _ _, v, _, h => by simp only [rnV, Option.some.injEq] at h; exact h
  | .fn f x y, v, hv, h => by
    simp only [rnV] at h
    split at h
    · rename_i x' y' h1 h2
      cases h
      simp only [freeV, Bool.and_eq_true] at hv
      rw [rnVs_inv x x' hv.1 h1, rnVs_inv y y' hv.2 h2]
    · cases h
  | .iface t x, v, hv, h => by
    simp only [rnV] at h
    split at h
    · rename_i y h1
      cases h
      simp only [freeV] at hv
      rw [rnV_inv x y hv h1]
    · cases h
  | .agg l, v, hv, h => by
    simp only [rnV] at h
    split at h
    · rename_i y h1
      cases h
      simp only [freeV] at hv
      rw [rnVs_inv l y hv h1]
    · cases h
  | .tup l, v, hv, h => by
    simp only [rnV] at h
    split at h
    · rename_i y h1
      cases h
      simp only [freeV] at hv
      rw [rnVs_inv l y hv h1]
    · cases h
  | .bool _, v, _, h => by simp only [rnV, Option.some.injEq] at h; exact h
  | .int _ _, v, _, h => by simp only [rnV, Option.some.injEq] at h; exact h
  | .str _, v, _, h => by simp only [rnV, Option.some.injEq] at h; exact h
  | .nilp, v, _, h => by simp only [rnV, Option.some.injEq] at h; exact h
  | .nils, v, _, h => by simp only [rnV, Option.some.injEq] at h; exact h
  | .sl0, v, _, h => by simp only [rnV, Option.some.injEq] at h; exact h
  | .nilf, v, _, h => by simp only [rnV, Option.some.injEq] at h; exact h
  | .nili, v, _, h => by simp only [rnV, Option.some.injEq] at h; exact h
theorem rnVs_inv {b : Nat} {keep : List Nat} : ∀ (x v : List AV), freeVs v = true → rnVs b keep x = some v → x = v
  | [], v, _, h => by simp only [rnVs, Option.some.injEq] at h; exact h
  | a :: l, v, hv, h => by
    simp only [rnVs] at h
    split at h
    · rename_i a' l' h1 h2
      cases h
      simp only [freeVs, Bool.and_eq_true] at hv
      rw [rnV_inv a a' hv.1 h1, rnVs_inv l l' hv.2 h2]
    · cases h
end
mutual
theorem rnV_free {b : Nat} {keep : List Nat} : ∀ (v : AV), freeV v = true → rnV b keep v = some v
  | .fn f x y, h => by
    simp only [freeV, Bool.and_eq_true] at h
    simp only [rnV, rnVs_free x h.1, rnVs_free y h.2]
  | .iface t x, h => by
    simp only [freeV] at h
    simp only [rnV, rnV_free x h]
  | .agg l, h => by
    simp only [freeV] at h
    simp only [rnV, rnVs_free l h]
  | .tup l, h => by
    simp only [freeV] at h
    simp only [rnV, rnVs_free l h]
  | .nilm, _ | .opq _, _ | .ext _ _ _ _ _ _, _ | .bool _, _ | .int _ _, _ | .str _, _ | .nilp, _ | .nils, _ | .sl0, _ | .nilf, _ | .nili, _ => by simp only [rnV]
theorem rnVs_free {b : Nat} {keep : List Nat} : ∀ (l : List AV), freeVs l = true → rnVs b keep l = some l
  | [], _ => rfl
  | v :: l, h => by
    simp only [freeVs, Bool.and_eq_true] at h
    simp only [rnVs, rnV_free v h.1, rnVs_free l h.2]
end
theorem plain_free {v : AV} (h : freeV v = true) : Plain v := fun _ _ => rnV_free v h
theorem ren_res {E : Env} {ng n : Nat} {keep S : List Nat} {fr : AFr} {H H' : AHeap} {vs : List AV} (r : Ren ng keep fr H (mkFr n S vs) H') : ∀ {ts : List Nat} {l : List AV}, ts.map (fun t => (mkFr n S vs).t.get t) = l.map some → freeVs l = true → resA E fr.t H (ts.map .tmp) = some l
  | [], [], _, _ => rfl
  | [], _ :: _, h, _ => by simp at h
  | _ :: _, [], h, _ => by simp at h
  | t :: ts, v :: l, h, hf => by
    simp only [List.map_cons, List.cons.injEq] at h
    simp only [freeVs, Bool.and_eq_true] at hf
    obtain ⟨x, h1, h2⟩ := r.t t v h.1
    have hx := rnV_inv x v hf.1 h2
    subst hx
    have := ren_res (E := E) r h.2 hf.2
    simp only [List.map_cons, resA, h1, this]
def kfind (d : List Nat) (n : Nat) : List (Nat × List Nat) → List Nat := List.rec (motive := fun _ => List Nat) d fun x _ ih => Bool.rec (motive := fun _ => List Nat) ih x.2 (Nat.beq x.1 n)
def leafF (ng : Nat) (S : List Nat) (kf : List (Nat × List Nat)) : KC Leaf := fun e fr H => leafK ng S (kfind (List.range ng) H.next kf) e fr H
theorem kfind_mem {d : List Nat} {n : Nat} : ∀ {l : List (Nat × List Nat)}, kfind d n l = d ∨ ∃ m, (m, kfind d n l) ∈ l
  | [] => .inl rfl
  | x :: l => by
    show (Bool.rec (motive := fun _ => List Nat) (kfind d n l) x.2 (Nat.beq x.1 n) = d) ∨ ∃ m, (m, Bool.rec (motive := fun _ => List Nat) (kfind d n l) x.2 (Nat.beq x.1 n)) ∈ x :: l
    cases Nat.beq x.1 n with
    | true => exact .inr ⟨x.1, List.mem_cons_self⟩
    | false =>
      rcases kfind_mem (d := d) (n := n) (l := l) with h | ⟨m, h⟩
      · exact .inl h
      · exact .inr ⟨m, List.mem_cons_of_mem _ h⟩
def kfOk (ng : Nat) (kf : List (Nat × List Nat)) : Bool := keepOk ng (List.range ng) && kf.all fun x => keepOk ng x.2
theorem ren_of_leafF {ng n : Nat} {S : List Nat} {kf : List (Nat × List Nat)} {e e0 : AExit} {fr : AFr} {H : AHeap} {vs : List AV} {os os2 : List AObj} (h : leafF ng S kf e fr H = some ⟨e0, n, false, true, true, vs.map some, os.map some⟩) (hk : kfOk ng kf = true) (hl : os2.length = os.length)
    (hr : ∀ keep, keepOk ng keep = true → ∀ (j : Nat) o o2, os[j]? = some o → os2[j]? = some o2 → RObj 0 keep o o2) : e = e0 ∧ ∃ keep, Ren ng keep fr H (mkFr n S vs) (mkH ng os2) := by
  have h := h
  unfold leafF at h
  unfold kfOk at hk
  rw [Bool.and_eq_true] at hk
  have hk2 : keepOk ng (kfind (List.range ng) H.next kf) = true := by
    rcases kfind_mem (d := List.range ng) (n := H.next) (l := kf) with e | ⟨m, e⟩
    · rw [e]; exact hk.1
    · exact List.all_eq_true.1 hk.2 _ e
  generalize kfind (List.range ng) H.next kf = keep at h hk2
  have hkl : keep.length = ng + os.length := by
    have h2 := h
    simp only [leafK, Option.some.injEq, Leaf.mk.injEq] at h2
    obtain ⟨_, _, _, _, _, _, h6⟩ := h2
    have h7 := congrArg List.length h6
    simp only [List.length_map, List.length_drop] at h7
    have : ng ≤ keep.length := by
      have hk3 := hk2
      simp only [keepOk, Bool.and_eq_true, List.all_eq_true, List.mem_range, beq_iff_eq] at hk3
      cases hn : ng with
      | zero => exact Nat.zero_le _
      | succ m =>
        have := hk3.1 m (by omega)
        have := (List.getElem?_eq_some_iff.1 this).1
        omega
    omega
  obtain ⟨rfl, ren⟩ := ren_of_leaf h hk2 hl hkl (hr keep hk2)
  exact ⟨rfl, keep, ren⟩
def pO : Nat → Nat → Orc := fun n => Nat.rec (motive := fun _ => Nat → Orc) (fun _ => []) (fun _ ih k => Nat.beq (Nat.mod k 2) 1 :: ih (Nat.div k 2)) n
def codesP {α : Type} (E : Env) (cl : PCl α) (l : List Code) : CP α := List.rec (motive := fun _ => CP α) (fun k => k .normal) (fun c _ K k => codeP E noPin cl c (seqP K k)) l
theorem codesP_some {α : Type} {E : Env} {cl : PCl α} {ih : Task → Option TRes} (hc : POk cl ih) : ∀ (l : List Code) (k : PC α) (fr : AFr) (H : AHeap) (o : Orc) (r : α), codesP E cl l k fr H o = some r → ∃ e fr' H' o', codeL E ih l fr H = some (.code e fr' H') ∧ k e fr' H' o' = some r := by
  intro l
  induction l with
  | nil => intro k fr H o r h; exact ⟨_, _, _, _, rfl, h⟩
  | cons c l ihl =>
    intro k fr H o r h
    have h' : codeP E noPin cl c (seqP (codesP E cl l) k) fr H o = some r := h
    obtain ⟨e, fr1, H1, o1, e1, e2⟩ := codeP_some hc c _ fr H o r h'
    simp only [codeL, e1]
    cases e with
    | normal => exact ihl k fr1 H1 o1 r e2
    | exit i => exact ⟨_, _, _, _, rfl, e2⟩
    | ret => exact ⟨_, _, _, _, rfl, e2⟩
    | panic v => exact ⟨_, _, _, _, rfl, e2⟩
def leafP (ng : Nat) (S : List Nat) (kf : List (Nat × List Nat)) : PC Leaf := fun e fr H _ => leafF ng S kf e fr H
section
variable {E : Env} {P : Program} {I : List MEnt → AHeap → World → Prop} {ro : Option Nat}
theorem TriL.leafPC (hE : EnvOk E P I) {cl : PCl Leaf} {d : Nat} (hc : POk cl (Go.Vai.run E d)) {l : List Code} {fr : AFr} {H : AHeap} {o : Orc} {S : List Nat} {kf : List (Nat × List Nat)} {e : AExit} {n : Nat} {vs : List AV} {os os2 : List AObj} {Q : TQ}
    (h : codesP E cl l (leafP E.ng S kf) fr H o = lf e n (vs.map some) (os.map some)) (hk : kfOk E.ng kf = true) (hl : os2.length = os.length)
    (hr : ∀ keep, keepOk E.ng keep = true → ∀ (j : Nat) o o2, os[j]? = some o → os2[j]? = some o2 → RObj 0 keep o o2) (hm : ∀ fr' H' keep, Ren E.ng keep fr' H' (mkFr n S vs) (mkH E.ng os2) → Q e fr' H') : TriL E P I ro l fr H Q := by
  obtain ⟨e1, fr', H', o', e2, e3⟩ := codesP_some hc l _ fr H o _ h
  obtain ⟨rfl, keep, ren⟩ := ren_of_leafF e3 hk hl hr
  have := TriL.run (m := []) hE (sound_run hE _) (ro := ro) (Q := Q) e2 (by
    cases e1 with
    | normal => exact .inl ⟨rfl, TriL.nil (hm _ _ _ ren)⟩
    | _ => exact .inr ⟨(by intro h; cases h), hm _ _ _ ren⟩)
  rwa [List.append_nil] at this
theorem TriL.leafPX (hE : EnvOk E P I) (hI : Carried I) {cl : PCl Leaf} {d : Nat} (hc : POk cl (Go.Vai.run E d)) {l m : List Code} {fr : AFr} {H : AHeap} {o : Orc} {S : List Nat} {kf : List (Nat × List Nat)} {e : AExit} {n : Nat} {vs : List AV} {os os2 : List AObj} {Q : TQ}
    (h : codesP E cl l (leafP E.ng S kf) fr H o = lf e n (vs.map some) (os.map some)) (hk : kfOk E.ng kf = true) (hl : os2.length = os.length)
    (hr : ∀ keep, keepOk E.ng keep = true → ∀ (j : Nat) o o2, os[j]? = some o → os2[j]? = some o2 → RObj 0 keep o o2)
    (hm : (e = .normal ∧ TriL E P I ro m (mkFr n S vs) (mkH E.ng os2) Q) ∨ (e ≠ .normal ∧ ∀ fr' H' keep, Ren E.ng keep fr' H' (mkFr n S vs) (mkH E.ng os2) → Q e fr' H')) : TriL E P I ro (l ++ m) fr H Q := by
  obtain ⟨e1, fr', H', o', e2, e3⟩ := codesP_some hc l _ fr H o _ h
  obtain ⟨rfl, keep, ren⟩ := ren_of_leafF e3 hk hl hr
  refine TriL.run hE (sound_run hE _) e2 ?_
  rcases hm with ⟨rfl, hm⟩ | ⟨hne, hm⟩
  · exact .inl ⟨rfl, TriL.ren hI ren hm⟩
  · exact .inr ⟨hne, hm _ _ _ ren⟩
theorem TriL.leafFC (hE : EnvOk E P I) {cl : Cl Leaf} {d : Nat} (hc : ClOk cl (Go.Vai.run E d)) {l : List Code} {fr : AFr} {H : AHeap} {S : List Nat} {kf : List (Nat × List Nat)} {e : AExit} {n : Nat} {vs : List AV} {os os2 : List AObj} {Q : TQ}
    (h : codesKK E cl l (leafF E.ng S kf) fr H = lf e n (vs.map some) (os.map some)) (hk : kfOk E.ng kf = true) (hl : os2.length = os.length)
    (hr : ∀ keep, keepOk E.ng keep = true → ∀ (j : Nat) o o2, os[j]? = some o → os2[j]? = some o2 → RObj 0 keep o o2) (hm : ∀ fr' H' keep, Ren E.ng keep fr' H' (mkFr n S vs) (mkH E.ng os2) → Q e fr' H') : TriL E P I ro l fr H Q := by
  obtain ⟨e1, fr', H', e2, e3⟩ := codesKK_some hc l _ fr H _ h
  obtain ⟨rfl, keep, ren⟩ := ren_of_leafF e3 hk hl hr
  have := TriL.run (m := []) hE (sound_run hE _) (ro := ro) (Q := Q) e2 (by
    cases e1 with
    | normal => exact .inl ⟨rfl, TriL.nil (hm _ _ _ ren)⟩
    | _ => exact .inr ⟨(by intro h; cases h), hm _ _ _ ren⟩)
  rwa [List.append_nil] at this
end
theorem robj_all {os : List AObj} (h : ∀ o ∈ os, ∃ n t e g fz ro mk, o = .cells n t e g fz ro mk ∧ PlainT t) {keep : List Nat} : ∀ (j : Nat) o o2, os[j]? = some o → os[j]? = some o2 → RObj 0 keep o o2 := by
  intro j o o2 h1 h2
  rw [h1] at h2; cases h2
  obtain ⟨n, t, e, g, fz, ro, mk, rfl, ht⟩ := h o (List.mem_of_getElem? h1)
  exact robj_plain ht
theorem putAll_append {α : Type} : ∀ (a b : List α) (t : Tr α) (k : Nat), t.putAll k (a ++ b) = (t.putAll k a).putAll (k + a.length) b
  | [], _, _, _ => rfl
  | x :: a, b, t, k => by
    show (t.set k x).putAll (k + 1) (a ++ b) = ((t.set k x).putAll (k + 1) a).putAll (k + (a.length + 1)) b
    rw [putAll_append a b, show k + 1 + a.length = k + (a.length + 1) by omega]
theorem nth_get : ∀ (s : List UInt8) (i : Nat), nth s i = s[i]?
  | [], _ => rfl
  | _ :: _, 0 => rfl
  | _ :: s, i + 1 => nth_get s i
theorem byteAt_eq {s : List UInt8} {i : Nat} (h : i < s.length) : byteAt s i = s[i] := by
  unfold byteAt
  rw [nth_get, List.getElem?_eq_getElem h]; rfl
theorem drop_at {s : List UInt8} {i : Nat} (h : i < s.length) : s.drop i = byteAt s i :: s.drop (i + 1) := by
  rw [byteAt_eq h, List.drop_eq_getElem_cons h]
theorem byteAt_drop (s : List UInt8) (i j : Nat) : byteAt (s.drop i) j = byteAt s (i + j) := by
  unfold byteAt
  rw [nth_get, nth_get, List.getElem?_drop]
def runL (p : UInt8 → Bool) : List UInt8 → Nat
  | [] => 0
  | c :: s => bif p c then runL p s + 1 else 0
theorem runL_le (p : UInt8 → Bool) : ∀ s, runL p s ≤ s.length
  | [] => Nat.le_refl _
  | c :: s => by
    unfold runL
    have := runL_le p s
    cases p c
    · exact Nat.zero_le _
    · exact Nat.succ_le_succ this
theorem runL_lt {p : UInt8 → Bool} : ∀ {s : List UInt8} {k : Nat}, k < runL p s → p (byteAt s k) = true
  | [], k, h => absurd h (Nat.not_lt_zero _)
  | c :: s, k, h => by
    unfold runL at h
    cases hc : p c with
    | false => rw [hc] at h; exact absurd h (Nat.not_lt_zero _)
    | true =>
      rw [hc] at h
      cases k with
      | zero => exact hc
      | succ k => exact runL_lt (s := s) (Nat.lt_of_succ_lt_succ h)
theorem runL_end {p : UInt8 → Bool} : ∀ {s : List UInt8}, runL p s < s.length → p (byteAt s (runL p s)) = false
  | [], h => absurd h (Nat.not_lt_zero _)
  | c :: s, h => by
    unfold runL at h ⊢
    cases hc : p c with
    | false => exact hc
    | true =>
      rw [hc] at h
      exact runL_end (s := s) (Nat.lt_of_succ_lt_succ h)
end
end Go.Vai
end
section
namespace Go.Vai
noncomputable section
def consHd (b : UInt8) : List (List UInt8) → List (List UInt8)
  | [] => [[b]]
  | h :: t => (b :: h) :: t
def cutL (c : UInt8) : List UInt8 → List (List UInt8)
  | [] => [[]]
  | b :: r => if b = c then [] :: cutL c r else consHd b (cutL c r)
theorem cutL_cons (c b : UInt8) (r : List UInt8) : cutL c (b :: r) = if b = c then [] :: cutL c r else consHd b (cutL c r) := rfl
def notB (c : UInt8) (b : UInt8) : Bool := !(Nat.beq b.toNat c.toNat)
theorem notB_eq {c b : UInt8} : notB c b = true ↔ b ≠ c := by
  unfold notB
  rw [Bool.not_eq_true', Bool.eq_false_iff, ne_eq, Nat.beq_eq, UInt8.toNat_inj]
theorem cutL_at (c : UInt8) : ∀ s : List UInt8, cutL c s = if runL (notB c) s < s.length then s.take (runL (notB c) s) :: cutL c (s.drop (runL (notB c) s + 1)) else [s]
  | [] => rfl
  | b :: r => by
    have ih := cutL_at c r
    rw [cutL_cons]
    unfold runL
    by_cases h : b = c
    · have hn : notB c b = false := by rw [Bool.eq_false_iff, ne_eq, notB_eq]; exact fun h2 => h2 h
      rw [if_pos h, hn]
      simp
    · rw [if_neg h, notB_eq.2 h, ih]
      simp only [cond_true, List.length_cons]
      by_cases h2 : runL (notB c) r < r.length
      · rw [if_pos h2, if_pos (by omega)]
        simp [consHd]
      · rw [if_neg h2, if_neg (by omega)]
        rfl
theorem cutL_len (c : UInt8) : ∀ s : List UInt8, (cutL c s).length = s.count c + 1
  | [] => rfl
  | b :: r => by
    have ih := cutL_len c r
    rw [cutL_cons]
    by_cases h : b = c
    · subst h
      rw [if_pos rfl, List.length_cons, ih, List.count_cons_self]
    · rw [if_neg h, List.count_cons_of_ne (by simpa using h), ← ih]
      cases hc : cutL c r with
      | nil => rw [hc] at ih; simp at ih
      | cons x t => rfl
theorem index_run (c : UInt8) : ∀ s : List UInt8, Lib.index s [c] = if runL (notB c) s < s.length then (runL (notB c) s : Int) else -1
  | [] => by rw [Lib.index_one]; rfl
  | b :: r => by
    have ih := index_run c r
    rw [Lib.index_one] at ih ⊢
    unfold Lib.indexByte runL
    by_cases h : b = c
    · have hn : notB c b = false := by rw [Bool.eq_false_iff, ne_eq, notB_eq]; exact fun h2 => h2 h
      rw [if_pos (by simpa using h), hn]
      simp
    · rw [if_neg (by simpa using h), notB_eq.2 h, ih]
      simp only [cond_true, List.length_cons]
      by_cases h2 : runL (notB c) r < r.length
      · rw [if_pos h2, if_neg (by simp), if_pos (by omega)]
        push_cast; rfl
      · rw [if_neg h2, if_pos (by rfl), if_neg (by omega)]
theorem count_run (c : UInt8) : ∀ s : List UInt8, s.count c = if runL (notB c) s < s.length then (s.drop (runL (notB c) s + 1)).count c + 1 else 0
  | [] => rfl
  | b :: r => by
    have ih := count_run c r
    unfold runL
    by_cases h : b = c
    · have hn : notB c b = false := by rw [Bool.eq_false_iff, ne_eq, notB_eq]; exact fun h2 => h2 h
      subst h
      rw [hn]
      simp
    · rw [List.count_cons_of_ne (by simpa using h), notB_eq.2 h, ih]
      simp only [cond_true, List.length_cons, List.drop_succ_cons]
      by_cases h2 : runL (notB c) r < r.length
      · rw [if_pos h2, if_pos (by omega)]
      · rw [if_neg h2, if_neg (by omega)]
theorem splitK_cut (c : UInt8) : ∀ (n : Nat) (s : List UInt8), s.length ≤ n → Lib.splitK [c] 0 (s.count c) s = cutL c s
  | n, s, hn => by
    rw [cutL_at]
    by_cases h : runL (notB c) s < s.length
    · have hc := count_run c s
      rw [if_pos h] at hc
      rw [if_pos h, hc]
      unfold Lib.splitK
      have hi := index_run c s
      rw [if_pos h] at hi
      rw [hi, if_neg (by simp)]
      cases n with
      | zero => omega
      | succ n =>
        simp only [Int.toNat_natCast, Nat.add_zero, List.length_cons, List.length_nil]
        rw [splitK_cut c n _ (by rw [List.length_drop]; omega)]
    · have hc := count_run c s
      rw [if_neg h] at hc
      rw [if_neg h, hc]
      rfl
termination_by n => n
def countSm (f : Nat) : Sm := fun g args H => match args with
  | [.str a, .str [c]] => bif Nat.beq g f && Nat.blt a.length 4294967281 then some (.int .i64 (.ofNat (a.count c)), H) else none
  | _ => none
def splitSm (f ty : Nat) : Sm := fun g args H => match args with
  | [.str a, .str [c]] => bif Nat.beq g f && Nat.blt a.length 4294967281 then some (.sl H.next 0 (cutL c a).length (some (cutL c a).length), newRowA H ty ((cutL c a).map .str)) else none
  | _ => none
theorem count_ok {P : Program} {ρ : Shelf.Ren} (L : Go.Proofs.Lays.n138 P ρ) {gl : List (Nat × List AV)} : SmOk P gl (countSm (ρ.f 138)) := by
  intro g args H v H' M w cargs hs hw hr ha
  unfold countSm at hs
  split at hs
  case h_2 => cases hs
  rename_i a c
  rw [Bool.cond_eq_ite] at hs
  split at hs
  case isFalse => cases hs
  rename_i hb
  simp only [Option.some.injEq, Prod.mk.injEq] at hs
  obtain ⟨rfl, rfl⟩ := hs
  rw [Bool.and_eq_true, Nat.beq_eq, Nat.blt_eq] at hb
  obtain ⟨rfl, hl⟩ := hb
  match cargs, ha with
  | [x, y], ha =>
    obtain ⟨h1, h2, _⟩ := ha
    simp only [VRel] at h1 h2
    subst h1; subst h2
    have e : ∀ args w, (callFunc (ρ.f 138) args).run P w = .ok (.enter (ρ.f 138) args) w := Go.Proofs.enters_of L.f138 (by kernel_rfl) rfl
    refine .inr ⟨e _ _, callsIn_wide.2 ((Go.Proofs.Any.strings_Count_one L ⟨a.toArray⟩ c w).mono fun e w' he => ?_)⟩
    obtain ⟨rfl, rfl⟩ := he
    obtain ⟨x1, x2⟩ := (Keeps.refl w').ext hr
    exact ⟨_, _, M, rfl, x1, x2, by simp [VRel, Lib.countByte]⟩
theorem split_ok {P : Program} {ρ : Shelf.Ren} (L : Go.Proofs.Lays.n146 P ρ) (hi9 : (P.info? (ρ.t 9)).map (fun i => (i.zero, i.size, i.bytes)) = some (some (.string ByteArray.empty), 1, 16)) {gl : List (Nat × List AV)} (hg : (ρ.g 1, [.opq (some .i64)]) ∈ gl) : SmOk P gl (splitSm (ρ.f 146) (ρ.t 9)) := by
  intro g args H v H' M w cargs hs hw hr ha
  unfold splitSm at hs
  split at hs
  case h_2 => cases hs
  rename_i a c
  rw [Bool.cond_eq_ite] at hs
  split at hs
  case isFalse => cases hs
  rename_i hb
  simp only [Option.some.injEq, Prod.mk.injEq] at hs
  obtain ⟨rfl, rfl⟩ := hs
  rw [Bool.and_eq_true, Nat.beq_eq, Nat.blt_eq] at hb
  obtain ⟨rfl, hl⟩ := hb
  match cargs, ha with
  | [x, y], ha =>
    obtain ⟨h1, h2, _⟩ := ha
    simp only [VRel] at h1 h2
    subst h1; subst h2
    obtain ⟨m, hm⟩ := glob_int hg hw
    have e : ∀ args w, (callFunc (ρ.f 146) args).run P w = .ok (.enter (ρ.f 146) args) w := Go.Proofs.enters_of L.f146 (by kernel_rfl) rfl
    have hcut : (Lib.splitB ⟨#[c]⟩ 0 (Lib.countB ⟨a.toArray⟩ ⟨#[c]⟩) ⟨a.toArray⟩).map (fun x => x.data.toList) = cutL c a := by
      rw [Lib.splitB_data]
      show Lib.splitK [c] 0 (Lib.count a [c]) a = _
      rw [Lib.count_one]
      exact splitK_cut c _ a (Nat.le_refl _)
    have hcnt : Lib.countB ⟨a.toArray⟩ ⟨#[c]⟩ + 1 = (cutL c a).length := by
      rw [cutL_len]
      show Lib.count a [c] + 1 = _
      rw [Lib.count_one]
    refine .inr ⟨e _ _, callsIn_wide.2 ((Go.Proofs.Any.strings_Split L hi9 ⟨a.toArray⟩ ⟨#[c]⟩ m w (by simpa [ByteArray.size] using hl) hm (Nat.le_refl 1)).mono fun e w' he => ?_)⟩
    obtain ⟨rfl, rfl⟩ := he
    have hv : VRels M ((cutL c a).map .str) ((Lib.splitB ⟨#[c]⟩ 0 (Lib.countB ⟨a.toArray⟩ ⟨#[c]⟩) ⟨a.toArray⟩).map Value.string) := by
      rw [← hcut]
      generalize Lib.splitB ⟨#[c]⟩ 0 (Lib.countB ⟨a.toArray⟩ ⟨#[c]⟩) ⟨a.toArray⟩ = l
      induction l with
      | nil => trivial
      | cons x l ih => exact ⟨by simp [VRel], ih⟩
    obtain ⟨n1, n2⟩ := newRow_sound hr (ρ.t 9) hv
    refine ⟨_, _, _, rfl, n2, n1, ⟨⟨w.heap.size, 0, 0, 0⟩, (cutL c a).length, ?_, ?_, fun d h => (by cases h; rfl), fun h => by cases h⟩⟩
    · rw [← hr.len]; simp
    · rw [hcnt]
end
end Go.Vai
end
section
namespace Go.Vai
section
variable {P : Program} {gl : List (Nat × List AV)}
def eqArgB : AV → AV → Bool
  | .agg a, .agg b => eqPlains a b
  | x, y => eqPlain x y
theorem eqArgB_iff {x y : AV} (h : eqArgB x y = true) : x = y := by
  unfold eqArgB at h
  split at h
  · rw [eqPlains_iff h]
  · exact eqPlain_iff h
def eqArgsB : List AV → List AV → Bool
  | [], [] => true
  | a :: l, b :: m => eqArgB a b && eqArgsB l m
  | _, _ => false
theorem eqArgsB_iff : ∀ {l m : List AV}, eqArgsB l m = true → l = m
  | [], [], _ => rfl
  | [], _ :: _, h => by simp [eqArgsB] at h
  | _ :: _, [], h => by simp [eqArgsB] at h
  | a :: l, b :: m, h => by
    simp only [eqArgsB, Bool.and_eq_true] at h
    rw [eqArgB_iff h.1, eqArgsB_iff h.2]
noncomputable def closedSmA (c : Done) : Sm := fun f args H => bif Nat.beq f c.f && eqArgsB c.args args then (match rnV H.next c.keep c.v with
  | some u => some (u, news H (c.os.map (mkO H.next c.keep)))
  | none => none) else none
theorem closedA_ok {E : Env} {c : Done} {n : Nat} (hE : ∀ w, GlobOk gl w → EnvOk E P (Kept gl w)) (hgl : (gl.all fun x => Nat.blt x.1 E.ng) = true) (hf : (E.fn c.f).isSome = true)
    (hp : ∀ v ∈ c.args, Plain v) (h : pack c.keep (run E n (.call c.f c.args (gHeap E.ng gl))) = some (c.v, c.os.map some)) (hk : c.keep.Nodup) (hro : (c.os.all fun o => !o.ro) = true) : SmOk P gl (closedSmA c) := by
  intro f args H v H' M w cargs hs hw hr ha
  unfold closedSmA at hs
  cases hb : Nat.beq f c.f && eqArgsB c.args args with
  | false => rw [hb] at hs; cases hs
  | true =>
    rw [hb] at hs
    simp only [cond_true] at hs
    rw [Bool.and_eq_true, Nat.beq_eq] at hb
    obtain ⟨rfl, hb⟩ := hb
    have := eqArgsB_iff hb
    subst this
    split at hs
    case h_2 => cases hs
    rename_i u hu
    simp only [Option.some.injEq, Prod.mk.injEq] at hs
    obtain ⟨rfl, rfl⟩ := hs
    unfold pack at h
    split at h
    case h_2 => cases h
    rename_i v1 H1 hrun
    simp only [Option.some.injEq, Prod.mk.injEq] at h
    obtain ⟨rfl, h2⟩ := h
    refine BodyTo.calls (body_closed hE hgl hf (VRels.anyPlain hp ha _) hrun) hw hr ?_
    rintro v2 H2 ⟨rfl, rfl⟩
    have hl : c.os.length = c.keep.length := by have := congrArg List.length h2; simpa using this.symm
    refine ⟨c.keep, hk, by simpa using hl, hu, fun j x hx => ?_⟩
    rw [List.getElem?_map] at hx
    obtain ⟨o, ho, rfl⟩ := Option.map_eq_some_iff.1 hx
    have hj : j < c.os.length := (List.getElem?_eq_some_iff.1 ho).1
    have h3 := congrArg (·[j]?) h2
    simp only [List.getElem?_map, ho, Option.map_some] at h3
    obtain ⟨i, hi, h4⟩ := Option.map_eq_some_iff.1 h3
    cases hg : H2.get i with
    | none => rw [hg] at h4; cases h4
    | some p =>
      rw [hg] at h4
      obtain ⟨r1, r2⟩ := mkO_robj (b := H.next) (keep := c.keep) h4
      refine ⟨i, p, hi, hg, r1, ?_⟩
      rw [r2]
      have := List.all_eq_true.1 hro o (List.mem_of_getElem? ho)
      simpa using this
end
end Go.Vai
end
section
namespace Go.Vai
noncomputable section
variable {P : Program} {gl : List (Nat × List AV)} {E : Env}
theorem view_closed {f : FuncId} {args : List AV} {cargs : List Value} {u v1 : AV} {M : List MEnt} {H H1 : AHeap} {w : World} {os : List AObj} {ex : List MEnt} {n : Nat} (hE : ∀ w, GlobOk gl w → EnvOk E P (Kept gl w)) (hf : (E.fn f).isSome = true) (hw : GlobOk gl w) (hr : HRel M H w)
    (hl : ex.length = os.length) (hro : ∀ o ∈ os, o.isRo = true) (ho : ∀ (j : Nat) m o, ex[j]? = some m → os[j]? = some o → ORel [] m w o) (ha : VRels (mGlob E.ng 0 ++ ex) args cargs)
    (hu : rnV 0 [] v1 = some u) (h : run E n (.call f args (mkH E.ng os)) = some (.call (.ret v1 H1))) : CallsA P f cargs M H w (.ret u H) := by
  obtain ⟨fn, hfn⟩ := Option.isSome_iff_exists.1 hf
  have hr0 := start_rel (ng := E.ng) hl hro ho
  have kp : Kept gl w (mGlob E.ng 0 ++ ex) (mkH E.ng os) w := ⟨hw, Keeps.refl w, fun b _ ⟨id, o, m, e, r, _⟩ => by
    obtain ⟨j, _, hj⟩ := mkH_get e
    rw [hro o (List.mem_of_getElem? hj)] at r; cases r⟩
  have key := callsA_enters (hE w hw) hfn (run_sound (hE w hw) h ⟨hr0, (grel_glob E).mono (List.prefix_append _ _), kp⟩ ha)
  refine .inr ⟨key.1, CallsIn.mono key.2 ?_⟩
  intro e w' hpost
  cases e with
  | outgrown => exact hpost.elim
  | panicked ch => obtain ⟨_, _, _, _, e, _⟩ := hpost; cases e
  | returned cv =>
    obtain ⟨v2, H2, M', e, x1, x2, x3⟩ := hpost
    cases e
    have hv : VRel M u cv := rnV_rel (b := 0) (keep := []) (fun k i hk => by simp at hk) v1 u cv hu x3
    have kk := ((kept_carried hw).ext _ _ _ _ _ _ kp x1).2.1
    exact ⟨u, H, M, rfl, ⟨List.prefix_refl _, kk.size, kk.os, kk.tape, kk.output, fun b hb hn => ⟨kk.old b hb, hn⟩, fun _ _ hn => hn⟩, ⟨hr.len, fun id o e => by
      obtain ⟨m, hm, r⟩ := hr.obj id o e
      exact ⟨m, hm, r.carry (List.prefix_refl _) (kk.old _ r.lt)⟩, hr.inj⟩, hv⟩
end
end Go.Vai
end
section
namespace Go.Vai
noncomputable section
variable {P : Program} {gl : List (Nat × List AV)} {E : Env}
theorem view_new {f : FuncId} {args : List AV} {cargs : List Value} {u v1 : AV} {M : List MEnt} {H H1 : AHeap} {w : World} {os new : List AObj} {ex : List MEnt} {n : Nat} {keep : List Nat} (hE : ∀ w, GlobOk gl w → EnvOk E P (Kept gl w)) (hf : (E.fn f).isSome = true) (hw : GlobOk gl w) (hr : HRel M H w)
    (hl : ex.length = os.length) (hro : ∀ o ∈ os, o.isRo = true) (ho : ∀ (j : Nat) m o, ex[j]? = some m → os[j]? = some o → ORel [] m w o) (ha : VRels (mGlob E.ng 0 ++ ex) args cargs)
    (hnd : keep.Nodup) (hlen : new.length = keep.length) (hob : ∀ (j : Nat) (x : AObj), new[j]? = some x → ∃ i o, keep[j]? = some i ∧ H1.get i = some o ∧ RObj H.next keep o x ∧ o.isRo = false)
    (hu : rnV H.next keep v1 = some u) (h : run E n (.call f args (mkH E.ng os)) = some (.call (.ret v1 H1))) : CallsA P f cargs M H w (.ret u (news H new)) := by
  obtain ⟨fn, hfn⟩ := Option.isSome_iff_exists.1 hf
  have hr0 := start_rel (ng := E.ng) hl hro ho
  have kp : Kept gl w (mGlob E.ng 0 ++ ex) (mkH E.ng os) w := ⟨hw, Keeps.refl w, fun b _ ⟨id, o, m, e, r, _⟩ => by
    obtain ⟨j, _, hj⟩ := mkH_get e
    rw [hro o (List.mem_of_getElem? hj)] at r; cases r⟩
  have key := callsA_enters (hE w hw) hfn (run_sound (hE w hw) h ⟨hr0, (grel_glob E).mono (List.prefix_append _ _), kp⟩ ha)
  refine .inr ⟨key.1, CallsIn.mono key.2 ?_⟩
  intro e w' hpost
  cases e with
  | outgrown => exact hpost.elim
  | panicked ch => obtain ⟨_, _, _, _, e, _⟩ := hpost; cases e
  | returned cv =>
    obtain ⟨v2, H2, M', e, x1, x2, x3⟩ := hpost
    cases e
    exact transplant hr x2 ((kept_carried hw).ext _ _ _ _ _ _ kp x1) hnd hlen hob x3 hu
theorem getAll_len {T : Tr AV} : ∀ {n o : Nat} {l : List AV}, T.getAll o n = some l → l.length = n
  | 0, o, l, h => by rw [Tr.getAll_zero] at h; cases h; rfl
  | n + 1, o, l, h => by
    rw [Tr.getAll_succ] at h
    cases h1 : T.get o with
    | none => rw [h1] at h; cases h
    | some v =>
      rw [h1] at h
      cases h2 : T.getAll (o + 1) n with
      | none => rw [h2] at h; cases h
      | some m =>
        rw [h2] at h
        cases h
        rw [List.length_cons, getAll_len h2]
theorem getAll_get {T : Tr AV} : ∀ {n o : Nat} {l : List AV}, T.getAll o n = some l → ∀ j, j < n → T.get (o + j) = l[j]?
  | 0, o, l, h, j, hj => by omega
  | n + 1, o, l, h, j, hj => by
    rw [Tr.getAll_succ] at h
    cases h1 : T.get o with
    | none => rw [h1] at h; cases h
    | some v =>
      rw [h1] at h
      cases h2 : T.getAll (o + 1) n with
      | none => rw [h2] at h; cases h
      | some m =>
        rw [h2] at h
        cases h
        cases j with
        | zero => rw [Nat.add_zero, h1]; rfl
        | succ j =>
          have := getAll_get h2 j (by omega)
          rw [show o + (j + 1) = o + 1 + j by omega, this]; rfl
end
end Go.Vai
end
section
namespace Go.Vai
noncomputable section
variable {P : Program} {gl : List (Nat × List AV)} {E : Env}
theorem view_newT {f : FuncId} {fn : AFunc} {args : List AV} {cargs : List Value} {u : AV} {M : List MEnt} {H : AHeap} {w : World} {os new : List AObj} {ex : List MEnt} (hE : ∀ w, GlobOk gl w → EnvOk E P (Kept gl w)) (hf : E.fn f = some fn) (hw : GlobOk gl w) (hr : HRel M H w)
    (hl : ex.length = os.length) (hro : ∀ o ∈ os, o.isRo = true) (ho : ∀ (j : Nat) m o, ex[j]? = some m → os[j]? = some o → ORel [] m w o) (ha : VRels (mGlob E.ng 0 ++ ex) args cargs)
    (h : Tri E P (Kept gl w) none fn.body (newFr fn args) (mkH E.ng os) fun e fr H1 => (e = .normal ∨ e = .ret) ∧ fr.df = [] ∧ ∃ l keep, resA E fr.t H1 fn.results = some l ∧ rnV H.next keep (resV l) = some u ∧ keep.Nodup ∧ new.length = keep.length ∧ ∀ (j : Nat) (x : AObj), new[j]? = some x → ∃ i o, keep[j]? = some i ∧ H1.get i = some o ∧ RObj H.next keep o x ∧ o.isRo = false) : CallsA P f cargs M H w (.ret u (news H new)) := by
  obtain ⟨Fn, hF⟩ := (hE w hw).fns f fn hf
  have hr0 := start_rel (ng := E.ng) hl hro ho
  have kp : Kept gl w (mGlob E.ng 0 ++ ex) (mkH E.ng os) w := ⟨hw, Keeps.refl w, fun b _ ⟨id, o, m, e, r, _⟩ => by
    obtain ⟨j, _, hj⟩ := mkH_get e
    rw [hro o (List.mem_of_getElem? hj)] at r; cases r⟩
  refine .inr ⟨enter_run hF _, callsIn_of_wp hF.at_ hF.body trivial ?_⟩
  refine wpIn_mono (h _ w _ ⟨hr0, (grel_glob E).mono (List.prefix_append _ _), kp⟩ (newFr_rel hF ha)) ?_
  rintro ex1 a1 w1 ⟨e, fr, H1, M1, ⟨he, hd, l, keep, hl1, hu, hnd, hlen, hob⟩, s1, er, f1⟩
  have hdf : a1.defers = [] := by
    have := f1.df
    rw [hd] at this
    generalize a1.defers = x at this ⊢
    cases this; rfl
  rw [← hF.res] at hl1
  obtain ⟨cv, r1, r2⟩ := results_sound (hE w hw).tys s1.hr f1.t hl1
  have fin : CallPost M H w (.ret u (news H new)) (.returned cv) w1 := transplant hr s1.hr s1.i hnd hlen hob r2 hu
  rcases he with rfl | rfl
  · simp only [ERel] at er; subst er
    exact ⟨hdf, cv, r1, fin⟩
  · simp only [ERel] at er; subst er
    exact ⟨hdf, cv, r1, fin⟩
end
end Go.Vai
end
section
namespace Go.Vai
noncomputable section
abbrev bT (L : List UInt8) : Tr AV := Tr.nil.putAll 0 (L.map byteAV)
def RowB (T : Tr AV) (L : List UInt8) : Prop := ∀ i b, L[i]? = some b → T.get i = some (byteAV b)
def sets (L : List UInt8) : Nat → List UInt8 → List UInt8
  | _, [] => L
  | a, b :: bs => sets (L.set a b) (a + 1) bs
theorem rowB_bT {L : List UInt8} (h : L.length < 2 ^ 47) : RowB (bT L) L := fun i b hi => by
  have hl : i < L.length := (List.getElem?_eq_some_iff.1 hi).1
  rw [get_putAllB _ _ _ _ (by rw [List.length_map]; omega), if_pos (by rw [List.length_map]; omega), Nat.sub_zero, List.getElem?_map, hi]; rfl
theorem RowB.all {T : Tr AV} {L : List UInt8} (h : RowB T L) : ∀ (n o : Nat), o + n ≤ L.length → T.getAll o n = some (((L.drop o).take n).map byteAV)
  | 0, o, _ => by simp [Tr.getAll_zero]
  | n + 1, o, hn => by
    have e := h o (L[o]'(by omega)) (List.getElem?_eq_getElem (by omega))
    rw [Tr.getAll_succ, e]
    simp only []
    rw [RowB.all h n (o + 1) (by omega)]
    simp only [Option.some.injEq]
    rw [List.drop_eq_getElem_cons (by omega : o < L.length), List.take_succ_cons, List.map_cons]
theorem RowB.has {T : Tr AV} {L : List UInt8} (h : RowB T L) {n o : Nat} (hn : o + n ≤ L.length) : hasA T o n = true := by
  unfold hasA; rw [h.all n o hn]; rfl
theorem RowB.cells {T : Tr AV} {L : List UInt8} (h : RowB T L) {n o : Nat} (hn : o + n ≤ L.length) : getA T o n = ((L.drop o).take n).map byteAV := by
  unfold getA; rw [h.all n o hn]; rfl
theorem byte_back (b : UInt8) : UInt8.ofNat (Int.ofNat b.toNat).toNat = b := by simp
theorem bytesA_map : ∀ l : List UInt8, bytesA (l.map byteAV) = some l
  | [] => rfl
  | b :: l => by
    show (match bytesA (l.map byteAV) with | some m => some (UInt8.ofNat (Int.ofNat b.toNat).toNat :: m) | none => none) = _
    rw [bytesA_map l]
    simp only [byte_back]
theorem hasY_map (l : List UInt8) : hasY (l.map byteAV) = true := by unfold hasY; rw [bytesA_map]; rfl
theorem getY_map (l : List UInt8) : getY (l.map byteAV) = l := by unfold getY; rw [bytesA_map]; rfl
theorem ones_map : ∀ l : List UInt8, onesA (l.map byteAV) = true
  | [] => rfl
  | _ :: l => by
    show (true && onesA (l.map byteAV)) = true
    rw [ones_map l]; rfl
theorem RowB.put1 {T : Tr AV} {L : List UInt8} (h : RowB T L) {a : Nat} (b : UInt8) (ha : a < L.length) (hL : L.length < 2 ^ 47) : RowB (T.set a (byteAV b)) (L.set a b) := fun i x hi => by
  rw [get_setB _ _ _ (by omega)]
  by_cases e : i = a
  · subst e
    rw [List.getElem?_set_self ha] at hi
    cases hi
    rw [if_pos rfl]
  · rw [if_neg e]
    rw [List.getElem?_set_ne (by omega)] at hi
    exact h i x hi
theorem RowB.put : ∀ {bs L : List UInt8} {T : Tr AV} (_ : RowB T L) {a : Nat}, a + bs.length ≤ L.length → L.length < 2 ^ 47 → RowB (T.putAll a (bs.map byteAV)) (sets L a bs)
  | [], _, _, h, _, _, _ => h
  | b :: bs, L, T, h, a, ha, hL => by
    simp only [List.length_cons] at ha
    exact RowB.put (bs := bs) (T := T.set a (byteAV b)) (h.put1 b (by omega) hL) (by rw [List.length_set]; omega) (by rw [List.length_set]; exact hL)
def u8B (x : Int) : UInt8 := UInt8.ofNat (wrapR .u8 x).toNat
theorem u8B_av (x : Int) : AV.int .u8 (wrapR .u8 x) = byteAV (u8B x) := by
  have h : 0 ≤ wrapR .u8 x ∧ wrapR .u8 x < 256 := by rw [wrapB_u8]; omega
  unfold byteAV u8B
  obtain ⟨k, hk⟩ := Int.eq_ofNat_of_zero_le h.1
  rw [hk] at h ⊢
  have : k < 256 := by omega
  simp [UInt8.toNat_ofNat', Nat.mod_eq_of_lt this]
theorem byte_isI (b : UInt8) : isI .u8 (some (byteAV b)) = true := rfl
theorem byte_asI (b : UInt8) : asI (some (byteAV b)) = Int.ofNat b.toNat := rfl
section
variable {P : Program} {gl : List (Nat × List AV)} {E : Env}
end
end
end Go.Vai
end
section
namespace Go.Vai
noncomputable section
section
variable {α : Type}
end
section
variable {P : Program} {gl : List (Nat × List AV)}
end
end
end Go.Vai
end
section
namespace Go.Vai
noncomputable section
def word2 (b0 b1 : Int) : Int := wrapR .u16 (orI .u16 (wrapR .u16 b0) (wrapR .u16 (shlI (wrapR .u16 b1) 8)))
end
end Go.Vai
end
section
namespace Go.Vai
noncomputable section
section
variable {P : Program} {gl : List (Nat × List AV)} {E : Env}
end
def b4 (w : Int) : List Int := [wrapR .u8 w, wrapR .u8 (shrI w 8), wrapR .u8 (shrI w 16), wrapR .u8 (shrI w 24)]
def b2 (w : Int) : List Int := [wrapR .u8 w, wrapR .u8 (shrI w 8)]
section
variable {α : Type} {f e : Nat} {bs : Int → List Int} {G : List UInt8 → Bool} {EE EW : List UInt8 → Int → Int → Int → Int → Int → Int} {args : List AV} {H : AHeap} {k : AV → AHeap → Option α} {r : α}
end
end
end Go.Vai
end
section
namespace Go.Vai
noncomputable section
section
variable {α : Type} {b : Bool} {x y r : Option α}
end
theorem eqF {m n : Nat} (h : m ≠ n) : Nat.beq m n = false := by
  cases e : Nat.beq m n with
  | false => rfl
  | true => rw [Nat.beq_eq] at e; omega
theorem ieq_self (x : Int) : ieq x x = true := by simp [ieq_iff]
theorem leq_self (x : List UInt8) : leq x x = true := by simp [leq_iff]
section
variable {L : List UInt8} (hn : L.length < 1000000)
include hn
end
def byI (L : List UInt8) (i : Nat) : Int := Int.ofNat (L[i]?.getD 0).toNat
def w4 (L : List UInt8) (a : Nat) : Int := word4 (byI L a) (byI L (a + 1)) (byI L (a + 2)) (byI L (a + 3))
def w2 (L : List UInt8) (a : Nat) : Int := word2 (byI L a) (byI L (a + 1))
theorem mul1 (a : Nat) : Nat.add 0 (Nat.mul a 1) = a := by show 0 + a * 1 = a; omega
section
variable {T : Tr AV} {L : List UInt8} (hR : RowB T L) (hn : L.length < 1000000) {a : Nat} (W : Int)
include hR hn
end
theorem or_ne {a b : Sm} {f : Nat} {args : List AV} {H : AHeap} (h : a f args H = none) : orSm a b f args H = b f args H := by unfold orSm; rw [h]
theorem or_yes {a b : Sm} {f : Nat} {args : List AV} {H : AHeap} {r : AV × AHeap} (h : a f args H = some r) : orSm a b f args H = some r := by unfold orSm; rw [h]
theorem ext_ne {kinds : List (Nat × Nat × Nat)} {f : Nat} (h : extAt kinds f = none) (args : List AV) (H : AHeap) : extSm kinds f args H = none := by unfold extSm; rw [h]
theorem beqF {f g : Nat} (h : f ≠ g) : Nat.beq f g = false := eqF h
theorem cont_ne {f g : Nat} (h : g ≠ f) (args : List AV) (H : AHeap) : contSm f g args H = none := by
  unfold contSm
  split
  · rw [beqF h]; rfl
  · rfl
end
end Go.Vai
end
