/- Functions of plain values that leave nothing behind, by a triple on their body; small laws of byte texts. -/
import Derived.Test.YtafpmnccoogojaaGreatDoorVaiH
import Derived.Test.YtafpmnccoogojaaGreatDoorVaiG
section
namespace Go.Vai
noncomputable section
section
variable {P : Program} {gl : List (Nat × List AV)}
def weakI : AV → AV
  | .iface t (.ptr _ _) => .iface t (.opq none)
  | v => v
theorem weakI_rel {M : List MEnt} {v : AV} {cv : Value} (h : VRel M v cv) : VRel M (weakI v) cv := by
  unfold weakI
  split
  · obtain ⟨y, e, h⟩ := h
    obtain ⟨m, _, rfl⟩ := h
    exact ⟨_, e, fun cs e => (by cases e), fun vs e => (by cases e), fun k e => (by cases e)⟩
  · exact h
def weak2 : AV → AV
  | .tup [x, y] => .tup [x, weakI y]
  | v => v
theorem weak2_rel {M : List MEnt} {v : AV} {cv : Value} (h : VRel M v cv) : VRel M (weak2 v) cv := by
  unfold weak2
  split
  · obtain ⟨vs, e, h⟩ := h
    match vs, h with
    | [a, b], ⟨h1, h2, _⟩ => exact ⟨_, e, h1, weakI_rel h2, trivial⟩
  · exact h
def jW : TRes → Orc → Option AV
  | .call (.ret v _), _ => rnV 0 [] (weak2 v)
  | _, _ => none
theorem w_okS {F : Nat → List AV → Option AV}
    (hF : ∀ f args v, F f args = some v → ∃ (E : Env) (n : Nat) (s : Smk AV), SmkOk E s ∧ (∀ w, GlobOk gl w → EnvOk E P (Kept gl w)) ∧ (gl.all fun x => Nat.blt x.1 E.ng) = true ∧ (E.fn f).isSome = true ∧ (∀ a ∈ args, Plain a) ∧ ∃ o, callPS E s noPin n (.call f args (gHeap E.ng gl)) o jW = some v) : SmOk P gl (plainSm F) := by
  intro f args H v H' M w cargs hs hw hr ha
  unfold plainSm at hs
  cases hF' : F f args with
  | none => rw [hF'] at hs; cases hs
  | some u =>
    rw [hF'] at hs
    have hs : some (u, H) = some (v, H') := hs
    simp only [Option.some.injEq, Prod.mk.injEq] at hs
    obtain ⟨rfl, rfl⟩ := hs
    obtain ⟨E, n, s, hs, hE, hgl, h1, h2, o, h3⟩ := hF f args _ hF'
    obtain ⟨x, o', e, hk⟩ := callPS_ok E hs noPin n _ _ _ _ h3
    cases x with
    | code a b c => cases hk
    | dcall a => cases hk
    | call c =>
      cases c with
      | pan v H => cases hk
      | ret v1 H1 =>
        have hk : rnV 0 [] (weak2 v1) = some u := hk
        have b : BodyTo P gl f cargs fun x _ => x = weak2 v1 := fun w hw => by
          obtain ⟨b1, b2⟩ := body_closed hE hgl h1 (VRels.anyPlain h2 ha _) e w hw
          refine ⟨b1, CallsIn.mono b2 ?_⟩
          rintro e w' ⟨cv, v2, H2, M2, rfl, x1, x2, x3, rfl, rfl⟩
          exact ⟨cv, _, _, M2, rfl, x1, x2, weak2_rel x3, rfl⟩
        refine BodyTo.calls (os := []) b hw hr ?_
        rintro v2 H2 rfl
        exact ⟨[], List.nodup_nil, rfl, by rw [rnV_nil]; exact hk, fun j x hx => by simp at hx⟩
theorem tri_plain {F : Nat → List AV → Option AV}
    (hF : ∀ f args v, F f args = some v → ∃ (E : Env) (fn : AFunc), (∀ w, GlobOk gl w → EnvOk E P (Kept gl w)) ∧ (gl.all fun x => Nat.blt x.1 E.ng) = true ∧ E.fn f = some fn ∧ (∀ a ∈ args, Plain a) ∧ Plain v ∧
      ∀ w, GlobOk gl w → Tri E P (Kept gl w) none fn.body (newFr fn args) (mkH E.ng []) fun e fr H => (e = .normal ∨ e = .ret) ∧ fr.df = [] ∧ ∃ l, resA E fr.t H fn.results = some l ∧ weak2 (resV l) = v) : SmOk P gl (plainSm F) := by
  intro f args H v H' M w cargs hs hw hr ha
  unfold plainSm at hs
  cases hF' : F f args with
  | none => rw [hF'] at hs; cases hs
  | some u =>
    rw [hF'] at hs
    have hs : some (u, H) = some (v, H') := hs
    simp only [Option.some.injEq, Prod.mk.injEq] at hs
    obtain ⟨rfl, rfl⟩ := hs
    obtain ⟨E, fn, hE, hgl, hf, hp, hv, ht⟩ := hF f args _ hF'
    have b : BodyTo P gl f cargs fun x _ => x = u := fun w hw => by
      have b1 := body_to (R := fun x _ => weak2 x = u) hE hgl hf (VRels.anyPlain hp ha _) fun w hw => Tri.ren (kept_carried hw) (ren_start hp) (ht w hw)
      obtain ⟨b2, b3⟩ := b1 w hw
      refine ⟨b2, CallsIn.mono b3 ?_⟩
      rintro e w' ⟨cv, v2, H2, M2, rfl, x1, x2, x3, rfl⟩
      exact ⟨cv, _, _, M2, rfl, x1, x2, weak2_rel x3, rfl⟩
    refine BodyTo.calls (os := []) b hw hr ?_
    rintro v2 H2 rfl
    exact ⟨[], List.nodup_nil, rfl, hv _ _, fun j x hx => by simp at hx⟩
end
theorem rn_int {b : Nat} {keep : List Nat} {x : AV} {k : IntKind} {n : Int} (h : rnV b keep x = some (.int k n)) : x = .int k n := by
  cases x <;> simp only [rnV] at h <;> (try split at h) <;> simp_all
theorem rn_bool {b : Nat} {keep : List Nat} {x : AV} {c : Bool} (h : rnV b keep x = some (.bool c)) : x = .bool c := by
  cases x <;> simp only [rnV] at h <;> (try split at h) <;> simp_all
mutual
def freeV : AV → Bool
  | .ptr _ _ => false
  | .sl _ _ _ _ => false
  | .yld _ => false
  | .mapv _ => false
  | .fn _ x y => freeVs x && freeVs y
  | .iface _ x => freeV x
  | .agg l => freeVs l
  | .tup l => freeVs l
  | _ => true
def freeVs : List AV → Bool
  | [] => true
  | v :: l => freeV v && freeVs l
end
mutual
theorem rnV_inv {b : Nat} {keep : List Nat} : ∀ (x v : AV), freeV v = true → rnV b keep x = some v → x = v
  | .ptr _ _, v, hv, h => by simp only [rnV] at h; split at h <;> cases h; cases hv
  | .sl _ _ _ _, v, hv, h => by simp only [rnV] at h; split at h <;> cases h; cases hv
  | .yld _, v, hv, h => by simp only [rnV] at h; split at h <;> cases h; cases hv
  | .mapv _, v, hv, h => by simp only [rnV] at h; split at h <;> cases h; cases hv
  | .nilm, v, _, h => by simp only [rnV, Option.some.injEq] at h; exact h
  | .opq _, v, _, h => by simp only [rnV, Option.some.injEq] at h; exact h
  | .fn f x y, v, hv, h => by
    simp only [rnV] at h
    split at h
    · rename_i x' y' h1 h2
      cases h
      simp only [freeV, Bool.and_eq_true] at hv
      rw [rnVs_inv x x' hv.1 h1, rnVs_inv y y' hv.2 h2]
    · cases h
  | .iface t x, v, hv, h => by
    simp only [rnV] at h
    split at h
    · rename_i y h1
      cases h
      simp only [freeV] at hv
      rw [rnV_inv x y hv h1]
    · cases h
  | .agg l, v, hv, h => by
    simp only [rnV] at h
    split at h
    · rename_i y h1
      cases h
      simp only [freeV] at hv
      rw [rnVs_inv l y hv h1]
    · cases h
  | .tup l, v, hv, h => by
    simp only [rnV] at h
    split at h
    · rename_i y h1
      cases h
      simp only [freeV] at hv
      rw [rnVs_inv l y hv h1]
    · cases h
  | .bool _, v, _, h => by simp only [rnV, Option.some.injEq] at h; exact h
  | .int _ _, v, _, h => by simp only [rnV, Option.some.injEq] at h; exact h
  | .str _, v, _, h => by simp only [rnV, Option.some.injEq] at h; exact h
  | .nilp, v, _, h => by simp only [rnV, Option.some.injEq] at h; exact h
  | .nils, v, _, h => by simp only [rnV, Option.some.injEq] at h; exact h
  | .sl0, v, _, h => by simp only [rnV, Option.some.injEq] at h; exact h
  | .nilf, v, _, h => by simp only [rnV, Option.some.injEq] at h; exact h
  | .nili, v, _, h => by simp only [rnV, Option.some.injEq] at h; exact h
theorem rnVs_inv {b : Nat} {keep : List Nat} : ∀ (x v : List AV), freeVs v = true → rnVs b keep x = some v → x = v
  | [], v, _, h => by simp only [rnVs, Option.some.injEq] at h; exact h
  | a :: l, v, hv, h => by
    simp only [rnVs] at h
    split at h
    · rename_i a' l' h1 h2
      cases h
      simp only [freeVs, Bool.and_eq_true] at hv
      rw [rnV_inv a a' hv.1 h1, rnVs_inv l l' hv.2 h2]
    · cases h
end
mutual
theorem rnV_free {b : Nat} {keep : List Nat} : ∀ (v : AV), freeV v = true → rnV b keep v = some v
  | .fn f x y, h => by
    simp only [freeV, Bool.and_eq_true] at h
    simp only [rnV, rnVs_free x h.1, rnVs_free y h.2]
  | .iface t x, h => by
    simp only [freeV] at h
    simp only [rnV, rnV_free x h]
  | .agg l, h => by
    simp only [freeV] at h
    simp only [rnV, rnVs_free l h]
  | .tup l, h => by
    simp only [freeV] at h
    simp only [rnV, rnVs_free l h]
  | .nilm, _ | .opq _, _ | .bool _, _ | .int _ _, _ | .str _, _ | .nilp, _ | .nils, _ | .sl0, _ | .nilf, _ | .nili, _ => by simp only [rnV]
theorem rnVs_free {b : Nat} {keep : List Nat} : ∀ (l : List AV), freeVs l = true → rnVs b keep l = some l
  | [], _ => rfl
  | v :: l, h => by
    simp only [freeVs, Bool.and_eq_true] at h
    simp only [rnVs, rnV_free v h.1, rnVs_free l h.2]
end
theorem plain_free {v : AV} (h : freeV v = true) : Plain v := fun _ _ => rnV_free v h
theorem ren_res {E : Env} {ng n : Nat} {keep S : List Nat} {fr : AFr} {H H' : AHeap} {vs : List AV} (r : Ren ng keep fr H (mkFr n S vs) H') : ∀ {ts : List Nat} {l : List AV}, ts.map (fun t => (mkFr n S vs).t.get t) = l.map some → freeVs l = true → resA E fr.t H (ts.map .tmp) = some l
  | [], [], _, _ => rfl
  | [], _ :: _, h, _ => by simp at h
  | _ :: _, [], h, _ => by simp at h
  | t :: ts, v :: l, h, hf => by
    simp only [List.map_cons, List.cons.injEq] at h
    simp only [freeVs, Bool.and_eq_true] at hf
    obtain ⟨x, h1, h2⟩ := r.t t v h.1
    have hx := rnV_inv x v hf.1 h2
    subst hx
    have := ren_res (E := E) r h.2 hf.2
    simp only [List.map_cons, resA, h1, this]
def kfind (d : List Nat) (n : Nat) : List (Nat × List Nat) → List Nat := List.rec (motive := fun _ => List Nat) d fun x _ ih => Bool.rec (motive := fun _ => List Nat) ih x.2 (Nat.beq x.1 n)
def leafF (ng : Nat) (S : List Nat) (kf : List (Nat × List Nat)) : KC Leaf := fun e fr H => leafK ng S (kfind (List.range ng) H.next kf) e fr H
theorem kfind_mem {d : List Nat} {n : Nat} : ∀ {l : List (Nat × List Nat)}, kfind d n l = d ∨ ∃ m, (m, kfind d n l) ∈ l
  | [] => .inl rfl
  | x :: l => by
    show (Bool.rec (motive := fun _ => List Nat) (kfind d n l) x.2 (Nat.beq x.1 n) = d) ∨ ∃ m, (m, Bool.rec (motive := fun _ => List Nat) (kfind d n l) x.2 (Nat.beq x.1 n)) ∈ x :: l
    cases Nat.beq x.1 n with
    | true => exact .inr ⟨x.1, List.mem_cons_self⟩
    | false =>
      rcases kfind_mem (d := d) (n := n) (l := l) with h | ⟨m, h⟩
      · exact .inl h
      · exact .inr ⟨m, List.mem_cons_of_mem _ h⟩
def kfOk (ng : Nat) (kf : List (Nat × List Nat)) : Bool := keepOk ng (List.range ng) && kf.all fun x => keepOk ng x.2
theorem ren_of_leafF {ng n : Nat} {S : List Nat} {kf : List (Nat × List Nat)} {e e0 : AExit} {fr : AFr} {H : AHeap} {vs : List AV} {os os2 : List AObj} (h : leafF ng S kf e fr H = some ⟨e0, n, false, true, true, vs.map some, os.map some⟩) (hk : kfOk ng kf = true) (hl : os2.length = os.length)
    (hr : ∀ keep, keepOk ng keep = true → ∀ (j : Nat) o o2, os[j]? = some o → os2[j]? = some o2 → RObj 0 keep o o2) : e = e0 ∧ ∃ keep, Ren ng keep fr H (mkFr n S vs) (mkH ng os2) := by
  have h := h
  unfold leafF at h
  unfold kfOk at hk
  rw [Bool.and_eq_true] at hk
  have hk2 : keepOk ng (kfind (List.range ng) H.next kf) = true := by
    rcases kfind_mem (d := List.range ng) (n := H.next) (l := kf) with e | ⟨m, e⟩
    · rw [e]; exact hk.1
    · exact List.all_eq_true.1 hk.2 _ e
  generalize kfind (List.range ng) H.next kf = keep at h hk2
  have hkl : keep.length = ng + os.length := by
    have h2 := h
    simp only [leafK, Option.some.injEq, Leaf.mk.injEq] at h2
    obtain ⟨_, _, _, _, _, _, h6⟩ := h2
    have h7 := congrArg List.length h6
    simp only [List.length_map, List.length_drop] at h7
    have : ng ≤ keep.length := by
      have hk3 := hk2
      simp only [keepOk, Bool.and_eq_true, List.all_eq_true, List.mem_range, beq_iff_eq] at hk3
      cases hn : ng with
      | zero => exact Nat.zero_le _
      | succ m =>
        have := hk3.1 m (by omega)
        have := (List.getElem?_eq_some_iff.1 this).1
        omega
    omega
  obtain ⟨rfl, ren⟩ := ren_of_leaf h hk2 hl hkl (hr keep hk2)
  exact ⟨rfl, keep, ren⟩
def pO : Nat → Nat → Orc := fun n => Nat.rec (motive := fun _ => Nat → Orc) (fun _ => []) (fun _ ih k => Nat.beq (Nat.mod k 2) 1 :: ih (Nat.div k 2)) n
def codesP {α : Type} (E : Env) (cl : PCl α) (l : List Code) : CP α := List.rec (motive := fun _ => CP α) (fun k => k .normal) (fun c _ K k => codeP E noPin cl c (seqP K k)) l
theorem codesP_some {α : Type} {E : Env} {cl : PCl α} {ih : Task → Option TRes} (hc : POk cl ih) : ∀ (l : List Code) (k : PC α) (fr : AFr) (H : AHeap) (o : Orc) (r : α), codesP E cl l k fr H o = some r → ∃ e fr' H' o', codeL E ih l fr H = some (.code e fr' H') ∧ k e fr' H' o' = some r := by
  intro l
  induction l with
  | nil => intro k fr H o r h; exact ⟨_, _, _, _, rfl, h⟩
  | cons c l ihl =>
    intro k fr H o r h
    have h' : codeP E noPin cl c (seqP (codesP E cl l) k) fr H o = some r := h
    obtain ⟨e, fr1, H1, o1, e1, e2⟩ := codeP_some hc c _ fr H o r h'
    simp only [codeL, e1]
    cases e with
    | normal => exact ihl k fr1 H1 o1 r e2
    | exit i => exact ⟨_, _, _, _, rfl, e2⟩
    | ret => exact ⟨_, _, _, _, rfl, e2⟩
    | panic v => exact ⟨_, _, _, _, rfl, e2⟩
def leafP (ng : Nat) (S : List Nat) (kf : List (Nat × List Nat)) : PC Leaf := fun e fr H _ => leafF ng S kf e fr H
section
variable {E : Env} {P : Program} {I : List MEnt → AHeap → World → Prop} {ro : Option Nat}
theorem TriL.leafPC (hE : EnvOk E P I) {cl : PCl Leaf} {d : Nat} (hc : POk cl (Go.Vai.run E d)) {l : List Code} {fr : AFr} {H : AHeap} {o : Orc} {S : List Nat} {kf : List (Nat × List Nat)} {e : AExit} {n : Nat} {vs : List AV} {os os2 : List AObj} {Q : TQ}
    (h : codesP E cl l (leafP E.ng S kf) fr H o = lf e n (vs.map some) (os.map some)) (hk : kfOk E.ng kf = true) (hl : os2.length = os.length)
    (hr : ∀ keep, keepOk E.ng keep = true → ∀ (j : Nat) o o2, os[j]? = some o → os2[j]? = some o2 → RObj 0 keep o o2) (hm : ∀ fr' H' keep, Ren E.ng keep fr' H' (mkFr n S vs) (mkH E.ng os2) → Q e fr' H') : TriL E P I ro l fr H Q := by
  obtain ⟨e1, fr', H', o', e2, e3⟩ := codesP_some hc l _ fr H o _ h
  obtain ⟨rfl, keep, ren⟩ := ren_of_leafF e3 hk hl hr
  have := TriL.run (m := []) hE (sound_run hE _) (ro := ro) (Q := Q) e2 (by
    cases e1 with
    | normal => exact .inl ⟨rfl, TriL.nil (hm _ _ _ ren)⟩
    | _ => exact .inr ⟨(by intro h; cases h), hm _ _ _ ren⟩)
  rwa [List.append_nil] at this
theorem TriL.leafPX (hE : EnvOk E P I) (hI : Carried I) {cl : PCl Leaf} {d : Nat} (hc : POk cl (Go.Vai.run E d)) {l m : List Code} {fr : AFr} {H : AHeap} {o : Orc} {S : List Nat} {kf : List (Nat × List Nat)} {e : AExit} {n : Nat} {vs : List AV} {os os2 : List AObj} {Q : TQ}
    (h : codesP E cl l (leafP E.ng S kf) fr H o = lf e n (vs.map some) (os.map some)) (hk : kfOk E.ng kf = true) (hl : os2.length = os.length)
    (hr : ∀ keep, keepOk E.ng keep = true → ∀ (j : Nat) o o2, os[j]? = some o → os2[j]? = some o2 → RObj 0 keep o o2)
    (hm : (e = .normal ∧ TriL E P I ro m (mkFr n S vs) (mkH E.ng os2) Q) ∨ (e ≠ .normal ∧ ∀ fr' H' keep, Ren E.ng keep fr' H' (mkFr n S vs) (mkH E.ng os2) → Q e fr' H')) : TriL E P I ro (l ++ m) fr H Q := by
  obtain ⟨e1, fr', H', o', e2, e3⟩ := codesP_some hc l _ fr H o _ h
  obtain ⟨rfl, keep, ren⟩ := ren_of_leafF e3 hk hl hr
  refine TriL.run hE (sound_run hE _) e2 ?_
  rcases hm with ⟨rfl, hm⟩ | ⟨hne, hm⟩
  · exact .inl ⟨rfl, TriL.ren hI ren hm⟩
  · exact .inr ⟨hne, hm _ _ _ ren⟩
theorem TriL.leafFC (hE : EnvOk E P I) {cl : Cl Leaf} {d : Nat} (hc : ClOk cl (Go.Vai.run E d)) {l : List Code} {fr : AFr} {H : AHeap} {S : List Nat} {kf : List (Nat × List Nat)} {e : AExit} {n : Nat} {vs : List AV} {os os2 : List AObj} {Q : TQ}
    (h : codesKK E cl l (leafF E.ng S kf) fr H = lf e n (vs.map some) (os.map some)) (hk : kfOk E.ng kf = true) (hl : os2.length = os.length)
    (hr : ∀ keep, keepOk E.ng keep = true → ∀ (j : Nat) o o2, os[j]? = some o → os2[j]? = some o2 → RObj 0 keep o o2) (hm : ∀ fr' H' keep, Ren E.ng keep fr' H' (mkFr n S vs) (mkH E.ng os2) → Q e fr' H') : TriL E P I ro l fr H Q := by
  obtain ⟨e1, fr', H', e2, e3⟩ := codesKK_some hc l _ fr H _ h
  obtain ⟨rfl, keep, ren⟩ := ren_of_leafF e3 hk hl hr
  have := TriL.run (m := []) hE (sound_run hE _) (ro := ro) (Q := Q) e2 (by
    cases e1 with
    | normal => exact .inl ⟨rfl, TriL.nil (hm _ _ _ ren)⟩
    | _ => exact .inr ⟨(by intro h; cases h), hm _ _ _ ren⟩)
  rwa [List.append_nil] at this
end
theorem robj_all {os : List AObj} (h : ∀ o ∈ os, ∃ n t e g fz ro mk, o = .cells n t e g fz ro mk ∧ PlainT t) {keep : List Nat} : ∀ (j : Nat) o o2, os[j]? = some o → os[j]? = some o2 → RObj 0 keep o o2 := by
  intro j o o2 h1 h2
  rw [h1] at h2; cases h2
  obtain ⟨n, t, e, g, fz, ro, mk, rfl, ht⟩ := h o (List.mem_of_getElem? h1)
  exact robj_plain ht
theorem putAll_append {α : Type} : ∀ (a b : List α) (t : Tr α) (k : Nat), t.putAll k (a ++ b) = (t.putAll k a).putAll (k + a.length) b
  | [], _, _, _ => rfl
  | x :: a, b, t, k => by
    show (t.set k x).putAll (k + 1) (a ++ b) = ((t.set k x).putAll (k + 1) a).putAll (k + (a.length + 1)) b
    rw [putAll_append a b, show k + 1 + a.length = k + (a.length + 1) by omega]
theorem nth_get : ∀ (s : List UInt8) (i : Nat), nth s i = s[i]?
  | [], _ => rfl
  | _ :: _, 0 => rfl
  | _ :: s, i + 1 => nth_get s i
theorem byteAt_eq {s : List UInt8} {i : Nat} (h : i < s.length) : byteAt s i = s[i] := by
  unfold byteAt
  rw [nth_get, List.getElem?_eq_getElem h]; rfl
theorem drop_at {s : List UInt8} {i : Nat} (h : i < s.length) : s.drop i = byteAt s i :: s.drop (i + 1) := by
  rw [byteAt_eq h, List.drop_eq_getElem_cons h]
theorem byteAt_drop (s : List UInt8) (i j : Nat) : byteAt (s.drop i) j = byteAt s (i + j) := by
  unfold byteAt
  rw [nth_get, nth_get, List.getElem?_drop]
def runL (p : UInt8 → Bool) : List UInt8 → Nat
  | [] => 0
  | c :: s => bif p c then runL p s + 1 else 0
theorem runL_le (p : UInt8 → Bool) : ∀ s, runL p s ≤ s.length
  | [] => Nat.le_refl _
  | c :: s => by
    unfold runL
    have := runL_le p s
    cases p c
    · exact Nat.zero_le _
    · exact Nat.succ_le_succ this
theorem runL_lt {p : UInt8 → Bool} : ∀ {s : List UInt8} {k : Nat}, k < runL p s → p (byteAt s k) = true
  | [], k, h => absurd h (Nat.not_lt_zero _)
  | c :: s, k, h => by
    unfold runL at h
    cases hc : p c with
    | false => rw [hc] at h; exact absurd h (Nat.not_lt_zero _)
    | true =>
      rw [hc] at h
      cases k with
      | zero => exact hc
      | succ k => exact runL_lt (s := s) (Nat.lt_of_succ_lt_succ h)
theorem runL_end {p : UInt8 → Bool} : ∀ {s : List UInt8}, runL p s < s.length → p (byteAt s (runL p s)) = false
  | [], h => absurd h (Nat.not_lt_zero _)
  | c :: s, h => by
    unfold runL at h ⊢
    cases hc : p c with
    | false => exact hc
    | true =>
      rw [hc] at h
      exact runL_end (s := s) (Nat.lt_of_succ_lt_succ h)
end
end Go.Vai
end
