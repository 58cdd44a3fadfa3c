/- Functions of plain values that leave nothing behind, by a triple on their body; small laws of byte texts. -/
import Derived.Test.YtdpkmhnpbbapcaaDoorVaiH
import Derived.Test.YtdpkmhnpbbapcaaDoorVaiG
section
namespace Go.Vai
noncomputable section
section
variable {P : Program} {gl : List (Nat × List AV)}
def Zy7 : AV → AV
  | .iface t (.ptr _ _) => .iface t (.opq none)
  | v => v
theorem Zxa {M : List MEnt} {v : AV} {cv : Value} (h : Zj M v cv) : Zj M (Zy7 v) cv := by
  unfold Zy7
  split
  · obtain ⟨y, e, h⟩ := h
    obtain ⟨m, _, rfl⟩ := h
    exact ⟨_, e, fun cs e => (by cases e), fun vs e => (by cases e), fun k e => (by cases e)⟩
  · exact h
def Vf : AV → AV
  | .tup [x, y] => .tup [x, Zy7 y]
  | v => v
theorem Zmm {M : List MEnt} {v : AV} {cv : Value} (h : Zj M v cv) : Zj M (Vf v) cv := by
  unfold Vf
  split
  · obtain ⟨vs, e, h⟩ := h
    match vs, h with
    | [a, b], ⟨h1, h2, _⟩ => exact ⟨_, e, h1, Zxa h2, trivial⟩
  · exact h
def jW : TRes → Wh → Option AV
  | .call (.ret v _), _ => X0 0 [] (Vf v)
  | _, _ => none
theorem Yho {F : Nat → List AV → Option AV}
    (hF : ∀ f args v, F f args = some v → ∃ (E : Env) (n : Nat) (s : Smk AV), Vj E s ∧ (∀ w, Yf gl w → EnvOk E P (Kept gl w)) ∧ (gl.all fun x => Nat.blt x.1 E.ng) = true ∧ (E.fn f).isSome = true ∧ (∀ a ∈ args, Plain a) ∧ ∃ o, Zk E s Zn n (.call f args (Xf E.ng gl)) o jW = some v) : Qm P gl (Zx F) := by
  intro f args H v H' M w cargs hs hw hr ha
  unfold Zx at hs
  cases hF' : F f args with
  | none => rw [hF'] at hs; cases hs
  | some u =>
    rw [hF'] at hs
    have hs : some (u, H) = some (v, H') := hs
    simp only [Option.some.injEq, Prod.mk.injEq] at hs
    obtain ⟨rfl, rfl⟩ := hs
    obtain ⟨E, n, s, hs, hE, hgl, h1, h2, o, h3⟩ := hF f args _ hF'
    obtain ⟨x, o', e, hk⟩ := Xs E hs Zn n _ _ _ _ h3
    cases x with
    | code a b c => cases hk
    | dcall a => cases hk
    | call c =>
      cases c with
      | pan v H => cases hk
      | ret v1 H1 =>
        have hk : X0 0 [] (Vf v1) = some u := hk
        have b : X6 P gl f cargs fun x _ => x = Vf v1 := fun w hw => by
          obtain ⟨b1, b2⟩ := Zhu hE hgl h1 (Zq.anyPlain h2 ha _) e w hw
          refine ⟨b1, CallsIn.mono b2 ?_⟩
          rintro e w' ⟨cv, v2, H2, M2, rfl, x1, x2, x3, rfl, rfl⟩
          exact ⟨cv, _, _, M2, rfl, x1, x2, Zmm x3, rfl⟩
        refine X6.calls (os := []) b hw hr ?_
        rintro v2 H2 rfl
        exact ⟨[], List.nodup_nil, rfl, by rw [Ziu]; exact hk, fun j x hx => by simp at hx⟩
theorem Km {F : Nat → List AV → Option AV}
    (hF : ∀ f args v, F f args = some v → ∃ (E : Env) (fn : AFunc), (∀ w, Yf gl w → EnvOk E P (Kept gl w)) ∧ (gl.all fun x => Nat.blt x.1 E.ng) = true ∧ E.fn f = some fn ∧ (∀ a ∈ args, Plain a) ∧ Plain v ∧
      ∀ w, Yf gl w → Yk E P (Kept gl w) none fn.body (Z8 fn args) (Zs E.ng []) fun e fr H => (e = .normal ∨ e = .ret) ∧ fr.df = [] ∧ ∃ l, Xm E fr.t H fn.results = some l ∧ Vf (Ja l) = v) : Qm P gl (Zx F) := by
  intro f args H v H' M w cargs hs hw hr ha
  unfold Zx at hs
  cases hF' : F f args with
  | none => rw [hF'] at hs; cases hs
  | some u =>
    rw [hF'] at hs
    have hs : some (u, H) = some (v, H') := hs
    simp only [Option.some.injEq, Prod.mk.injEq] at hs
    obtain ⟨rfl, rfl⟩ := hs
    obtain ⟨E, fn, hE, hgl, hf, hp, hv, ht⟩ := hF f args _ hF'
    have b : X6 P gl f cargs fun x _ => x = u := fun w hw => by
      have b1 := Zec (R := fun x _ => Vf x = u) hE hgl hf (Zq.anyPlain hp ha _) fun w hw => Yk.ren (Zt hw) (Jg hp) (ht w hw)
      obtain ⟨b2, b3⟩ := b1 w hw
      refine ⟨b2, CallsIn.mono b3 ?_⟩
      rintro e w' ⟨cv, v2, H2, M2, rfl, x1, x2, x3, rfl⟩
      exact ⟨cv, _, _, M2, rfl, x1, x2, Zmm x3, rfl⟩
    refine X6.calls (os := []) b hw hr ?_
    rintro v2 H2 rfl
    exact ⟨[], List.nodup_nil, rfl, hv _ _, fun j x hx => by simp at hx⟩
end
theorem Zi3 {b : Nat} {keep : List Nat} {x : AV} {k : IntKind} {n : Int} (h : X0 b keep x = some (.int k n)) : x = .int k n := by
  cases x <;> simp only [X0] at h <;> (try split at h) <;> simp_all
mutual
def J9 : AV → Bool
  | .ptr _ _ => false
  | .sl _ _ _ _ => false
  | .yld _ => false
  | .mapv _ => false
  | .fn _ x y => Zab x && Zab y
  | .iface _ x => J9 x
  | .agg l => Zab l
  | .tup l => Zab l
  | _ => true
def Zab : List AV → Bool
  | [] => true
  | v :: l => J9 v && Zab l
end
mutual
theorem Zf4 {b : Nat} {keep : List Nat} : ∀ (x v : AV), J9 v = true → X0 b keep x = some v → x = v
  | .ptr _ _, v, hv, h => by simp only [X0] at h; split at h <;> cases h; cases hv
  | .sl _ _ _ _, v, hv, h => by simp only [X0] at h; split at h <;> cases h; cases hv
  | .yld _, v, hv, h => by simp only [X0] at h; split at h <;> cases h; cases hv
  | .mapv _, v, hv, h => by simp only [X0] at h; split at h <;> cases h; cases hv
  | .nilm, v, _, h => by simp only [X0, Option.some.injEq] at h; exact h
  | .opq _, v, _, h => by simp only [X0, Option.some.injEq] at h; exact h
  | .ext _ _ _ _ _ _, v, _, h => by simp only [X0, Option.some.injEq] at h; exact h
  | .fn f x y, v, hv, h => by
    simp only [X0] at h
    split at h
    · rename_i x' y' h1 h2
      cases h
      simp only [J9, Bool.and_eq_true] at hv
      rw [Zdf x x' hv.1 h1, Zdf y y' hv.2 h2]
    · cases h
  | .iface t x, v, hv, h => by
    simp only [X0] at h
    split at h
    · rename_i y h1
      cases h
      simp only [J9] at hv
      rw [Zf4 x y hv h1]
    · cases h
  | .agg l, v, hv, h => by
    simp only [X0] at h
    split at h
    · rename_i y h1
      cases h
      simp only [J9] at hv
      rw [Zdf l y hv h1]
    · cases h
  | .tup l, v, hv, h => by
    simp only [X0] at h
    split at h
    · rename_i y h1
      cases h
      simp only [J9] at hv
      rw [Zdf l y hv h1]
    · cases h
  | .bool _, v, _, h => by simp only [X0, Option.some.injEq] at h; exact h
  | .int _ _, v, _, h => by simp only [X0, Option.some.injEq] at h; exact h
  | .str _, v, _, h => by simp only [X0, Option.some.injEq] at h; exact h
  | .nilp, v, _, h => by simp only [X0, Option.some.injEq] at h; exact h
  | .nils, v, _, h => by simp only [X0, Option.some.injEq] at h; exact h
  | .sl0, v, _, h => by simp only [X0, Option.some.injEq] at h; exact h
  | .nilf, v, _, h => by simp only [X0, Option.some.injEq] at h; exact h
  | .nili, v, _, h => by simp only [X0, Option.some.injEq] at h; exact h
theorem Zdf {b : Nat} {keep : List Nat} : ∀ (x v : List AV), Zab v = true → V7 b keep x = some v → x = v
  | [], v, _, h => by simp only [V7, Option.some.injEq] at h; exact h
  | a :: l, v, hv, h => by
    simp only [V7] at h
    split at h
    · rename_i a' l' h1 h2
      cases h
      simp only [Zab, Bool.and_eq_true] at hv
      rw [Zf4 a a' hv.1 h1, Zdf l l' hv.2 h2]
    · cases h
end
mutual
theorem Zdl {b : Nat} {keep : List Nat} : ∀ (v : AV), J9 v = true → X0 b keep v = some v
  | .fn f x y, h => by
    simp only [J9, Bool.and_eq_true] at h
    simp only [X0, Zbk x h.1, Zbk y h.2]
  | .iface t x, h => by
    simp only [J9] at h
    simp only [X0, Zdl x h]
  | .agg l, h => by
    simp only [J9] at h
    simp only [X0, Zbk l h]
  | .tup l, h => by
    simp only [J9] at h
    simp only [X0, Zbk l h]
  | .nilm, _ | .opq _, _ | .ext _ _ _ _ _ _, _ | .bool _, _ | .int _ _, _ | .str _, _ | .nilp, _ | .nils, _ | .sl0, _ | .nilf, _ | .nili, _ => by simp only [X0]
theorem Zbk {b : Nat} {keep : List Nat} : ∀ (l : List AV), Zab l = true → V7 b keep l = some l
  | [], _ => rfl
  | v :: l, h => by
    simp only [Zab, Bool.and_eq_true] at h
    simp only [V7, Zdl v h.1, Zbk l h.2]
end
theorem Ji {v : AV} (h : J9 v = true) : Plain v := fun _ _ => Zdl v h
theorem Va {E : Env} {ng n : Nat} {keep S : List Nat} {fr : AFr} {H H' : AHeap} {vs : List AV} (r : Ren ng keep fr H (Zd n S vs) H') : ∀ {ts : List Nat} {l : List AV}, ts.map (fun t => (Zd n S vs).t.get t) = l.map some → Zab l = true → Xm E fr.t H (ts.map .tmp) = some l
  | [], [], _, _ => rfl
  | [], _ :: _, h, _ => by simp at h
  | _ :: _, [], h, _ => by simp at h
  | t :: ts, v :: l, h, hf => by
    simp only [List.map_cons, List.cons.injEq] at h
    simp only [Zab, Bool.and_eq_true] at hf
    obtain ⟨x, h1, h2⟩ := r.t t v h.1
    have hx := Zf4 x v hf.1 h2
    subst hx
    have := Va (E := E) r h.2 hf.2
    simp only [List.map_cons, Xm, h1, this]
def Zek (d : List Nat) (n : Nat) : List (Nat × List Nat) → List Nat := List.rec (motive := fun _ => List Nat) d fun x _ ih => Bool.rec (motive := fun _ => List Nat) ih x.2 (Nat.beq x.1 n)
def Jw (ng : Nat) (S : List Nat) (kf : List (Nat × List Nat)) : KC Leaf := fun e fr H => Yj ng S (Zek (List.range ng) H.next kf) e fr H
theorem Zg3 {d : List Nat} {n : Nat} : ∀ {l : List (Nat × List Nat)}, Zek d n l = d ∨ ∃ m, (m, Zek d n l) ∈ l
  | [] => .inl rfl
  | x :: l => by
    show (Bool.rec (motive := fun _ => List Nat) (Zek d n l) x.2 (Nat.beq x.1 n) = d) ∨ ∃ m, (m, Bool.rec (motive := fun _ => List Nat) (Zek d n l) x.2 (Nat.beq x.1 n)) ∈ x :: l
    cases Nat.beq x.1 n with
    | true => exact .inr ⟨x.1, List.mem_cons_self⟩
    | false =>
      rcases Zg3 (d := d) (n := n) (l := l) with h | ⟨m, h⟩
      · exact .inl h
      · exact .inr ⟨m, List.mem_cons_of_mem _ h⟩
def Zde (ng : Nat) (kf : List (Nat × List Nat)) : Bool := Ww ng (List.range ng) && kf.all fun x => Ww ng x.2
theorem Zcd {ng n : Nat} {S : List Nat} {kf : List (Nat × List Nat)} {e e0 : AExit} {fr : AFr} {H : AHeap} {vs : List AV} {os os2 : List AObj} (h : Jw ng S kf e fr H = some ⟨e0, n, false, true, true, vs.map some, os.map some⟩) (hk : Zde ng kf = true) (hl : os2.length = os.length)
    (hr : ∀ keep, Ww ng keep = true → ∀ (j : Nat) o o2, os[j]? = some o → os2[j]? = some o2 → We 0 keep o o2) : e = e0 ∧ ∃ keep, Ren ng keep fr H (Zd n S vs) (Zs ng os2) := by
  have h := h
  unfold Jw at h
  unfold Zde at hk
  rw [Bool.and_eq_true] at hk
  have hk2 : Ww ng (Zek (List.range ng) H.next kf) = true := by
    rcases Zg3 (d := List.range ng) (n := H.next) (l := kf) with e | ⟨m, e⟩
    · rw [e]; exact hk.1
    · exact List.all_eq_true.1 hk.2 _ e
  generalize Zek (List.range ng) H.next kf = keep at h hk2
  have hkl : keep.length = ng + os.length := by
    have h2 := h
    simp only [Yj, Option.some.injEq, Leaf.mk.injEq] at h2
    obtain ⟨_, _, _, _, _, _, h6⟩ := h2
    have h7 := congrArg List.length h6
    simp only [List.length_map, List.length_drop] at h7
    have : ng ≤ keep.length := by
      have hk3 := hk2
      simp only [Ww, Bool.and_eq_true, List.all_eq_true, List.mem_range, beq_iff_eq] at hk3
      cases hn : ng with
      | zero => exact Nat.zero_le _
      | succ m =>
        have := hk3.1 m (by omega)
        have := (List.getElem?_eq_some_iff.1 this).1
        omega
    omega
  obtain ⟨rfl, ren⟩ := Jx h hk2 hl hkl (hr keep hk2)
  exact ⟨rfl, keep, ren⟩
def pO : Nat → Nat → Wh := fun n => Nat.rec (motive := fun _ => Nat → Wh) (fun _ => []) (fun _ ih k => Nat.beq (Nat.mod k 2) 1 :: ih (Nat.div k 2)) n
def Zh {α : Type} (E : Env) (cl : PCl α) (l : List Code) : CP α := List.rec (motive := fun _ => CP α) (fun k => k .normal) (fun c _ K k => J8 E Zn cl c (Zwq K k)) l
theorem Qs {α : Type} {E : Env} {cl : PCl α} {ih : Task → Option TRes} (hc : POk cl ih) : ∀ (l : List Code) (k : PC α) (fr : AFr) (H : AHeap) (o : Wh) (r : α), Zh E cl l k fr H o = some r → ∃ e fr' H' o', Zau E ih l fr H = some (.code e fr' H') ∧ k e fr' H' o' = some r := by
  intro l
  induction l with
  | nil => intro k fr H o r h; exact ⟨_, _, _, _, rfl, h⟩
  | cons c l ihl =>
    intro k fr H o r h
    have h' : J8 E Zn cl c (Zwq (Zh E cl l) k) fr H o = some r := h
    obtain ⟨e, fr1, H1, o1, e1, e2⟩ := Vn hc c _ fr H o r h'
    simp only [Zau, e1]
    cases e with
    | normal => exact ihl k fr1 H1 o1 r e2
    | exit i => exact ⟨_, _, _, _, rfl, e2⟩
    | ret => exact ⟨_, _, _, _, rfl, e2⟩
    | panic v => exact ⟨_, _, _, _, rfl, e2⟩
def Z5 (ng : Nat) (S : List Nat) (kf : List (Nat × List Nat)) : PC Leaf := fun e fr H _ => Jw ng S kf e fr H
section
variable {E : Env} {P : Program} {I : List MEnt → AHeap → World → Prop} {ro : Option Nat}
theorem Zg.leafPC (hE : EnvOk E P I) {cl : PCl Leaf} {d : Nat} (hc : POk cl (Go.Vai.run E d)) {l : List Code} {fr : AFr} {H : AHeap} {o : Wh} {S : List Nat} {kf : List (Nat × List Nat)} {e : AExit} {n : Nat} {vs : List AV} {os os2 : List AObj} {Q : TQ}
    (h : Zh E cl l (Z5 E.ng S kf) fr H o = lf e n (vs.map some) (os.map some)) (hk : Zde E.ng kf = true) (hl : os2.length = os.length)
    (hr : ∀ keep, Ww E.ng keep = true → ∀ (j : Nat) o o2, os[j]? = some o → os2[j]? = some o2 → We 0 keep o o2) (hm : ∀ fr' H' keep, Ren E.ng keep fr' H' (Zd n S vs) (Zs E.ng os2) → Q e fr' H') : Zg E P I ro l fr H Q := by
  obtain ⟨e1, fr', H', o', e2, e3⟩ := Qs hc l _ fr H o _ h
  obtain ⟨rfl, keep, ren⟩ := Zcd e3 hk hl hr
  have := Zg.run (m := []) hE (Xv hE _) (ro := ro) (Q := Q) e2 (by
    cases e1 with
    | normal => exact .inl ⟨rfl, Zg.nil (hm _ _ _ ren)⟩
    | _ => exact .inr ⟨(by intro h; cases h), hm _ _ _ ren⟩)
  rwa [List.append_nil] at this
theorem Zg.leafPX (hE : EnvOk E P I) (hI : Carried I) {cl : PCl Leaf} {d : Nat} (hc : POk cl (Go.Vai.run E d)) {l m : List Code} {fr : AFr} {H : AHeap} {o : Wh} {S : List Nat} {kf : List (Nat × List Nat)} {e : AExit} {n : Nat} {vs : List AV} {os os2 : List AObj} {Q : TQ}
    (h : Zh E cl l (Z5 E.ng S kf) fr H o = lf e n (vs.map some) (os.map some)) (hk : Zde E.ng kf = true) (hl : os2.length = os.length)
    (hr : ∀ keep, Ww E.ng keep = true → ∀ (j : Nat) o o2, os[j]? = some o → os2[j]? = some o2 → We 0 keep o o2)
    (hm : (e = .normal ∧ Zg E P I ro m (Zd n S vs) (Zs E.ng os2) Q) ∨ (e ≠ .normal ∧ ∀ fr' H' keep, Ren E.ng keep fr' H' (Zd n S vs) (Zs E.ng os2) → Q e fr' H')) : Zg E P I ro (l ++ m) fr H Q := by
  obtain ⟨e1, fr', H', o', e2, e3⟩ := Qs hc l _ fr H o _ h
  obtain ⟨rfl, keep, ren⟩ := Zcd e3 hk hl hr
  refine Zg.run hE (Xv hE _) e2 ?_
  rcases hm with ⟨rfl, hm⟩ | ⟨hne, hm⟩
  · exact .inl ⟨rfl, Zg.ren hI ren hm⟩
  · exact .inr ⟨hne, hm _ _ _ ren⟩
theorem Zg.leafFC (hE : EnvOk E P I) {cl : Cl Leaf} {d : Nat} (hc : Zcr cl (Go.Vai.run E d)) {l : List Code} {fr : AFr} {H : AHeap} {S : List Nat} {kf : List (Nat × List Nat)} {e : AExit} {n : Nat} {vs : List AV} {os os2 : List AObj} {Q : TQ}
    (h : Zu E cl l (Jw E.ng S kf) fr H = lf e n (vs.map some) (os.map some)) (hk : Zde E.ng kf = true) (hl : os2.length = os.length)
    (hr : ∀ keep, Ww E.ng keep = true → ∀ (j : Nat) o o2, os[j]? = some o → os2[j]? = some o2 → We 0 keep o o2) (hm : ∀ fr' H' keep, Ren E.ng keep fr' H' (Zd n S vs) (Zs E.ng os2) → Q e fr' H') : Zg E P I ro l fr H Q := by
  obtain ⟨e1, fr', H', e2, e3⟩ := Zb3 hc l _ fr H _ h
  obtain ⟨rfl, keep, ren⟩ := Zcd e3 hk hl hr
  have := Zg.run (m := []) hE (Xv hE _) (ro := ro) (Q := Q) e2 (by
    cases e1 with
    | normal => exact .inl ⟨rfl, Zg.nil (hm _ _ _ ren)⟩
    | _ => exact .inr ⟨(by intro h; cases h), hm _ _ _ ren⟩)
  rwa [List.append_nil] at this
end
theorem Yy {os : List AObj} (h : ∀ o ∈ os, ∃ n t e g fz ro mk, o = .cells n t e g fz ro mk ∧ Za4 t) {keep : List Nat} : ∀ (j : Nat) o o2, os[j]? = some o → os[j]? = some o2 → We 0 keep o o2 := by
  intro j o o2 h1 h2
  rw [h1] at h2; cases h2
  obtain ⟨n, t, e, g, fz, ro, mk, rfl, ht⟩ := h o (List.mem_of_getElem? h1)
  exact Zky ht
theorem Jr {α : Type} : ∀ (a b : List α) (t : Tr α) (k : Nat), t.putAll k (a ++ b) = (t.putAll k a).putAll (k + a.length) b
  | [], _, _, _ => rfl
  | x :: a, b, t, k => by
    show (t.set k x).putAll (k + 1) (a ++ b) = ((t.set k x).putAll (k + 1) a).putAll (k + (a.length + 1)) b
    rw [Jr a b, show k + 1 + a.length = k + (a.length + 1) by omega]
theorem Ziv : ∀ (s : List UInt8) (i : Nat), nth s i = s[i]?
  | [], _ => rfl
  | _ :: _, 0 => rfl
  | _ :: s, i + 1 => Ziv s i
theorem Zba {s : List UInt8} {i : Nat} (h : i < s.length) : Za s i = s[i] := by
  unfold Za
  rw [Ziv, List.getElem?_eq_getElem h]; rfl
theorem drop_at {s : List UInt8} {i : Nat} (h : i < s.length) : s.drop i = Za s i :: s.drop (i + 1) := by
  rw [Zba h, List.drop_eq_getElem_cons h]
theorem Y7 (s : List UInt8) (i j : Nat) : Za (s.drop i) j = Za s (i + j) := by
  unfold Za
  rw [Ziv, Ziv, List.getElem?_drop]
def Zi (p : UInt8 → Bool) : List UInt8 → Nat
  | [] => 0
  | c :: s => bif p c then Zi p s + 1 else 0
theorem X4 (p : UInt8 → Bool) : ∀ s, Zi p s ≤ s.length
  | [] => Nat.le_refl _
  | c :: s => by
    unfold Zi
    have := X4 p s
    cases p c
    · exact Nat.zero_le _
    · exact Nat.succ_le_succ this
theorem Zav {p : UInt8 → Bool} : ∀ {s : List UInt8} {k : Nat}, k < Zi p s → p (Za s k) = true
  | [], k, h => absurd h (Nat.not_lt_zero _)
  | c :: s, k, h => by
    unfold Zi at h
    cases hc : p c with
    | false => rw [hc] at h; exact absurd h (Nat.not_lt_zero _)
    | true =>
      rw [hc] at h
      cases k with
      | zero => exact hc
      | succ k => exact Zav (s := s) (Nat.lt_of_succ_lt_succ h)
theorem J1 {p : UInt8 → Bool} : ∀ {s : List UInt8}, Zi p s < s.length → p (Za s (Zi p s)) = false
  | [], h => absurd h (Nat.not_lt_zero _)
  | c :: s, h => by
    unfold Zi at h ⊢
    cases hc : p c with
    | false => exact hc
    | true =>
      rw [hc] at h
      exact J1 (s := s) (Nat.lt_of_succ_lt_succ h)
end
end Go.Vai
end
