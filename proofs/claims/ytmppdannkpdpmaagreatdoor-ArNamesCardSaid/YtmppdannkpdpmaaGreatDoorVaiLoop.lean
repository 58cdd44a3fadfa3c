/- Functions of plain values that leave nothing behind, by a triple on their body; small laws of byte texts. -/
import Derived.Test.YtmppdannkpdpmaaGreatDoorVaiH
import Derived.Test.YtmppdannkpdpmaaGreatDoorVaiG
section
namespace Go.Vai
noncomputable section
section
variable {P : Program} {gl : List (Nat × List AV)}
def Ztt : AV → AV
  | .iface t (.ptr _ _) => .iface t (.opq none)
  | v => v
theorem Zri {M : List MEnt} {v : AV} {cv : Value} (h : Zm M v cv) : Zm M (Ztt v) cv := by
  unfold Ztt
  split
  · obtain ⟨y, e, h⟩ := h
    obtain ⟨m, _, rfl⟩ := h
    exact ⟨_, e, fun cs e => (by cases e), fun vs e => (by cases e), fun k e => (by cases e)⟩
  · exact h
def Ze3 : AV → AV
  | .tup [x, y] => .tup [x, Ztt y]
  | v => v
theorem Zi0 {M : List MEnt} {v : AV} {cv : Value} (h : Zm M v cv) : Zm M (Ze3 v) cv := by
  unfold Ze3
  split
  · obtain ⟨vs, e, h⟩ := h
    match vs, h with
    | [a, b], ⟨h1, h2, _⟩ => exact ⟨_, e, h1, Zri h2, trivial⟩
  · exact h
def jW : TRes → Wc → Option AV
  | .call (.ret v _), _ => Vq 0 [] (Ze3 v)
  | _, _ => none
theorem Zlp {F : Nat → List AV → Option AV}
    (hF : ∀ f args v, F f args = some v → ∃ (E : Env) (n : Nat) (s : Smk AV), Qb E s ∧ (∀ w, Ya gl w → EnvOk E P (Kept gl w)) ∧ (gl.all fun x => Nat.blt x.1 E.ng) = true ∧ (E.fn f).isSome = true ∧ (∀ a ∈ args, Plain a) ∧ ∃ o, Zn E s Zu n (.call f args (W4 E.ng gl)) o jW = some v) : Vt P gl (Z2 F) := by
  intro f args H v H' M w cargs hs hw hr ha
  unfold Z2 at hs
  cases hF' : F f args with
  | none => rw [hF'] at hs; cases hs
  | some u =>
    rw [hF'] at hs
    have hs : some (u, H) = some (v, H') := hs
    simp only [Option.some.injEq, Prod.mk.injEq] at hs
    obtain ⟨rfl, rfl⟩ := hs
    obtain ⟨E, n, s, hs, hE, hgl, h1, h2, o, h3⟩ := hF f args _ hF'
    obtain ⟨x, o', e, hk⟩ := Xq E hs Zu n _ _ _ _ h3
    cases x with
    | code a b c => cases hk
    | dcall a => cases hk
    | call c =>
      cases c with
      | pan v H => cases hk
      | ret v1 H1 =>
        have hk : Vq 0 [] (Ze3 v1) = some u := hk
        have b : Za7 P gl f cargs fun x _ => x = Ze3 v1 := fun w hw => by
          obtain ⟨b1, b2⟩ := Ze6 hE hgl h1 (Zs.anyPlain h2 ha _) e w hw
          refine ⟨b1, CallsIn.mono b2 ?_⟩
          rintro e w' ⟨cv, v2, H2, M2, rfl, x1, x2, x3, rfl, rfl⟩
          exact ⟨cv, _, _, M2, rfl, x1, x2, Zi0 x3, rfl⟩
        refine Za7.calls (os := []) b hw hr ?_
        rintro v2 H2 rfl
        exact ⟨[], List.nodup_nil, rfl, by rw [Zj5]; exact hk, fun j x hx => by simp at hx⟩
theorem Zqi {F : Nat → List AV → Option AV}
    (hF : ∀ f args v, F f args = some v → ∃ (E : Env) (fn : AFunc), (∀ w, Ya gl w → EnvOk E P (Kept gl w)) ∧ (gl.all fun x => Nat.blt x.1 E.ng) = true ∧ E.fn f = some fn ∧ (∀ a ∈ args, Plain a) ∧ Plain v ∧
      ∀ w, Ya gl w → Wv E P (Kept gl w) none fn.body (Xb fn args) (Z6 E.ng []) fun e fr H => (e = .normal ∨ e = .ret) ∧ fr.df = [] ∧ ∃ l, Q6 E fr.t H fn.results = some l ∧ Ze3 (Zd0 l) = v) : Vt P gl (Z2 F) := by
  intro f args H v H' M w cargs hs hw hr ha
  unfold Z2 at hs
  cases hF' : F f args with
  | none => rw [hF'] at hs; cases hs
  | some u =>
    rw [hF'] at hs
    have hs : some (u, H) = some (v, H') := hs
    simp only [Option.some.injEq, Prod.mk.injEq] at hs
    obtain ⟨rfl, rfl⟩ := hs
    obtain ⟨E, fn, hE, hgl, hf, hp, hv, ht⟩ := hF f args _ hF'
    have b : Za7 P gl f cargs fun x _ => x = u := fun w hw => by
      have b1 := Zvo (R := fun x _ => Ze3 x = u) hE hgl hf (Zs.anyPlain hp ha _) fun w hw => Wv.ren (Yg hw) (Zq6 hp) (ht w hw)
      obtain ⟨b2, b3⟩ := b1 w hw
      refine ⟨b2, CallsIn.mono b3 ?_⟩
      rintro e w' ⟨cv, v2, H2, M2, rfl, x1, x2, x3, rfl⟩
      exact ⟨cv, _, _, M2, rfl, x1, x2, Zi0 x3, rfl⟩
    refine Za7.calls (os := []) b hw hr ?_
    rintro v2 H2 rfl
    exact ⟨[], List.nodup_nil, rfl, hv _ _, fun j x hx => by simp at hx⟩
end
theorem Zx3 {b : Nat} {keep : List Nat} {x : AV} {c : Bool} (h : Vq b keep x = some (.bool c)) : x = .bool c := by
  cases x <;> simp only [Vq] at h <;> (try split at h) <;> simp_all
mutual
def Zex : AV → Bool
  | .ptr _ _ => false
  | .sl _ _ _ _ => false
  | .yld _ => false
  | .mapv _ => false
  | .fn _ x y => Zap x && Zap y
  | .iface _ x => Zex x
  | .agg l => Zap l
  | .tup l => Zap l
  | _ => true
def Zap : List AV → Bool
  | [] => true
  | v :: l => Zex v && Zap l
end
mutual
theorem Zgt {b : Nat} {keep : List Nat} : ∀ (v : AV), Zex v = true → Vq b keep v = some v
  | .fn f x y, h => by
    simp only [Zex, Bool.and_eq_true] at h
    simp only [Vq, K7 x h.1, K7 y h.2]
  | .iface t x, h => by
    simp only [Zex] at h
    simp only [Vq, Zgt x h]
  | .agg l, h => by
    simp only [Zex] at h
    simp only [Vq, K7 l h]
  | .tup l, h => by
    simp only [Zex] at h
    simp only [Vq, K7 l h]
  | .nilm, _ | .opq _, _ | .ext _ _ _ _ _ _, _ | .bool _, _ | .int _ _, _ | .str _, _ | .nilp, _ | .nils, _ | .sl0, _ | .nilf, _ | .nili, _ => by simp only [Vq]
theorem K7 {b : Nat} {keep : List Nat} : ∀ (l : List AV), Zap l = true → Zat b keep l = some l
  | [], _ => rfl
  | v :: l, h => by
    simp only [Zap, Bool.and_eq_true] at h
    simp only [Zat, Zgt v h.1, K7 l h.2]
end
theorem Zoh {v : AV} (h : Zex v = true) : Plain v := fun _ _ => Zgt v h
theorem V3 {l : List AV} (h : Zap l = true) : ∀ v ∈ l, Plain v := by
  induction l with
  | nil => intro v hv; cases hv
  | cons a l ih =>
    simp only [Zap, Bool.and_eq_true] at h
    intro v hv
    rcases List.mem_cons.1 hv with rfl | hv
    · exact Zoh h.1
    · exact ih h.2 v hv
def Zhl (d : List Nat) (n : Nat) : List (Nat × List Nat) → List Nat := List.rec (motive := fun _ => List Nat) d fun x _ ih => Bool.rec (motive := fun _ => List Nat) ih x.2 (Nat.beq x.1 n)
def Zsu (ng : Nat) (S : List Nat) (kf : List (Nat × List Nat)) : KC Leaf := fun e fr H => Vb ng S (Zhl (List.range ng) H.next kf) e fr H
theorem Zic {d : List Nat} {n : Nat} : ∀ {l : List (Nat × List Nat)}, Zhl d n l = d ∨ ∃ m, (m, Zhl d n l) ∈ l
  | [] => .inl rfl
  | x :: l => by
    show (Bool.rec (motive := fun _ => List Nat) (Zhl d n l) x.2 (Nat.beq x.1 n) = d) ∨ ∃ m, (m, Bool.rec (motive := fun _ => List Nat) (Zhl d n l) x.2 (Nat.beq x.1 n)) ∈ x :: l
    cases Nat.beq x.1 n with
    | true => exact .inr ⟨x.1, List.mem_cons_self⟩
    | false =>
      rcases Zic (d := d) (n := n) (l := l) with h | ⟨m, h⟩
      · exact .inl h
      · exact .inr ⟨m, List.mem_cons_of_mem _ h⟩
def Zm0 (ng : Nat) (kf : List (Nat × List Nat)) : Bool := Wp ng (List.range ng) && kf.all fun x => Wp ng x.2
theorem Zdh {ng n : Nat} {S : List Nat} {kf : List (Nat × List Nat)} {e e0 : AExit} {fr : AFr} {H : AHeap} {vs : List AV} {os os2 : List AObj} (h : Zsu ng S kf e fr H = some ⟨e0, n, false, true, true, vs.map some, os.map some⟩) (hk : Zm0 ng kf = true) (hl : os2.length = os.length)
    (hr : ∀ keep, Wp ng keep = true → ∀ (j : Nat) o o2, os[j]? = some o → os2[j]? = some o2 → Q9 0 keep o o2) : e = e0 ∧ ∃ keep, Ren ng keep fr H (Yq n S vs) (Z6 ng os2) := by
  have h := h
  unfold Zsu at h
  unfold Zm0 at hk
  rw [Bool.and_eq_true] at hk
  have hk2 : Wp ng (Zhl (List.range ng) H.next kf) = true := by
    rcases Zic (d := List.range ng) (n := H.next) (l := kf) with e | ⟨m, e⟩
    · rw [e]; exact hk.1
    · exact List.all_eq_true.1 hk.2 _ e
  generalize Zhl (List.range ng) H.next kf = keep at h hk2
  have hkl : keep.length = ng + os.length := by
    have h2 := h
    simp only [Vb, Option.some.injEq, Leaf.mk.injEq] at h2
    obtain ⟨_, _, _, _, _, _, h6⟩ := h2
    have h7 := congrArg List.length h6
    simp only [List.length_map, List.length_drop] at h7
    have : ng ≤ keep.length := by
      have hk3 := hk2
      simp only [Wp, Bool.and_eq_true, List.all_eq_true, List.mem_range, beq_iff_eq] at hk3
      cases hn : ng with
      | zero => exact Nat.zero_le _
      | succ m =>
        have := hk3.1 m (by omega)
        have := (List.getElem?_eq_some_iff.1 this).1
        omega
    omega
  obtain ⟨rfl, ren⟩ := J6 h hk2 hl hkl (hr keep hk2)
  exact ⟨rfl, keep, ren⟩
def pO : Nat → Nat → Wc := fun n => Nat.rec (motive := fun _ => Nat → Wc) (fun _ => []) (fun _ ih k => Nat.beq (Nat.mod k 2) 1 :: ih (Nat.div k 2)) n
def Yk {α : Type} (E : Env) (cl : PCl α) (l : List Code) : CP α := List.rec (motive := fun _ => CP α) (fun k => k .normal) (fun c _ K k => J5 E Zu cl c (Zx5 K k)) l
theorem Zfb {α : Type} {E : Env} {cl : PCl α} {ih : Task → Option TRes} (hc : POk cl ih) : ∀ (l : List Code) (k : PC α) (fr : AFr) (H : AHeap) (o : Wc) (r : α), Yk E cl l k fr H o = some r → ∃ e fr' H' o', Zes E ih l fr H = some (.code e fr' H') ∧ k e fr' H' o' = some r := by
  intro l
  induction l with
  | nil => intro k fr H o r h; exact ⟨_, _, _, _, rfl, h⟩
  | cons c l ihl =>
    intro k fr H o r h
    have h' : J5 E Zu cl c (Zx5 (Yk E cl l) k) fr H o = some r := h
    obtain ⟨e, fr1, H1, o1, e1, e2⟩ := Vu hc c _ fr H o r h'
    simp only [Zes, e1]
    cases e with
    | normal => exact ihl k fr1 H1 o1 r e2
    | exit i => exact ⟨_, _, _, _, rfl, e2⟩
    | ret => exact ⟨_, _, _, _, rfl, e2⟩
    | panic v => exact ⟨_, _, _, _, rfl, e2⟩
def Xf (ng : Nat) (S : List Nat) (kf : List (Nat × List Nat)) : PC Leaf := fun e fr H _ => Zsu ng S kf e fr H
section
variable {E : Env} {P : Program} {I : List MEnt → AHeap → World → Prop} {ro : Option Nat}
theorem Yc.leafPC (hE : EnvOk E P I) {cl : PCl Leaf} {d : Nat} (hc : POk cl (Go.Vai.run E d)) {l : List Code} {fr : AFr} {H : AHeap} {o : Wc} {S : List Nat} {kf : List (Nat × List Nat)} {e : AExit} {n : Nat} {vs : List AV} {os os2 : List AObj} {Q : TQ}
    (h : Yk E cl l (Xf E.ng S kf) fr H o = lf e n (vs.map some) (os.map some)) (hk : Zm0 E.ng kf = true) (hl : os2.length = os.length)
    (hr : ∀ keep, Wp E.ng keep = true → ∀ (j : Nat) o o2, os[j]? = some o → os2[j]? = some o2 → Q9 0 keep o o2) (hm : ∀ fr' H' keep, Ren E.ng keep fr' H' (Yq n S vs) (Z6 E.ng os2) → Q e fr' H') : Yc E P I ro l fr H Q := by
  obtain ⟨e1, fr', H', o', e2, e3⟩ := Zfb hc l _ fr H o _ h
  obtain ⟨rfl, keep, ren⟩ := Zdh e3 hk hl hr
  have := Yc.run (m := []) hE (Qk hE _) (ro := ro) (Q := Q) e2 (by
    cases e1 with
    | normal => exact .inl ⟨rfl, Yc.nil (hm _ _ _ ren)⟩
    | _ => exact .inr ⟨(by intro h; cases h), hm _ _ _ ren⟩)
  rwa [List.append_nil] at this
theorem Yc.leafPX (hE : EnvOk E P I) (hI : Carried I) {cl : PCl Leaf} {d : Nat} (hc : POk cl (Go.Vai.run E d)) {l m : List Code} {fr : AFr} {H : AHeap} {o : Wc} {S : List Nat} {kf : List (Nat × List Nat)} {e : AExit} {n : Nat} {vs : List AV} {os os2 : List AObj} {Q : TQ}
    (h : Yk E cl l (Xf E.ng S kf) fr H o = lf e n (vs.map some) (os.map some)) (hk : Zm0 E.ng kf = true) (hl : os2.length = os.length)
    (hr : ∀ keep, Wp E.ng keep = true → ∀ (j : Nat) o o2, os[j]? = some o → os2[j]? = some o2 → Q9 0 keep o o2)
    (hm : (e = .normal ∧ Yc E P I ro m (Yq n S vs) (Z6 E.ng os2) Q) ∨ (e ≠ .normal ∧ ∀ fr' H' keep, Ren E.ng keep fr' H' (Yq n S vs) (Z6 E.ng os2) → Q e fr' H')) : Yc E P I ro (l ++ m) fr H Q := by
  obtain ⟨e1, fr', H', o', e2, e3⟩ := Zfb hc l _ fr H o _ h
  obtain ⟨rfl, keep, ren⟩ := Zdh e3 hk hl hr
  refine Yc.run hE (Qk hE _) e2 ?_
  rcases hm with ⟨rfl, hm⟩ | ⟨hne, hm⟩
  · exact .inl ⟨rfl, Yc.ren hI ren hm⟩
  · exact .inr ⟨hne, hm _ _ _ ren⟩
end
theorem Ztr {os : List AObj} (h : ∀ o ∈ os, ∃ n t e g fz ro mk, o = .cells n t e g fz ro mk ∧ Zgc t) {keep : List Nat} : ∀ (j : Nat) o o2, os[j]? = some o → os[j]? = some o2 → Q9 0 keep o o2 := by
  intro j o o2 h1 h2
  rw [h1] at h2; cases h2
  obtain ⟨n, t, e, g, fz, ro, mk, rfl, ht⟩ := h o (List.mem_of_getElem? h1)
  exact Zni ht
theorem Zo8 : ∀ (s : List UInt8) (i : Nat), nth s i = s[i]?
  | [], _ => rfl
  | _ :: _, 0 => rfl
  | _ :: s, i + 1 => Zo8 s i
theorem Zp1 {s : List UInt8} {i : Nat} (h : i < s.length) : Ke s i = s[i] := by
  unfold Ke
  rw [Zo8, List.getElem?_eq_getElem h]; rfl
end
end Go.Vai
end
