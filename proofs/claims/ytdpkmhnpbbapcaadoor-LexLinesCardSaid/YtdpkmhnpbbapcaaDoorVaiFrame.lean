/- A piece of code run in a small memory, laid back into the great one: names turned back, what it did not touch stays. -/
import Derived.Test.YtdpkmhnpbbapcaaDoorVaiLoop
section
namespace Go.Vai
noncomputable section
def wpL (P : Program) (ro : Option Nat) : List Code → (Exit → Act → World → Prop) → Act → World → Prop
  | [], Q => Q .normal
  | c :: cs, Q => fun a w => c.wpIn (FF ro) 0 P (Exit.then (wpL P ro cs Q) Q) a w
theorem X1 {K : Act → World → Prop} {Q : Exit → Act → World → Prop} {x : Exit} {a : Act} {w : World} (h : (x = .normal ∧ K a w) ∨ (x ≠ .normal ∧ Q x a w)) : Exit.then K Q x a w := by
  rcases h with ⟨rfl, h⟩ | ⟨h, hq⟩
  · exact h
  · cases x <;> first | exact absurd rfl h | exact hq
theorem Jl {K : Act → World → Prop} {Q : Exit → Act → World → Prop} {x : Exit} {a : Act} {w : World} (h : Exit.then K Q x a w) : (x = .normal ∧ K a w) ∨ (x ≠ .normal ∧ Q x a w) := by
  cases x with
  | normal => exact .inl ⟨rfl, h⟩
  | _ => exact .inr ⟨(by intro h; cases h), h⟩
theorem Zbf {P : Program} {ro : Option Nat} : ∀ {l : List Code} {Q Q' : Exit → Act → World → Prop} {a : Act} {w : World}, wpL P ro l Q a w → (∀ x a w, Q x a w → Q' x a w) → wpL P ro l Q' a w
  | [], _, _, _, _, h, hq => hq _ _ _ h
  | _ :: _, _, _, _, _, h, hq => wpIn_mono h fun x a w hx => by
    rcases Jl hx with ⟨e, h⟩ | ⟨e, h⟩
    · exact X1 (.inl ⟨e, Zbf h hq⟩)
    · exact X1 (.inr ⟨e, hq _ _ _ h⟩)
theorem Zca {P : Program} {ro : Option Nat} : ∀ {l m : List Code} {Q : Exit → Act → World → Prop} {a : Act} {w : World}, wpL P ro l (Exit.then (wpL P ro m Q) Q) a w → wpL P ro (l ++ m) Q a w
  | [], _, _, _, _, h => h
  | _ :: _, _, _, _, _, h => wpIn_mono h fun x a w hx => by
    rcases Jl hx with ⟨e, h⟩ | ⟨e, h⟩
    · exact X1 (.inl ⟨e, Zca h⟩)
    · refine X1 (.inr ⟨e, ?_⟩)
      rcases Jl h with ⟨e2, _⟩ | ⟨_, h⟩
      · exact absurd e2 e
      · exact h
theorem Zqv {P : Program} {ro : Option Nat} : ∀ (c : Code) {Q : Exit → Act → World → Prop} {a : Act} {w : World}, wpL P ro (flat c) Q a w → c.wpIn (FF ro) 0 P Q a w := by
  have one : ∀ {c : Code} {Q : Exit → Act → World → Prop} {a : Act} {w : World}, wpL P ro [c] Q a w → c.wpIn (FF ro) 0 P Q a w := by
    intro c Q a w h
    refine wpIn_mono h fun x a w hx => ?_
    rcases Jl hx with ⟨e, h⟩ | ⟨_, h⟩
    · subst e; exact h
    · exact h
  have app : ∀ {l m : List Code} {Q : Exit → Act → World → Prop} {a : Act} {w : World}, wpL P ro (l ++ m) Q a w → wpL P ro l (Exit.then (wpL P ro m Q) Q) a w := by
    intro l
    induction l with
    | nil => intro m Q a w h; exact h
    | cons c cs ih =>
      intro m Q a w h
      refine wpIn_mono h fun x a w hx => ?_
      rcases Jl hx with ⟨e, h⟩ | ⟨e, h⟩
      · exact X1 (.inl ⟨e, ih h⟩)
      · exact X1 (.inr ⟨e, X1 (.inr ⟨e, h⟩)⟩)
  intro c
  induction c with
  | seq a b iha ihb =>
    intro Q x w h
    refine wpIn_seq (wpIn_mono (iha (app h)) fun ex a1 w1 hx => ?_)
    rcases Jl hx with ⟨e, h⟩ | ⟨e, h⟩
    · exact X1 (.inl ⟨e, ihb h⟩)
    · exact X1 (.inr ⟨e, h⟩)
  | _ => intro Q a w h; exact one h
section
variable {E : Env} {P : Program} {I : List MEnt → AHeap → World → Prop} {ih : Task → Option TRes} {ro : Option Nat}
def Yd (E : Env) (P : Program) (I : List MEnt → AHeap → World → Prop) (ro : Option Nat) (l : List Code) (fr : AFr) (H : AHeap) (Q : TQ) : Prop :=
  ∀ M w a, St E I M H w → FRel ro M fr a → wpL P ro l (Zbc E I ro Q) a w
theorem Yd.tri {c : Code} {fr : AFr} {H : AHeap} {Q : TQ} (h : Yd E P I ro (flat c) fr H Q) : Yk E P I ro c fr H Q := fun M w a st hf => Zqv c (h M w a st hf)
theorem Yd.nil {fr : AFr} {H : AHeap} {Q : TQ} (h : Q .normal fr H) : Yd E P I ro [] fr H Q := fun M _ _ st hf => ⟨.normal, fr, H, M, h, st, rfl, hf⟩
theorem Yd.mono {l : List Code} {fr : AFr} {H : AHeap} {Q Q' : TQ} (h : Yd E P I ro l fr H Q) (hq : ∀ e fr H, Q e fr H → Q' e fr H) : Yd E P I ro l fr H Q' := fun M w a st hf =>
  Zbf (h M w a st hf) fun _ _ _ ⟨e, fr, H, M, q, r⟩ => ⟨e, fr, H, M, hq _ _ _ q, r⟩
theorem Zjm {l : List Code} {Q : TQ} {ex : Exit} {a : Act} {w : World} (h : Zbc E I ro (fun e fr' H' => (e = .normal ∧ Yd E P I ro l fr' H' Q) ∨ (e ≠ .normal ∧ Q e fr' H')) ex a w) : Exit.then (wpL P ro l (Zbc E I ro Q)) (Zbc E I ro Q) ex a w := by
  obtain ⟨e, fr1, H1, M1, q, s1, er, f1⟩ := h
  rcases q with ⟨rfl, q⟩ | ⟨hne, q⟩
  · simp only [Xr] at er; subst er
    exact q M1 w a s1 f1
  · exact X1 (.inr ⟨fun hx => hne (er.normal.2 hx), e, fr1, H1, M1, q, s1, er, f1⟩)
theorem Yd.cons {c : Code} {l : List Code} {fr : AFr} {H : AHeap} {Q : TQ} (h : Yk E P I ro c fr H fun e fr' H' => (e = .normal ∧ Yd E P I ro l fr' H' Q) ∨ (e ≠ .normal ∧ Q e fr' H')) : Yd E P I ro (c :: l) fr H Q := fun M w a st hf =>
  wpIn_mono (h M w a st hf) fun _ _ _ hx => Zjm hx
theorem Yd.append {l m : List Code} {fr : AFr} {H : AHeap} {Q : TQ} (h : Yd E P I ro l fr H fun e fr' H' => (e = .normal ∧ Yd E P I ro m fr' H' Q) ∨ (e ≠ .normal ∧ Q e fr' H')) : Yd E P I ro (l ++ m) fr H Q := fun M w a st hf =>
  Zca (Zbf (h M w a st hf) fun _ _ _ hx => Zjm hx)
theorem Yd.of : ∀ {l : List Code} {fr : AFr} {H : AHeap} {Q : TQ}, Zg E P I ro l fr H Q → Yd E P I ro l fr H Q
  | [], _, _, _, h => fun M w a st hf => h M w a st hf
  | c :: l, fr, H, Q, h => Yd.cons (Yk.mono (Q' := fun e fr' H' => (e = .normal ∧ Yd E P I ro l fr' H' Q) ∨ (e ≠ .normal ∧ Q e fr' H')) h fun e fr H q => q.imp (fun ⟨a, b⟩ => ⟨a, Yd.of b⟩) id)
theorem Yd.ren (hI : Carried I) {l : List Code} {keep : List Nat} {fr fr' : AFr} {H H' : AHeap} {Q : TQ} (r : Ren E.ng keep fr H fr' H') (h : Yd E P I ro l fr' H' Q) : Yd E P I ro l fr H Q := by
  intro M w a st hf
  obtain ⟨M', s2, f2⟩ := r.to hI st hf
  exact h M' w a s2 f2
theorem Zhp (hE : EnvOk E P I) (hs : Sound E P I ih) : ∀ (l : List Code) (fr : AFr) (H : AHeap) (e : AExit) (fr' : AFr) (H' : AHeap) (M : List MEnt) (w : World) (a : Act),
    Zau E ih l fr H = some (.code e fr' H') → St E I M H w → FRel ro M fr a → wpL P ro l (Ky ro M H w e fr' H') a w := by
  intro l
  induction l with
  | nil =>
    intro fr H e fr' H' M w a h st hf
    simp only [Zau, Option.some.injEq, TRes.code.injEq] at h
    obtain ⟨rfl, rfl, rfl⟩ := h
    exact ⟨M, Ext.refl _ _ _, st.hr, rfl, hf⟩
  | cons c cs ihl =>
    intro fr H e fr' H' M w a h st hf
    simp only [Zau] at h
    split at h
    · rename_i fr1 H1 hc
      refine wpIn_mono (Xd hE hs c fr H _ _ _ M w a hc st hf) ?_
      rintro ex a1 w1 ⟨M1, x1, x2, x3, x4⟩
      simp only [Xr] at x3; subst x3
      exact Zbf (ihl fr1 H1 e fr' H' M1 w1 a1 h (st.next hE x1 x2) x4) fun _ _ _ hp => hp.after x1
    · rename_i hne
      have hen : e ≠ .normal := fun he => by subst he; exact hne _ _ h
      refine wpIn_mono (Xd hE hs c fr H _ _ _ M w a h st hf) ?_
      intro ex a1 w1 hp
      obtain ⟨M1, x1, x2, x3, x4⟩ := hp
      exact X1 (.inr ⟨fun hx => hen (x3.normal.2 hx), M1, x1, x2, x3, x4⟩)
theorem Yk.loopX {X : Type} {c : Code} {fr : X → AFr} {H : X → AHeap} {Inv : X → Prop} (meas : X → Nat) {Q : TQ}
    (body : ∀ x, Inv x → Yk E P I ro c (fr x) (H x) fun e fr' H' => (e = .normal ∧ ∃ x', Inv x' ∧ meas x' < meas x ∧ fr' = fr x' ∧ H' = H x') ∨ (e ≠ .normal ∧ Q e fr' H')) :
    ∀ x, Inv x → Yk E P I ro (.loop c) (fr x) (H x) Q := by
  intro x hx M w a st hf
  refine Zap ?_
  have main : ∀ (n : Nat) (x : X), meas x = n → Inv x → ∀ M w a, St E I M (H x) w → FRel ro M (fr x) a → Zc0 (FF ro) P c (Zbc E I ro Q) a w := by
    intro n
    induction n using Nat.strongRecOn with
    | _ n ihn =>
      intro x hn hx M w a st hf
      refine Zbn (wpIn_mono (body x hx M w a st hf) ?_)
      rintro ex a1 w1 ⟨e, fr1, H1, M1, q, s1, er, f1⟩
      rcases q with ⟨rfl, x', i', hm, rfl, rfl⟩ | ⟨hne, q⟩
      · simp only [Xr] at er; subst er
        exact ihn (meas x') (by omega) x' rfl i' M1 w1 a1 s1 f1
      · have post : Zbc E I ro Q ex a1 w1 := ⟨e, fr1, H1, M1, q, s1, er, f1⟩
        cases e with
        | normal => exact absurd rfl hne
        | exit i => simp only [Xr] at er; subst er; exact post
        | ret => simp only [Xr] at er; subst er; exact post
        | panic v => obtain ⟨cv, rfl, _⟩ := er; exact post
  exact main _ x rfl hx M w a st hf
end
abbrev Tag := Nat × Nat × Nat × Nat × Nat
def Zs3 (x : Tag) : Value := Yb6 x.1 x.2.1 x.2.2.1 x.2.2.2.1 x.2.2.2.2
mutual
def V2 (β : Nat → Nat) (τ : Nat → AV) : AV → AV
  | .ptr i o => .ptr (β i) o
  | .sl i o n c => .sl (β i) o n c
  | .yld i => .yld (β i)
  | .mapv i => .mapv (β i)
  | .fn f x y => .fn f (Zli β τ x) (Zli β τ y)
  | .iface t x => .iface t (V2 β τ x)
  | .agg l => .agg (Zli β τ l)
  | .tup l => .tup (Zli β τ l)
  | .ext j _ _ _ _ _ => τ j
  | .nilm => .nilm
  | .opq o => .opq o
  | .bool t => .bool t
  | .int k n => .int k n
  | .str s => .str s
  | .nilp => .nilp
  | .nils => .nils
  | .sl0 => .sl0
  | .nilf => .nilf
  | .nili => .nili
def Zli (β : Nat → Nat) (τ : Nat → AV) : List AV → List AV
  | [] => []
  | v :: l => V2 β τ v :: Zli β τ l
end
def lfT (β : Nat → Nat) (τ : Nat → AV) : Tr AV → Tr AV
  | .nil => .nil
  | .node v l r => .node (v.map (V2 β τ)) (lfT β τ l) (lfT β τ r)
theorem Zfi (β : Nat → Nat) (τ : Nat → AV) : ∀ (t : Tr AV) (i : Nat), (lfT β τ t).get i = (t.get i).map (V2 β τ) := by
  intro t
  induction t with
  | nil => intro i; rfl
  | node v l r ihl ihr =>
    intro i
    cases i with
    | zero => rfl
    | succ i =>
      simp only [lfT, Tr.get_succ]
      cases Nat.beq (i % 2) 0
      · exact ihr _
      · exact ihl _
def lfE (β : Nat → Nat) (τ : Nat → AV) (x : AV × AV × Nat) : AV × AV × Nat := (V2 β τ x.1, V2 β τ x.2.1, x.2.2)
def lfO (β : Nat → Nat) (τ : Nat → AV) : AObj → AObj
  | .cells n t e g fz ro mk => .cells n (lfT β τ t) e g fz ro mk
  | .loop st p n t ps sa bo d => .loop st p n (lfT β τ t) ps sa bo (β d)
  | .siter s p => .siter s p
  | .dfr => .dfr
  | .mp es c r => .mp (es.map (lfE β τ)) c r
  | .miter m since seen last => .miter (m.map β) since seen last
theorem Z1i (β : Nat → Nat) (τ : Nat → AV) (o : AObj) : (lfO β τ o).isRo = o.isRo := by cases o <;> rfl
mutual
def exV (D : Nat → Prop) (θ : Nat → Tag) : AV → Prop
  | .ext j k b o n c => D j ∧ θ j = (k, b, o, n, c)
  | .fn _ x y => Zso D θ x ∧ Zso D θ y
  | .iface _ x => exV D θ x
  | .agg l => Zso D θ l
  | .tup l => Zso D θ l
  | .ptr _ _ | .sl _ _ _ _ | .yld _ | .mapv _ | .nilm | .opq _ | .bool _ | .int _ _ | .str _ | .nilp | .nils | .sl0 | .nilf | .nili => True
def Zso (D : Nat → Prop) (θ : Nat → Tag) : List AV → Prop
  | [] => True
  | v :: l => exV D θ v ∧ Zso D θ l
end
def exT (D : Nat → Prop) (θ : Nat → Tag) (t : Tr AV) : Prop := ∀ i y, t.get i = some y → exV D θ y
def exO (D : Nat → Prop) (θ : Nat → Tag) : AObj → Prop
  | .cells _ t _ _ _ _ _ => exT D θ t
  | .loop _ _ _ t _ _ _ _ => exT D θ t
  | .mp es _ _ => ∀ x ∈ es, exV D θ x.1 ∧ exV D θ x.2.1
  | _ => True
section
variable {β : Nat → Nat} {τ : Nat → AV} {D : Nat → Prop} {θ : Nat → Tag} {M M' : List MEnt} (hM : ∀ k m, M[k]? = some m → M'[β k]? = some m) (hτ : ∀ j, D j → Zj M' (τ j) (Zs3 (θ j)))
include hM hτ
mutual
theorem Zdz : ∀ (v : AV) (cv : Value), exV D θ v → Zj M v cv → Zj M' (V2 β τ v) cv
  | .ptr i o, cv, _, ⟨m, hm, e⟩ => ⟨m, hM _ _ hm, e⟩
  | .sl i o n c, cv, _, ⟨m, cc, hm, e⟩ => ⟨m, cc, hM _ _ hm, e⟩
  | .yld i, cv, _, ⟨m, hm, e⟩ => ⟨m, hM _ _ hm, e⟩
  | .mapv i, cv, _, ⟨m, hm, e⟩ => ⟨m, hM _ _ hm, e⟩
  | .fn f x y, cv, h, ⟨fs, cs, e, r1, r2⟩ => ⟨fs, cs, e, Zdm x fs h.1 r1, Zdm y cs h.2 r2⟩
  | .iface t x, cv, h, ⟨y, e, r⟩ => ⟨y, e, Zdz x y h r⟩
  | .agg l, cv, h, ⟨vs, e, r⟩ => ⟨vs, e, Zdm l vs h r⟩
  | .tup l, cv, h, ⟨vs, e, r⟩ => ⟨vs, e, Zdm l vs h r⟩
  | .ext j k b o n c, cv, h, r => by
    have h1 := hτ j h.1
    rw [h.2] at h1
    have e : cv = Yb6 k b o n c := r
    rw [e]
    exact h1
  | .nilm, _, _, r => r
  | .opq _, _, _, r => r
  | .bool _, _, _, r => r
  | .int _ _, _, _, r => r
  | .str _, _, _, r => r
  | .nilp, _, _, r => r
  | .nils, _, _, r => r
  | .sl0, _, _, r => r
  | .nilf, _, _, r => r
  | .nili, _, _, r => r
theorem Zdm : ∀ (l : List AV) (vs : List Value), Zso D θ l → Zq M l vs → Zq M' (Zli β τ l) vs
  | [], [], _, _ => (fun _ _ => trivial) hM hτ
  | [], _ :: _, _, r => r.elim
  | _ :: _, [], _, r => r.elim
  | v :: l, c :: vs, h, r => ⟨Zdz v c h.1 r.1, Zdm l vs h.2 r.2⟩
end
theorem Zuj {t : Tr AV} {tmps : Array Value} (hx : exT D θ t) (h : Zai M t tmps) : Zai M' (lfT β τ t) tmps := by
  intro i v hi
  rw [Zfi] at hi
  cases hg : t.get i with
  | none => rw [hg] at hi; cases hi
  | some x =>
    rw [hg] at hi
    cases hi
    obtain ⟨cv, h1, h2⟩ := h i x hg
    exact ⟨cv, h1, Zdz hM hτ x cv (hx i x hg) h2⟩
theorem Zq3 : ∀ (es : List (AV × AV × Nat)) (ces : List MapEntry), (∀ x ∈ es, exV D θ x.1 ∧ exV D θ x.2.1) → Y2 M es ces → Y2 M' (es.map (lfE β τ)) ces
  | [], [], _, _ => trivial
  | [], _ :: _, _, r => r.elim
  | _ :: _, [], _, r => r.elim
  | (_, _, _) :: es, _ :: ces, h, ⟨r1, r2, r3, r4⟩ => ⟨Zdz hM hτ _ _ (h _ List.mem_cons_self).1 r1, Zdz hM hτ _ _ (h _ List.mem_cons_self).2 r2, r3, Zq3 es ces (fun x hx => h x (List.mem_cons_of_mem _ hx)) r4⟩
theorem Z8q {m : MEnt} {w : World} {o : AObj} (hx : exO D θ o) (h : Qf M m w o) : Qf M' m w (lfO β τ o) := by
  cases o with
  | cells n t e g fz ro mk =>
    obtain ⟨cur, e', lo, hi, h1, h2, h3, h4, h5, h6, h7⟩ := h
    refine ⟨cur, e', lo, hi, h1, h2, h3, h4, h5, h6, fun i v hv => ?_⟩
    rw [Zfi] at hv
    cases hg : t.get i with
    | none => rw [hg] at hv; cases hv
    | some x =>
      rw [hg] at hv
      cases hv
      obtain ⟨a, cv, b, c⟩ := h7 i x hg
      exact ⟨a, cv, b, Zdz hM hτ x cv (hx i x hg) c⟩
  | loop st p n t ps sa bo d =>
    obtain ⟨L, h1, h2, h3, h4, h5, h6, h7, h8, d, h9, h10⟩ := h
    exact ⟨L, h1, h2, h3, h4, h5, h6, h7, Zuj hM hτ hx h8, d, hM _ _ h9, h10⟩
  | siter s p => exact h
  | dfr => exact h
  | mp es clock =>
    obtain ⟨ces, h1, h2⟩ := h
    exact ⟨ces, h1, Zq3 hM hτ _ _ hx h2⟩
  | miter mi since seen last =>
    obtain ⟨c, h1, h2, h3⟩ := h
    refine ⟨c, h1, h2, ?_⟩
    cases mi with
    | none => exact h3
    | some i =>
      obtain ⟨m, hm, e⟩ := h3
      exact ⟨m, hM _ _ hm, e⟩
end
def Q9 (K : List Nat) (nx k : Nat) : Nat := match K[k]? with
  | some i => i
  | none => nx + (k - K.length)
theorem Zuu {K : List Nat} {nx k i : Nat} (h : K[k]? = some i) : Q9 K nx k = i := by unfold Q9; rw [h]
theorem Z56 {K : List Nat} {nx k : Nat} (h : K.length ≤ k) : Q9 K nx k = nx + (k - K.length) := by unfold Q9; rw [List.getElem?_eq_none h]
theorem Zlo (F : Nat → Option AObj) : ∀ B : Nat, ∃ t : Tr AObj, ∀ j, t.get j = if j < B then F j else none
  | 0 => ⟨.nil, fun j => rfl⟩
  | B + 1 => by
    obtain ⟨t, ht⟩ := Zlo F B
    refine ⟨Tr.setF (B + 2) t B (F B), fun j => ?_⟩
    have : B + 1 < 2 ^ (B + 2) := by
      have : B + 2 < 2 ^ (B + 2) := Nat.lt_two_pow_self
      omega
    rw [Tr.getF_eq _ _ _ _ _ this]
    by_cases h : j = B
    · subst h; rw [if_pos rfl, if_pos (Nat.lt_succ_self _)]
    · rw [if_neg h, ht j]
      by_cases h2 : j < B
      · rw [if_pos h2, if_pos (by omega)]
      · rw [if_neg h2, if_neg (by omega)]
def isX : AV → Bool
  | .sl _ _ _ _ => true
  | .ptr _ _ => true
  | _ => false
def Zyo (H : AHeap) (pl : Nat → Nat × Nat) (τ : Nat → AV) (j : Nat) : Prop := ∃ n t e g fz ro mk, H.get (pl j).1 = some (.cells n t e g fz ro mk) ∧ t.get (pl j).2 = some (τ j) ∧ isX (τ j) = true
def Zzt (K : List Nat) (D : Nat → Prop) (pl : Nat → Nat × Nat) (τ : Nat → AV) (θ : Nat → Tag) (id i : Nat) (x y : AV) : Prop :=
  X0 0 K x = some y ∨ ∃ j, y = .ext j (θ j).1 (θ j).2.1 (θ j).2.2.1 (θ j).2.2.2.1 (θ j).2.2.2.2 ∧ D j ∧ pl j = (id, i) ∧ x = τ j
def Jc (K : List Nat) (D : Nat → Prop) (pl : Nat → Nat × Nat) (τ : Nat → AV) (θ : Nat → Tag) (id : Nat) (o u : AObj) : Prop :=
  We 0 K o u ∨ (∃ n t e g fz ro mk t', o = .cells n t e g fz ro mk ∧ u = .cells n t' e g fz ro mk ∧ ∀ i y, t'.get i = some y → ∃ x, t.get i = some x ∧ Zzt K D pl τ θ id i x y) ∨
  (∃ n t e g fz ro mk e' g' fz' mk' t', o = .cells n t e g fz ro mk ∧ u = .cells n t' e' g' fz' true mk' ∧ (g' = none ∨ g' = g) ∧ ∀ i y, t'.get i = some y → ∃ x, t.get i = some x ∧ Zzt K D pl τ θ id i x y)
structure RenX (ng : Nat) (K : List Nat) (D : Nat → Prop) (pl : Nat → Nat × Nat) (τ : Nat → AV) (θ : Nat → Tag) (fr : AFr) (H : AHeap) (fr' : AFr) (H' : AHeap) : Prop where
  glob : ∀ g, g < ng → K[g]? = some g
  lt : ∀ i ∈ K, i < H.next
  nodup : K.Nodup
  next : H'.next = K.length
  obj : ∀ k u, H'.get k = some u → ∃ i o, K[k]? = some i ∧ H.get i = some o ∧ Jc K D pl τ θ i o u
  n : fr'.n = fr.n
  rd : fr'.rd = fr.rd
  df : fr.df = [] ∧ fr'.df = []
  t : ∀ i y, fr'.t.get i = some y → ∃ x, fr.t.get i = some x ∧ X0 0 K x = some y
def Z5z (M : List MEnt) (w : World) (D : Nat → Prop) (pl : Nat → Nat × Nat) (τ : Nat → AV) (θ : Nat → Tag) : Prop :=
  ∀ j, D j → Zj M (τ j) (Zs3 (θ j)) ∧ ∀ m cur e r, M[(pl j).1]? = some m → w.heap[m.block]? = some (.cells cur e r) → cur[m.base + (pl j).2]? = some (Zs3 (θ j))
theorem Ye9 {M : List MEnt} {x : AV} {cv : Value} (h : Zj M x cv) (hx : isX x = true) : ∃ t : Tag, cv = Zs3 t := by
  cases x <;> first | (exact absurd hx (by decide)) | skip
  case ptr i o =>
    obtain ⟨m, _, rfl⟩ := h
    exact ⟨(1, m.block, m.base + o, 0, 0), rfl⟩
  case sl i o n c =>
    obtain ⟨m, cc, _, rfl, _⟩ := h
    exact ⟨(0, m.block, m.base + o, n, cc), rfl⟩
  all_goals (simp [isX] at hx)
theorem Zvz {M : List MEnt} {H : AHeap} {w : World} (hr : HRel M H w) {D : Nat → Prop} {pl : Nat → Nat × Nat} {τ : Nat → AV} (hD : ∀ j, D j → Zyo H pl τ j) : ∃ θ, Z5z M w D pl τ θ := by
  have : ∀ j, ∃ t : Tag, D j → Zj M (τ j) (Zs3 t) ∧ ∀ m cur e r, M[(pl j).1]? = some m → w.heap[m.block]? = some (.cells cur e r) → cur[m.base + (pl j).2]? = some (Zs3 t) := fun j => by
    by_cases hj : D j
    · obtain ⟨n, t, e, g, fz, ro, mk, h1, h2, h3⟩ := hD j hj
      obtain ⟨m, hm, cur, e', lo, hi, b1, b2, b3, b4, b5, b6, b7⟩ := hr.obj _ _ h1
      obtain ⟨c1, cv, c2, c3⟩ := b7 _ _ h2
      obtain ⟨tg, rfl⟩ := Ye9 c3 h3
      refine ⟨tg, fun _ => ⟨c3, fun m2 cur2 e2 r2 d1 d2 => ?_⟩⟩
      rw [hm] at d1; cases d1
      rw [b1] at d2; cases d2
      exact c2
    · exact ⟨(0, 0, 0, 0, 0), fun h => absurd h hj⟩
  exact ⟨fun j => (this j).choose, fun j hj => (this j).choose_spec hj⟩
theorem Jc.rel {K : List Nat} {D : Nat → Prop} {pl : Nat → Nat × Nat} {τ : Nat → AV} {θ : Nat → Tag} {M M' : List MEnt} (hM : Zon 0 K M M') {id : Nat} {m : MEnt} {w : World} {o u : AObj} (hth : Z5z M w D pl τ θ) (hm : M[id]? = some m) (h : Jc K D pl τ θ id o u) (r : Qf M m w o) : Qf M' m w u := by
  have cell : ∀ {n : Nat} {t t' : Tr AV} {cur : Array Value} {e : TypeId} {rg : Nat × Nat}, w.heap[m.block]? = some (.cells cur e rg) → (∀ i v, t.get i = some v → i < n ∧ ∃ cv, cur[m.base + i]? = some cv ∧ Zj M v cv) → (∀ i y, t'.get i = some y → ∃ x, t.get i = some x ∧ Zzt K D pl τ θ id i x y) →
      ∀ i v, t'.get i = some v → i < n ∧ ∃ cv, cur[m.base + i]? = some cv ∧ Zj M' v cv := by
    intro n t t' cur e rg h1 h7 ht i y hy
    obtain ⟨x, hx, hc⟩ := ht i y hy
    obtain ⟨a, cv, b, c⟩ := h7 i x hx
    rcases hc with hc | ⟨j, rfl, hj, hp, _⟩
    · exact ⟨a, cv, b, V8 hM _ _ _ hc c⟩
    · have := (hth j hj).2 m cur e rg (by rw [hp]; exact hm) h1
      rw [hp] at this
      exact ⟨a, _, this, rfl⟩
  rcases h with h | ⟨n, t, e, g, fz, ro, mk, t', rfl, rfl, ht⟩ | ⟨n, t, e, g, fz, ro, mk, e', g', fz', mk', t', rfl, rfl, hg, ht⟩
  · exact h.rel hM r
  · obtain ⟨cur, e2, lo, hi, h1, h2, h3, h4, h5, h6, h7⟩ := r
    exact ⟨cur, e2, lo, hi, h1, h2, h3, h4, h5, h6, cell h1 h7 ht⟩
  · obtain ⟨cur, e2, lo, hi, h1, h2, h3, h4, h5, h6, h7⟩ := r
    refine ⟨cur, e2, lo, hi, h1, (fun hx => by cases hx), h3, fun gs hgs => ?_, (fun hx => by cases hx), (fun hx => by cases hx), cell h1 h7 ht⟩
    rcases hg with rfl | rfl
    · cases hgs
    · exact h4 gs hgs
theorem Jc.wr {K : List Nat} {D : Nat → Prop} {pl : Nat → Nat × Nat} {τ : Nat → AV} {θ : Nat → Tag} {id : Nat} {o u : AObj} (h : Jc K D pl τ θ id o u) (hu : u.isRo = false) : o.isRo = false := by
  rcases h with h | ⟨n, t, e, g, fz, ro, mk, t', rfl, rfl, _⟩ | ⟨n, t, e, g, fz, ro, mk, e', g', fz', mk', t', rfl, rfl, _⟩
  · rw [← h.ro]; exact hu
  · exact hu
  · cases hu
section
variable {E : Env} {P : Program} {I : List MEnt → AHeap → World → Prop} {ih : Task → Option TRes} {ro : Option Nat}
variable {ng : Nat} {K : List Nat} {D : Nat → Prop} {pl : Nat → Nat × Nat} {τ : Nat → AV} {θ : Nat → Tag} {fr fr' : AFr} {H H' : AHeap}
theorem RenX.atN (r : RenX ng K D pl τ θ fr H fr' H') {M : List MEnt} {w : World} (hr : HRel M H w) : ∀ k i : Nat, K[k]? = some i → (Wk K M)[k]? = M[i]? := fun k i h => by
  have hlt : ∀ i ∈ K, i < M.length := fun i hi => by rw [hr.len]; exact r.lt i hi
  have := Zdd hlt k i h
  rwa [Nat.zero_add] at this
theorem RenX.wrS (r : RenX ng K D pl τ θ fr H fr' H') {M : List MEnt} {w : World} (hr : HRel M H w) {b : Nat} (h : Wr (Wk K M) H' b) : ∃ k u i o, H'.get k = some u ∧ u.isRo = false ∧ K[k]? = some i ∧ H.get i = some o ∧ o.isRo = false ∧ ∃ m, M[i]? = some m ∧ m.block = b := by
  obtain ⟨k, u, m, hu, hro, hm, hb⟩ := h
  obtain ⟨i, o, e1, e2, e3⟩ := r.obj k u hu
  exact ⟨k, u, i, o, hu, hro, e1, e2, e3.wr hro, m, by rw [← r.atN hr k i e1]; exact hm, hb⟩
theorem RenX.to (hI : Carried I) (r : RenX E.ng K D pl τ θ fr H fr' H') {M : List MEnt} {w : World} {a : Act} (hth : Z5z M w D pl τ θ) (st : St E I M H w) (hf : FRel ro M fr a) : St E I (Wk K M) H' w ∧ FRel ro (Wk K M) fr' a := by
  have hlt : ∀ i ∈ K, i < M.length := fun i hi => by rw [st.hr.len]; exact r.lt i hi
  have hM := Zdd hlt
  have at_ := r.atN st.hr
  have inj : ∀ k l i : Nat, K[k]? = some i → K[l]? = some i → k = l := fun k l i hk hl => by
    have hk' := (List.getElem?_eq_some_iff.1 hk)
    exact (List.getElem?_inj hk'.1 r.nodup).1 (hk.trans hl.symm)
  have hr : HRel (Wk K M) H' w := by
    refine ⟨by simp [Wk, r.next], fun k u hu => ?_, fun k l u v m p hu hv hm hp hkl hb => ?_⟩
    · obtain ⟨i, o, e1, e2, e3⟩ := r.obj k u hu
      obtain ⟨m, hm, ho⟩ := st.hr.obj i o e2
      exact ⟨m, by rw [at_ k i e1]; exact hm, e3.rel hM hth hm ho⟩
    · obtain ⟨i, o, e1, e2, e3⟩ := r.obj k u hu
      obtain ⟨j, q, f1, f2, f3⟩ := r.obj l v hv
      rw [at_ k i e1] at hm
      rw [at_ l j f1] at hp
      have hij : i ≠ j := fun e => by subst e; exact hkl (inj k l i e1 f1)
      obtain ⟨z1, z2⟩ := st.hr.inj i j o q m p e2 f2 hm hp hij hb
      constructor
      · cases hx : u.isRo with
        | true => rfl
        | false => rw [e3.wr hx] at z1; cases z1
      · cases hx : v.isRo with
        | true => rfl
        | false => rw [f3.wr hx] at z2; cases z2
  refine ⟨⟨hr, fun g hg => ?_, hI.ren _ _ _ _ _ st.i st.hr hr fun b hb => ?_⟩, ⟨by rw [r.rd]; exact hf.rd, by rw [r.n]; exact hf.n, fun i y hy => ?_, ?_⟩⟩
  · obtain ⟨m, hm, h2⟩ := st.g g hg
    exact ⟨m, by rw [at_ g g (r.glob g hg)]; exact hm, h2⟩
  · obtain ⟨k, u, i, o, _, _, _, e2, e3, m, e4, e5⟩ := r.wrS st.hr hb
    exact ⟨i, o, m, e2, e3, e4, e5⟩
  · obtain ⟨x, hx, hxy⟩ := r.t i y hy
    obtain ⟨cv, hc, hv⟩ := hf.t i x hx
    exact ⟨cv, hc, V8 hM _ _ _ hxy hv⟩
  · have := hf.df
    rw [r.df.1] at this
    rw [r.df.2]
    generalize a.defers = l at this ⊢
    cases this
    exact .nil
structure Framed (K : List Nat) (τ : Nat → AV) (H H' H2 : AHeap) (names : List Nat) (Hb : AHeap) : Prop where
  next : Hb.next = H.next + (H2.next - K.length)
  new : ∀ k u, k ∈ names → H2.get k = some u → u.isRo = false → Hb.get (Q9 K H.next k) = some (lfO (Q9 K H.next) τ u)
  old : ∀ id o, H.get id = some o → (∀ k u, K[k]? = some id → H'.get k = some u → u.isRo = true) → Hb.get id = some o
  inv : ∀ id o, Hb.get id = some o → (∃ k u, id = Q9 K H.next k ∧ k ∈ names ∧ H2.get k = some u ∧ u.isRo = false ∧ o = lfO (Q9 K H.next) τ u) ∨ (H.get id = some o ∧ ∀ k u, K[k]? = some id → H'.get k = some u → u.isRo = true)
def Yd1 (β : Nat → Nat) (τ : Nat → AV) (fr : AFr) (t : Tr AV) : AFr := ⟨fr.n, lfT β τ t, [], fr.rd⟩
open Classical in
theorem Zsy (hI : Carried I) (r : RenX E.ng K D pl τ θ fr H fr' H') {M : List MEnt} {w : World} (hth : Z5z M w D pl τ θ) (st : St E I M H w) {e : AExit} (hp : ∀ v, e ≠ .panic v) {fr2 : AFr} {H2 : AHeap} (hdf : fr2.df = []) {names : List Nat} {t3 : Tr AV} (h3 : ∀ i y, t3.get i = some y → fr2.t.get i = some y)
    (hex : exT D θ t3 ∧ ∀ k u, k ∈ names → H2.get k = some u → u.isRo = false → exO D θ u) {x : Exit} {a2 : Act} {w2 : World}
    (hpost : Ky ro (Wk K M) H' w e fr2 H2 x a2 w2) : ∃ Hb M2, Framed K τ H H' H2 names Hb ∧ St E I M2 Hb w2 ∧ Xr M2 e x ∧ FRel ro M2 (Yd1 (Q9 K H.next) τ fr2 t3) a2 := by
  obtain ⟨M2', x1, hr2, er, fr2r⟩ := hpost
  have hlt : ∀ i ∈ K, i < M.length := fun i hi => by rw [st.hr.len]; exact r.lt i hi
  have at_ := r.atN st.hr
  have hKl : (Wk K M).length = K.length := by simp [Wk]
  have pre : Wk K M <+: M2' := x1.pre
  have hle : K.length ≤ M2'.length := by rw [← hKl]; exact pre.length_le
  have inj : ∀ k l i : Nat, K[k]? = some i → K[l]? = some i → k = l := fun k l i hk hl => by
    have hk' := (List.getElem?_eq_some_iff.1 hk)
    exact (List.getElem?_inj hk'.1 r.nodup).1 (hk.trans hl.symm)
  have hβ : ∀ k, (∃ i, K[k]? = some i ∧ Q9 K H.next k = i) ∨ (K.length ≤ k ∧ Q9 K H.next k = H.next + (k - K.length)) := fun k => by
    by_cases h : k < K.length
    · exact .inl ⟨K[k], List.getElem?_eq_getElem h, Zuu (List.getElem?_eq_getElem h)⟩
    · exact .inr ⟨by omega, Z56 (by omega)⟩
  have ltK : ∀ k i, K[k]? = some i → i < H.next := fun k i h => r.lt i (List.mem_of_getElem? h)
  have hβinj : ∀ k l, Q9 K H.next k = Q9 K H.next l → k = l := fun k l h => by
    rcases hβ k with ⟨i, h1, h2⟩ | ⟨h1, h2⟩ <;> rcases hβ l with ⟨j, g1, g2⟩ | ⟨g1, g2⟩
    · rw [h2, g2] at h; subst h; exact inj _ _ _ h1 g1
    · have := ltK _ _ h1; omega
    · have := ltK _ _ g1; omega
    · omega
  have len2 : M2'.length = H2.next := hr2.len
  have free : ∀ id o m, H.get id = some o → (∀ k u, K[k]? = some id → H'.get k = some u → u.isRo = true) → M[id]? = some m → ¬ Wr (Wk K M) H' m.block := fun id o m ho hk hm hw => by
    obtain ⟨k, u, i, p, g1, g0, g2, g3, g4, m', g5, g6⟩ := r.wrS st.hr hw
    by_cases hij : i = id
    · subst hij; rw [hk k u g2 g1] at g0; cases g0
    · have := (st.hr.inj i id p o m' m g3 ho g5 hm hij g6).1
      rw [g4] at this; cases this
  have apart : ∀ k u m1 id o m2, H2.get k = some u → u.isRo = false → M2'[k]? = some m1 → H.get id = some o → (∀ k u, K[k]? = some id → H'.get k = some u → u.isRo = true) → M[id]? = some m2 → m1.block ≠ m2.block := fun k u m1 id o m2 hu hro h1 ho hk h2 hb => by
    have hlt2 : m2.block < w.heap.size := by
      obtain ⟨m', hm', hob⟩ := st.hr.obj id o ho
      rw [h2] at hm'; cases hm'
      exact hob.lt
    have hw : Wr M2' H2 m2.block := ⟨k, u, m1, hu, hro, h1, hb⟩
    exact (x1.old _ hlt2 (free id o m2 ho hk h2)).2 hw
  let F : Nat → Option AObj := fun j => if h : ∃ k u, j = Q9 K H.next k ∧ k ∈ names ∧ H2.get k = some u ∧ u.isRo = false then some (lfO (Q9 K H.next) τ h.choose_spec.choose) else if (∀ k u, K[k]? = some j → H'.get k = some u → u.isRo = true) then H.get j else none
  have Fnew : ∀ k u, k ∈ names → H2.get k = some u → u.isRo = false → F (Q9 K H.next k) = some (lfO (Q9 K H.next) τ u) := fun k u hk hu hro => by
    have hx : ∃ k' u', Q9 K H.next k = Q9 K H.next k' ∧ k' ∈ names ∧ H2.get k' = some u' ∧ u'.isRo = false := ⟨k, u, rfl, hk, hu, hro⟩
    have e1 := hx.choose_spec.choose_spec
    have e2 := hβinj _ _ e1.1
    have e3 := Option.some.inj (e1.2.2.1.symm.trans ((congrArg H2.get e2).symm.trans hu))
    simp only [F]
    rw [dif_pos hx, e3]
  have Fold : ∀ j, (¬ ∃ k u, j = Q9 K H.next k ∧ k ∈ names ∧ H2.get k = some u ∧ u.isRo = false) → F j = if (∀ k u, K[k]? = some j → H'.get k = some u → u.isRo = true) then H.get j else none := fun j hj => by simp only [F]; rw [dif_neg hj]
  obtain ⟨t, ht⟩ := Zlo F (H.next + (H2.next - K.length))
  let Hb : AHeap := ⟨t, H.next + (H2.next - K.length)⟩
  have Fbound : ∀ j o, F j = some o → j < H.next + (H2.next - K.length) := fun j o h => by
    by_cases hx : ∃ k u, j = Q9 K H.next k ∧ k ∈ names ∧ H2.get k = some u ∧ u.isRo = false
    · obtain ⟨k, u, rfl, _, hu, _⟩ := hx
      have := hr2.lt hu
      rcases hβ k with ⟨i, h1, h2⟩ | ⟨h1, h2⟩
      · have := ltK _ _ h1; omega
      · omega
    · rw [Fold j hx] at h
      split at h
      · have := st.hr.lt h
        rw [st.hr.len] at this
        omega
      · cases h
  have hget : ∀ j, Hb.get j = F j := fun j => by
    show t.get j = F j
    rw [ht j]
    split
    · rfl
    · rename_i h
      cases hF : F j with
      | none => rfl
      | some o => exact absurd (Fbound j o hF) h
  have hM : ∀ k m, M2'[k]? = some m → (M ++ M2'.drop K.length)[Q9 K H.next k]? = some m := fun k m hm => by
    rcases hβ k with ⟨i, h1, h2⟩ | ⟨h1, h2⟩
    · rw [h2, List.getElem?_append_left (by rw [st.hr.len]; exact ltK _ _ h1), ← at_ k i h1]
      have hk : k < (Wk K M).length := by rw [hKl]; exact (List.getElem?_eq_some_iff.1 h1).1
      have := Yt pre (List.getElem?_eq_getElem hk)
      rw [hm] at this; cases this
      exact List.getElem?_eq_getElem hk
    · rw [h2, List.getElem?_append_right (by rw [st.hr.len]; omega), st.hr.len, List.getElem?_drop, show K.length + (H.next + (k - K.length) - H.next) = k by omega]
      exact hm
  have preM : M <+: M ++ M2'.drop K.length := List.prefix_append _ _
  have hτ : ∀ j, D j → Zj (M ++ M2'.drop K.length) (τ j) (Zs3 (θ j)) := fun j hj => (hth j hj).1.mono preM
  have oldM : ∀ id o m, H.get id = some o → (M ++ M2'.drop K.length)[id]? = some m → M[id]? = some m := fun id o m ho hm => by
    obtain ⟨k, hk, _⟩ := st.hr.obj id o ho
    have := Yt preM hk
    rw [hm] at this; cases this
    exact hk
  have newM : ∀ k u m, H2.get k = some u → (M ++ M2'.drop K.length)[Q9 K H.next k]? = some m → M2'[k]? = some m ∧ Qf M2' m w2 u := fun k u m hu hm => by
    obtain ⟨m', hm', ho⟩ := hr2.obj k u hu
    have := hM k m' hm'
    rw [hm] at this; cases this
    exact ⟨hm', ho⟩
  have framed : Framed K τ H H' H2 names Hb := by
    refine ⟨rfl, fun k u hk hu hro => by rw [hget]; exact Fnew k u hk hu hro, fun id o ho hk => ?_, fun id o ho => ?_⟩
    · rw [hget]
      by_cases hx : ∃ k u, id = Q9 K H.next k ∧ k ∈ names ∧ H2.get k = some u ∧ u.isRo = false
      · obtain ⟨k, u, e1, _, hu, hro⟩ := hx
        exfalso
        obtain ⟨m, hm, hob⟩ := st.hr.obj id o ho
        obtain ⟨m', hm', _⟩ := hr2.obj k u hu
        have h3 := hM k m' hm'
        rw [← e1, Yt preM hm] at h3
        cases h3
        exact apart k u m id o m hu hro hm' ho hk hm rfl
      · rw [Fold id hx, if_pos hk]; exact ho
    · rw [hget] at ho
      by_cases hx : ∃ k u, id = Q9 K H.next k ∧ k ∈ names ∧ H2.get k = some u ∧ u.isRo = false
      · obtain ⟨k, u, rfl, hk, hu, hro⟩ := hx
        rw [Fnew k u hk hu hro] at ho
        simp only [Option.some.injEq] at ho
        exact .inl ⟨k, u, rfl, hk, hu, hro, ho.symm⟩
      · rw [Fold id hx] at ho
        split at ho
        · rename_i hk; exact .inr ⟨ho, hk⟩
        · cases ho
  have hr : HRel (M ++ M2'.drop K.length) Hb w2 := by
    refine ⟨by show _ = H.next + (H2.next - K.length); rw [List.length_append, List.length_drop, st.hr.len, len2], fun id o ho => ?_, fun i j o p m k hi hj hm hk hij hb => ?_⟩
    · rcases framed.inv id o ho with ⟨k, u, rfl, hkn, hu, hro, rfl⟩ | ⟨ho, hk⟩
      · obtain ⟨m, hm, hob⟩ := hr2.obj k u hu
        exact ⟨m, hM k m hm, Z8q hM hτ (hex.2 k u hkn hu hro) hob⟩
      · obtain ⟨m, hm, hob⟩ := st.hr.obj id o ho
        exact ⟨m, Yt preM hm, hob.carry preM (x1.old _ hob.lt (free id o m ho hk hm)).1⟩
    · rcases framed.inv i o hi with ⟨k1, u1, rfl, _, hu1, hro1, rfl⟩ | ⟨ho1, hk1⟩ <;> rcases framed.inv j p hj with ⟨k2, u2, rfl, _, hu2, hro2, rfl⟩ | ⟨ho2, hk2⟩
      · rw [Z1i, Z1i]
        exact hr2.inj k1 k2 u1 u2 m k hu1 hu2 (newM _ _ _ hu1 hm).1 (newM _ _ _ hu2 hk).1 (fun e => hij (by rw [e])) hb
      · exact absurd hb (apart k1 u1 m j p k hu1 hro1 (newM _ _ _ hu1 hm).1 ho2 hk2 (oldM _ _ _ ho2 hk))
      · exact absurd hb.symm (apart k2 u2 k i o m hu2 hro2 (newM _ _ _ hu2 hk).1 ho1 hk1 (oldM _ _ _ ho1 hm))
      · exact st.hr.inj i j o p m k ho1 ho2 (oldM _ _ _ ho1 hm) (oldM _ _ _ ho2 hk) hij hb
  have ext : Ext M H w (M ++ M2'.drop K.length) Hb w2 := by
    refine ⟨preM, x1.size, x1.os, x1.tape, x1.output, fun b hb hn => ?_, fun b hb hn hk => ?_⟩
    · have hn' : ¬ Wr (Wk K M) H' b := fun hw => by
        obtain ⟨k, u, i, o, _, _, _, g3, g4, m, g5, g6⟩ := r.wrS st.hr hw
        exact hn ⟨i, o, m, g3, g4, g5, g6⟩
      refine ⟨(x1.old b hb hn').1, ?_⟩
      rintro ⟨id, o, m, ho, hro, hm, rfl⟩
      rcases framed.inv id o ho with ⟨k, u, rfl, _, hu, hro2, rfl⟩ | ⟨ho, hk⟩
      · exact (x1.old _ hb hn').2 ⟨k, u, m, hu, hro2, (newM _ _ _ hu hm).1, rfl⟩
      · exact hn ⟨id, o, m, ho, hro, oldM _ _ _ ho hm, rfl⟩
    · obtain ⟨id, o, m, ho, hm, rfl⟩ := hk
      rcases framed.inv id o ho with ⟨k, u, rfl, _, hu, hro2, rfl⟩ | ⟨ho, hk⟩
      · have hw : Wr M2' H2 m.block := ⟨k, u, m, hu, hro2, (newM _ _ _ hu hm).1, rfl⟩
        by_cases hc : Wr (Wk K M) H' m.block
        · obtain ⟨k0, u0, i0, o0, _, _, _, g3, _, m0, g5, g6⟩ := r.wrS st.hr hc
          exact hn ⟨i0, o0, m0, g3, g5, g6⟩
        · exact (x1.old _ hb hc).2 hw
      · exact hn ⟨id, o, m, ho, oldM _ _ _ ho hm, rfl⟩
  refine ⟨Hb, _, framed, ⟨hr, st.g.mono preM, hI.ext _ _ _ _ _ _ st.i ext⟩, ?_, ⟨fr2r.rd, fr2r.n, Zuj hM hτ hex.1 (fun i y hy => fr2r.t i y (h3 i y hy)), ?_⟩⟩
  · cases e with
    | normal => exact er
    | exit i => exact er
    | ret => exact er
    | panic v => exact absurd rfl (hp v)
  · have := fr2r.df
    rw [hdf] at this
    generalize a2.defers = l at this ⊢
    cases this
    exact .nil
end
end
end Go.Vai
end
