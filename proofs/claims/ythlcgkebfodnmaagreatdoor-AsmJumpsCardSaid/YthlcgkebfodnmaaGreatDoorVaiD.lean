/- Control: what the interpreter answers for a piece of code, a call, a round, the model does. Ground work: states, frames, one operation with its call.
A region whose order is open: in whatever order its operations run, what comes out is what the order of the text gives.
A region whose order is open, the second half: every order comes to where the order of the text comes.
A region whose order is open, the last part: the walk through any order. -/
import Derived.Test.YthlcgkebfodnmaaGreatDoorVaiC
import Derived.RangeFuncRecord
import Derived.RecoverIn
import Derived.OrdersIn
section
namespace Go.Vai
abbrev FF (ro : Option Nat) : Fence := { Fence.wide with round := ro }
structure St (E : Env) (I : List MEnt → AHeap → World → Prop) (M : List MEnt) (H : AHeap) (w : World) : Prop where
  hr : HRel M H w
  g : GRel E M
  i : I M H w
inductive DfRels (M : List MEnt) : List ADf → List Deferred → Prop
  | nil : DfRels M [] []
  | cons {x : ADf} {d : Deferred} {xs : List ADf} {ds : List Deferred} : DfRel M x d → DfRels M xs ds → DfRels M (x :: xs) (d :: ds)
theorem DfRels.mono {M M' : List MEnt} (h : M <+: M') {x : List ADf} {d : List Deferred} (r : DfRels M x d) : DfRels M' x d := by
  induction r with
  | nil => exact .nil
  | cons a _ ih => exact .cons (a.mono h) ih
structure FRel (ro : Option Nat) (M : List MEnt) (fr : AFr) (a : Act) : Prop where
  rd : fr.rd = ro.isSome
  n : a.tmps.size = fr.n
  t : TRel M fr.t a.tmps
  df : DfRels M fr.df a.defers
theorem FRel.mono {ro : Option Nat} {M M' : List MEnt} (h : M <+: M') {fr : AFr} {a : Act} (r : FRel ro M fr a) : FRel ro M' fr a := ⟨r.rd, r.n, r.t.mono h, r.df.mono h⟩
theorem FRel.put {ro : Option Nat} {M : List MEnt} {fr : AFr} {a : Act} (r : FRel ro M fr a) {v : AV} {cv : Value} (h : VRel M v cv) (d : Option Tmp) : FRel ro M (fr.put d v) (a.put d cv) := by
  cases d with
  | none => exact r
  | some d =>
    simp only [AFr.put, Act.put, Bool.cond_eq_ite, Nat.blt_eq]
    split
    · rename_i hd
      refine ⟨r.rd, by simp [r.n], fun i v' hi => ?_, r.df⟩
      rcases Tr.get_set hi with ⟨rfl, rfl⟩ | ⟨hne, hi⟩
      · exact ⟨cv, by simp [r.n, hd], h⟩
      · obtain ⟨c, hc, hv⟩ := r.t i v' hi
        exact ⟨c, by simp only [Array.getElem?_setIfInBounds_ne (Ne.symm hne), hc], hv⟩
    · rename_i hd
      have : a.tmps.setIfInBounds d cv = a.tmps := by
        apply Array.ext'
        simp only [Array.toList_setIfInBounds]
        exact List.set_eq_of_length_le (by simp [r.n]; omega)
      refine ⟨r.rd, by simp [r.n], ?_, r.df⟩
      show TRel M fr.t (a.tmps.setIfInBounds d cv)
      rw [this]; exact r.t
theorem undef_rel (M : List MEnt) : VRel M undefA undef := ⟨[], rfl, trivial⟩
def ERel (M : List MEnt) : AExit → Exit → Prop
  | .normal, x => x = .normal
  | .exit i, x => x = .exit i
  | .ret, x => x = .ret
  | .panic v, x => ∃ cv, x = .panic [{ v := cv, recovered := false }] ∧ VRel M v cv
def CPost (ro : Option Nat) (M : List MEnt) (H : AHeap) (w : World) (e : AExit) (fr' : AFr) (H' : AHeap) (x : Exit) (a : Act) (w' : World) : Prop :=
  ∃ M', Ext M H w M' H' w' ∧ HRel M' H' w' ∧ ERel M' e x ∧ FRel ro M' fr' a
def CallPost (M : List MEnt) (H : AHeap) (w : World) (r : CRes) : Ending → World → Prop
  | .returned cv, w' => ∃ v H' M', r = .ret v H' ∧ Ext M H w M' H' w' ∧ HRel M' H' w' ∧ VRel M' v cv
  | .panicked chain, w' => ∃ v H' M' cv, r = .pan v H' ∧ chain = [{ v := cv, recovered := false }] ∧ Ext M H w M' H' w' ∧ HRel M' H' w' ∧ VRel M' v cv
  | .outgrown, _ => False
def Enters (P : Program) (f : FuncId) (cargs : List Value) (w : World) (R : Ending → World → Prop) : Prop :=
  (callFunc f cargs.toArray).run P w = .ok (.enter f cargs.toArray) w ∧ CallsIn Fence.wide 0 P f cargs.toArray w R
def CallsA (P : Program) (f : FuncId) (cargs : List Value) (M : List MEnt) (H : AHeap) (w : World) (r : CRes) : Prop :=
  (∃ cv w', (callFunc f cargs.toArray).run P w = .ok (.value cv) w' ∧ CallPost M H w r (.returned cv) w') ∨ Enters P f cargs w (CallPost M H w r)
structure FnOk (P : Program) (f : FuncId) (fn : AFunc) (Fn : Func) : Prop where
  at_ : P.funcs[f]? = some Fn
  body : Fn.body = some fn.body
  nt : Fn.ntmps = fn.ntmps
  res : Fn.results.toList = fn.results
  name : (Fn.name == "runtime.NumGoroutine") = false
structure EnvOk (E : Env) (P : Program) (I : List MEnt → AHeap → World → Prop) : Prop where
  tys : TysOk E P
  fns : ∀ f fn, E.fn f = some fn → ∃ Fn, FnOk P f fn Fn
  carry : ∀ M H w M' H' w', I M H w → Ext M H w M' H' w' → I M' H' w'
  sm : ∀ f args H v H' M w cargs, E.fn f = none → E.sm f args H = some (v, H') → St E I M H w → VRels M args cargs → CallsA P f cargs M H w (.ret v H')
  mixed : P.follows .mixedOrders = true
def LoopWp (F : Fence) (P : Program) (c : Code) (Q : Exit → Act → World → Prop) (a : Act) (w : World) : Prop :=
  ∀ (b : Frame) (k : List Item) (cs : List Frame), b.roundOf = F.round → F.fn b.fn → F.room (cs.length + 1 + 0) →
    ∃ e a' w', Q e a' w' ∧ ArrivesIn (Machine.fenced P F) P (lone (b.atR a (.code c :: .inLoop c :: k)) cs w) b k cs e a' w'
def URel (M : List MEnt) : Option AV → FrameMode → Prop
  | none, u => u = .returning
  | some v, u => ∃ cv, u = .panicking [{ v := cv, recovered := false }] ∧ VRel M v cv
def DPost (M : List MEnt) (H : AHeap) (w : World) (taken : Bool) (H' : AHeap) (u : FrameMode) : Ending → FrameMode → World → Prop
  | .returned _, u', w' => (∃ M', Ext M H w M' H' w' ∧ HRel M' H' w') ∧ settle u' = if taken then .returning else u
  | _, _, _ => False
structure Sound (E : Env) (P : Program) (I : List MEnt → AHeap → World → Prop) (ih : Task → Option TRes) : Prop where
  loop : ∀ ro c fr H e fr' H' M w a, ih (.code (.loop c) fr H) = some (.code e fr' H') → St E I M H w → FRel ro M fr a → LoopWp (FF ro) P c (CPost ro M H w e fr' H') a w
  call : ∀ f args H r M w cargs, ih (.call f args H) = some (.call r) → St E I M H w → VRels M args cargs → CallsA P f cargs M H w r
  dcall : ∀ f args pan H taken H' M w cargs u, ih (.dcall f args pan H) = some (.dcall (.back taken H')) → St E I M H w → VRels M args cargs → URel M pan u →
    (callFunc f cargs.toArray).run P w = .ok (.enter f cargs.toArray) w ∧ CallsDIn Fence.wide 0 P f cargs.toArray u w (DPost M H w taken H' u)
  yield : ∀ id args H r M w cargs m, ih (.yield id args H) = some (.call r) → St E I M H w → VRels M args cargs → M[id]? = some m →
    ∃ f tmps assign body, (Instr.yield m.block cargs.toArray).run P w = .ok (.round m.block f tmps assign body) w ∧ RoundIn Fence.wide 0 P m.block f tmps assign body w (CallPost M H w r)
section
variable {E : Env} {P : Program} {I : List MEnt → AHeap → World → Prop} {ih : Task → Option TRes} {ro : Option Nat} {M : List MEnt} {H : AHeap} {w : World}
theorem St.next (hE : EnvOk E P I) (s : St E I M H w) {M' : List MEnt} {H' : AHeap} {w' : World} (x : Ext M H w M' H' w') (r : HRel M' H' w') : St E I M' H' w' :=
  ⟨r, s.g.mono x.pre, hE.carry _ _ _ _ _ _ s.i x⟩
theorem CPost.after {M1 : List MEnt} {H1 : AHeap} {w1 : World} (x : Ext M H w M1 H1 w1) {e : AExit} {fr' : AFr} {H' : AHeap} {ex : Exit} {a : Act} {w' : World}
    (h : CPost ro M1 H1 w1 e fr' H' ex a w') : CPost ro M H w e fr' H' ex a w' := by
  obtain ⟨M', h1, h2⟩ := h
  exact ⟨M', x.trans h1, h2⟩
theorem enter_run {f : FuncId} {fn : AFunc} {Fn : Func} (h : FnOk P f fn Fn) (cargs : Array Value) : (callFunc f cargs).run P w = .ok (.enter f cargs) w := by
  have := h.name
  simp at this
  simp [callFunc, program, Sem.run, h.at_, h.body, this]
theorem callsA_enters (hE : EnvOk E P I) {f : FuncId} {fn : AFunc} (hf : E.fn f = some fn) {cargs : List Value} {r : CRes} (h : CallsA P f cargs M H w r) : Enters P f cargs w (CallPost M H w r) := by
  obtain ⟨Fn, hF⟩ := hE.fns f fn hf
  rcases h with ⟨cv, w', h, _⟩ | h
  · rw [enter_run hF] at h; cases h
  · exact h
theorem execA_defer {fr : Tr AV} {o : Oper} {r : ARes} (h : execA E H fr o = some r) (hr : ∀ f args, r ≠ .defer f args) : ∀ c, o.op ≠ .defer c := by
  intro c hc
  unfold execA at h
  rw [hc] at h
  simp only at h
  split at h
  · split at h
    · simp only [Option.some.injEq] at h; exact hr _ _ h.symm
    · cases h
  · cases h
def NextOk (ro : Option Nat) (M : List MEnt) (H : AHeap) (w : World) (dst : Option Tmp) (a : Act) (next : Act → World → Prop) (Q : Exit → Act → World → Prop) : ARes → Prop
  | .val v H' => ∀ cv w' M', Ext M H w M' H' w' → HRel M' H' w' → VRel M' v cv → next (a.put dst cv) w'
  | .skip H' => ∀ w' M', Ext M H w M' H' w' → HRel M' H' w' → next (a.put dst undef) w'
  | .panic v H' => ∀ cv w' M', Ext M H w M' H' w' → HRel M' H' w' → VRel M' v cv → Q (.panic [{ v := cv, recovered := false }]) a w'
  | .defer f args => ro = none ∧ ∀ d, DfRel M (.call f args) d → next ({ a with defers := d :: a.defers }.put dst undef) w
  | _ => False
theorem oper_sound (hE : EnvOk E P I) (hs : Sound E P I ih) (st : St E I M H w) {fr : AFr} {a : Act} (hf : FRel ro M fr a) {o : Oper} {r r2 : ARes} (h1 : execA E H fr.t o = some r) (h2 : callsA ih H r = some r2)
    {next : Act → World → Prop} {Q : Exit → Act → World → Prop} (hn : NextOk ro M H w o.dst a next Q r2) : o.wpIn (FF ro) 0 P a w next Q := by
  refine ⟨fun _ _ => trivial, ?_⟩
  have hx := execA_sound hE.tys st.g st.hr hf.t h1
  have sem : (∀ f args, r ≠ .defer f args) → o.semAt (FF ro).round a.eval = execOp a.eval o := fun hr => Oper.semAt_eq _ _ _ (execA_defer h1 hr)
  cases r with
  | val v H' =>
    simp only [callsA, Option.some.injEq] at h2
    subst h2
    rw [sem (fun _ _ h => by cases h)]
    obtain ⟨cv, w', M', hr, x1, x2, x3⟩ := hx
    rw [hr]
    exact hn cv w' M' x1 x2 x3
  | skip H' =>
    simp only [callsA, Option.some.injEq] at h2
    subst h2
    rw [sem (fun _ _ h => by cases h)]
    obtain ⟨w', M', hr, x1, x2⟩ := hx
    rw [hr]
    exact hn w' M' x1 x2
  | panic v H' =>
    simp only [callsA, Option.some.injEq] at h2
    subst h2
    rw [sem (fun _ _ h => by cases h)]
    obtain ⟨cv, hr, rfl, x1⟩ := hx
    rw [hr]
    exact hn cv w M (Ext.refl _ _ _) st.hr x1
  | defer f args =>
    simp only [callsA, Option.some.injEq] at h2
    subst h2
    obtain ⟨hro, hn⟩ := hn
    subst hro
    obtain ⟨d, hr, hd⟩ := hx
    show Oper.uponIn _ _ _ _ _ _ _ ((Oper.semAt none a.eval o).run P w)
    rw [Oper.semAt_none, hr]
    exact hn d hd
  | call f args =>
    rw [sem (fun _ _ h => by cases h)]
    obtain ⟨cargs, hr, hargs⟩ := hx
    rw [hr]
    simp only [callsA] at h2
    have key : ∀ res, ih (.call f args H) = some (.call res) → (∀ cv w', CallPost M H w res (.returned cv) w' → next (a.put o.dst cv) w') →
        (∀ ch w', CallPost M H w res (.panicked ch) w' → Q (.panic ch) a w') → o.uponIn (FF ro) 0 P a next Q ((callFunc f cargs.toArray).run P w) := by
      intro res hres k1 k2
      rcases hs.call f args H res M w cargs hres st hargs with ⟨cv, w', hrun, hp⟩ | ⟨hrun, hc⟩
      · rw [hrun]; exact k1 cv w' hp
      · rw [hrun]
        refine ⟨fun h => (by cases h), ?_⟩
        refine CallsIn.mono (F := FF ro) (R := CallPost M H w res) hc ?_
        intro e w' hp
        cases e with
        | returned v => exact k1 v w' hp
        | panicked ch => exact k2 ch w' hp
        | outgrown => exact hp.elim
    split at h2
    · rename_i v H' hres
      simp only [Option.some.injEq] at h2; subst h2
      refine key _ hres ?_ ?_
      · rintro cv w' ⟨v', H2, M', e, x1, x2, x3⟩
        cases e
        exact hn cv w' M' x1 x2 x3
      · rintro ch w' ⟨v', H2, M', cv, e, _⟩
        cases e
    · rename_i v H' hres
      simp only [Option.some.injEq] at h2; subst h2
      refine key _ hres ?_ ?_
      · rintro cv w' ⟨v', H2, M', e, _⟩
        cases e
      · rintro ch w' ⟨v', H2, M', cv, e, rfl, x1, x2, x3⟩
        cases e
        exact hn cv w' M' x1 x2 x3
    · cases h2
  | ycall id args =>
    rw [sem (fun _ _ h => by cases h)]
    obtain ⟨m, cargs, hm, hr, hargs⟩ := hx
    rw [hr]
    simp only [callsA] at h2
    split at h2
    case h_2 => cases h2
    rename_i v H' hres
    simp only [Option.some.injEq] at h2; subst h2
    obtain ⟨f, tmps, assign, body, hrun, hround⟩ := hs.yield id args H _ M w cargs m hres st hargs hm
    rw [hrun]
    refine ⟨fun h => (by cases h), ?_⟩
    refine RoundIn.mono (F := FF ro) (R := CallPost M H w (.ret v H')) hround ?_
    intro e w' hp
    cases e with
    | returned cv =>
      obtain ⟨v', H2, M', e, x1, x2, x3⟩ := hp
      cases e
      exact hn cv w' M' x1 x2 x3
    | panicked ch => obtain ⟨v', H2, M', cv, e, _⟩ := hp; cases e
    | outgrown => exact hp.elim
theorem wanted_sound {fr : AFr} {a : Act} (hf : FRel ro M fr a) {all : Array Oper} {o : Oper} {b : Bool} (h : wantedA all fr.t o = some b) : Region.wanted o (yielded all a.tmps) = b := by
  unfold wantedA at h
  unfold Region.wanted
  split at h
  · rename_i hg
    simp only [Option.some.injEq] at h
    rw [hg]; exact h
  · rename_i j want hg
    rw [hg]
    simp only [yielded]
    split at h
    · rename_i hd
      simp only [Option.some.injEq] at h; subst h
      rw [hd]; rfl
    · rename_i d hd
      rw [hd]
      simp only [Option.bind_some]
      split at h
      · rename_i c hc
        simp only [Option.some.injEq] at h; subst h
        obtain ⟨cv, h1, h2⟩ := hf.t _ _ hc
        simp only [VRel] at h2; subst h2
        rw [h1]; simp
      · rename_i vs hc
        simp only [Option.some.injEq] at h; subst h
        obtain ⟨cv, h1, vs', rfl, _⟩ := hf.t _ _ hc
        rw [h1]; simp
      · cases h
theorem opsA_sound (hE : EnvOk E P I) (hs : Sound E P I ih) {ops : Array Oper} {M0 : List MEnt} {H0 : AHeap} {w0 : World} {e : AExit} {fr' : AFr} {H' : AHeap} :
    ∀ (os : List Oper) (i : Nat) (fr : AFr) (H : AHeap) (M : List MEnt) (w : World) (a : Act), ops.toList.drop i = os → opsA E ih ops os fr H = some (.code e fr' H') → Ext M0 H0 w0 M H w → St E I M H w → FRel ro M fr a →
      wpOpsIn (FF ro) 0 P ops (CPost ro M0 H0 w0 e fr' H') (List.range' i os.length) a w := by
  intro os
  induction os with
  | nil =>
    intro i fr H M w a _ h x st hf
    simp only [opsA, Option.some.injEq, TRes.code.injEq] at h
    obtain ⟨rfl, rfl, rfl⟩ := h
    exact ⟨M, x, st.hr, rfl, hf⟩
  | cons o rest ihl =>
    intro i fr H M w a hd h x st hf
    have ho : ops[i]? = some o := by
      have := congrArg (·[0]?) hd
      simpa using this
    have hd' : ops.toList.drop (i + 1) = rest := by
      rw [← List.tail_drop, hd]; rfl
    simp only [List.length_cons, List.range'_succ, wpOpsIn, ho]
    simp only [opsA] at h
    split at h
    · cases h
    · rename_i hw
      rw [wanted_sound hf hw]
      simp only [Bool.false_eq_true, if_false]
      exact ⟨fun _ _ => trivial, ihl (i + 1) _ _ _ _ _ hd' h x st (hf.put (undef_rel M) o.dst)⟩
    · rename_i hw
      rw [wanted_sound hf hw]
      simp only [if_true]
      split at h
      · cases h
      rename_i r hr
      split at h
      · rename_i v H1 hc
        refine oper_sound hE hs st hf hr hc ?_
        intro cv w' M' y1 y2 y3
        exact ihl (i + 1) _ _ _ _ _ hd' h (x.trans y1) (st.next hE y1 y2) ((hf.mono y1.pre).put y3 o.dst)
      · rename_i H1 hc
        refine oper_sound hE hs st hf hr hc ?_
        intro w' M' y1 y2
        exact ihl (i + 1) _ _ _ _ _ hd' h (x.trans y1) (st.next hE y1 y2) ((hf.mono y1.pre).put (undef_rel M') o.dst)
      · rename_i v H1 hc
        refine oper_sound hE hs st hf hr hc ?_
        intro cv w' M' y1 y2 y3
        simp only [Option.some.injEq, TRes.code.injEq] at h
        obtain ⟨rfl, rfl, rfl⟩ := h
        exact ⟨M', x.trans y1, y2, ⟨cv, rfl, y3⟩, hf.mono y1.pre⟩
      · rename_i f args hc
        cases hrd : fr.rd with
        | true => simp [hrd] at h
        | false =>
          simp only [hrd, cond_false] at h
          refine oper_sound hE hs st hf hr hc ⟨?_, ?_⟩
          · have := hf.rd
            rw [hrd] at this
            cases ro with
            | none => rfl
            | some _ => cases this
          · intro d hdf
            exact ihl (i + 1) _ _ _ _ _ hd' h x st (FRel.put (fr := { n := fr.n, t := fr.t, df := .call f args :: fr.df, rd := false }) (a := { a with defers := d :: a.defers }) ⟨by rw [← hf.rd]; exact hrd.symm, hf.n, hf.t, .cons hdf hf.df⟩ (undef_rel M) o.dst)
      · cases h
end
end Go.Vai
end
section
namespace Go.Vai
theorem bitIn_eq (m i : Nat) : bitIn m i = m.testBit i := by
  unfold bitIn
  rw [Bool.eq_iff_iff]
  simp only [Nat.beq_eq]
  show (m / 2 ^ i) &&& 1 = 1 ↔ _
  rw [Nat.and_one_is_mod, Nat.testBit_eq_decide_div_mod_eq]
  simp
theorem bitIn_or (a b i : Nat) : bitIn (Nat.lor a b) i = (bitIn a i || bitIn b i) := by
  rw [bitIn_eq, bitIn_eq, bitIn_eq]
  exact Nat.testBit_or ..
theorem bitIn_two (a i : Nat) : bitIn (2 ^ a) i = decide (a = i) := by rw [bitIn_eq, Nat.testBit_two_pow]
section
variable {E : Env} {P : Program} {I : List MEnt → AHeap → World → Prop} {ih : Task → Option TRes} {ro : Option Nat} {H : AHeap}
theorem opd_congr {fr fr' : Tr AV} {x : Operand} (h : ∀ t, isTmp t x = true → fr.get t = fr'.get t) : opd E fr x = opd E fr' x := by
  cases x with
  | tmp t => exact h t (by simp [isTmp])
  | _ => rfl
theorem opds_congr {fr fr' : Tr AV} : ∀ (xs : List Operand), (∀ x ∈ xs, opd E fr x = opd E fr' x) → opds E fr xs = opds E fr' xs
  | [], _ => rfl
  | x :: xs, h => by
    simp only [opds]
    rw [h x (by simp), opds_congr xs (fun y hy => h y (by simp [hy]))]
theorem partsA_congr {fr fr' : Tr AV} : ∀ (ps : List (Nat × Operand)), (∀ x ∈ ps.map (·.2), opd E fr x = opd E fr' x) → partsA E fr ps = partsA E fr' ps
  | [], _ => rfl
  | (i, x) :: ps, h => by
    simp only [partsA]
    rw [h x (by simp), partsA_congr ps (fun y hy => h y (by simp at hy ⊢; exact .inr hy))]
theorem optOpd_congr {fr fr' : Tr AV} {x : Option Operand} (h : ∀ y ∈ x, opd E fr y = opd E fr' y) : optOpd E fr x = optOpd E fr' x := by
  cases x with
  | none => rfl
  | some y => simp only [optOpd]; rw [h y rfl]
theorem execA_congr {fr fr' : Tr AV} {o : Oper} (h : ∀ x ∈ o.op.operands.toList, opd E fr x = opd E fr' x) : execA E H fr o = execA E H fr' o := by
  unfold execA
  cases hop : o.op <;> rw [hop] at h <;> simp only [Op.operands] at h <;> try dsimp only
  case build t ps => rw [partsA_congr ps.toList (by simpa using h)]
  case buildSlice t l ps => rw [partsA_congr ps.toList (by simpa using h)]
  case makeFunc f a b => cases f <;> first | rfl | (dsimp only; rw [opds_congr a.toList (fun x hx => h x (by simp at hx ⊢; exact .inl hx)), opds_congr b.toList (fun x hx => h x (by simp at hx ⊢; exact .inr hx))])
  case next x s => cases s <;> first | rfl | (dsimp only; rw [h x (by simp)])
  case slice t x lo hi mx => 
    rw [h x (by simp), optOpd_congr (x := lo) (fun y hy => h y (by simp_all)), optOpd_congr (x := hi) (fun y hy => h y (by simp_all)), optOpd_congr (x := mx) (fun y hy => h y (by simp_all))]
  case call c =>
    cases hc : c.callee with
    | builtin b => simp only; rw [opds_congr c.args.toList (fun x hx => h x (by simp only [Call.operands, hc]; simpa using hx))]
    | value f => simp only; rw [h f (by simp [Call.operands, hc]), opds_congr c.args.toList (fun x hx => h x (by simp only [Call.operands, hc]; simp at hx ⊢; exact .inr hx))]
    | invoke r n => rfl
  case «defer» c =>
    cases hc : c.callee with
    | value f => simp only; rw [h f (by simp [Call.operands, hc]), opds_congr c.args.toList (fun x hx => h x (by simp only [Call.operands, hc]; simp at hx ⊢; exact .inr hx))]
    | _ => rfl
  case makeMap t r => cases r <;> rfl
  all_goals first | rfl | (simp only [List.mem_cons, List.not_mem_nil, or_false, forall_eq, forall_eq_or_imp] at h; simp only [h])
theorem vh_same {x : Option AV} {v : AV} {H' : AHeap} (h : vh H x = some (.val v H')) : H' = H := by
  obtain ⟨u, _, e⟩ := vh_some h
  cases e; rfl
theorem quiet_same {fr : Tr AV} {o : Oper} {v : AV} {H' : AHeap} (hq : quietOp E o.op = true) (h : execA E H fr o = some (.val v H')) : H' = H := by
  unfold execA at h
  cases hop : o.op <;> rw [hop] at h hq <;> (try dsimp only at h) <;> (try (simp only [quietOp, Bool.false_eq_true] at hq; done))
  case move x => exact vh_same h
  case assign x => exact vh_same h
  case pick c a b => split at h <;> first | exact vh_same h | cases h
  case build t ps => split at h <;> first | exact vh_same h | cases h
  case load t x => split at h <;> first | exact vh_same h | cases h
  case nilCheck x => split at h <;> first | (cases h; rfl) | cases h
  case binOp op t x y z =>
    split at h
    · cases hb : (isConst x || isConst y) with
      | true => simp only [hb, cond_true] at h; exact vh_same h
      | false => simp [hb] at h
    · exact vh_same h
    · cases h
  case unOp op t x => split at h <;> first | exact vh_same h | cases h
  case makeInterface t x =>
    split at h
    · split at h
      · cases h
      · cases h; rfl
    · cases h
  case makeFunc f a b =>
    cases f <;> dsimp only at h <;> first | cases h | skip
    split at h <;> first | (cases h; rfl) | cases h
  case slice t x lo hi mx => split at h <;> first | exact vh_same h | cases h
  case lookup t x i ok => split at h <;> first | exact vh_same h | cases h
  case fieldAddr t x f => split at h <;> first | exact vh_same h | cases h
  case field t x f => split at h <;> first | exact vh_same h | cases h
  case indexAddr t x i => split at h <;> first | exact vh_same h | cases h
  case index t x i => split at h <;> first | exact vh_same h | cases h
  case typeAssert x xt t ok => split at h <;> first | exact vh_same h | cases h
  case extract x i =>
    split at h
    · split at h
      · cases h; rfl
      · cases h
    · cases h
  case convert s d x =>
    split at h
    case h_2 => cases h
    split at h
    · cases h; rfl
    obtain ⟨u, H2, hc, e⟩ := vhh_some h
    cases e
    unfold convertA at hc
    simp only [quietOp] at hq
    split at hc
    case h_2 => cases hc
    rename_i si di hs hd
    rw [hd] at hq
    dsimp only at hq
    split at hc
    · cases hc; rfl
    · simp only [Bool.cond_eq_ite] at hc
      split at hc
      · cases hc; rfl
      · cases hc
    · cases hc; rfl
    · split at hc
      case h_2 => cases hc
      split at hc
      case h_2 => cases hc
      split at hc
      case h_2 => cases hc
      split at hc
      case h_2 => cases hc
      split at hc
      · cases hc; rfl
      · cases hc
    · simp_all
    · simp_all
    · cases hc
  case call c =>
    simp only [quietOp] at hq
    cases hc : c.callee with
    | value f => rw [hc] at hq; cases hq
    | invoke r n => rw [hc] at hq; cases hq
    | builtin b =>
      rw [hc] at hq h
      dsimp only at h
      split at h
      case h_2 => cases h
      rename_i l hl
      unfold builtinA at h
      cases b <;> (try (simp only [Bool.false_eq_true] at hq; done)) <;> (repeat' split at h)
      all_goals first | (cases h; rfl) | cases h | (exfalso; simp_all; done)
structure Stat (E : Env) (ops : Array Oper) (an : Tr Nat) : Prop where
  anc : ∀ (i : Nat) (o : Oper), ops[i]? = some o → ∃ m, an.get i = some m ∧ ∀ k, bitIn m k = true → ∃ e ∈ o.after.toList, Region.binds .any e = true ∧ (k = e.on ∨ ∃ m', an.get e.on = some m' ∧ bitIn m' k = true)
  low : ∀ (i : Nat) (o : Oper), ops[i]? = some o → ∀ e ∈ o.after.toList, Region.binds .any e = true → e.on < i
  guard : ∀ (i : Nat) (o : Oper) (j : Nat) (b : Bool), ops[i]? = some o → o.guard = some (j, b) → ∃ m, an.get i = some m ∧ bitIn m j = true
  self : ∀ (i : Nat) (o : Oper) (d : Tmp), ops[i]? = some o → o.dst = some d → reads d o = false
  uniq : ∀ (i j : Nat) (o p : Oper) (d : Tmp), ops[i]? = some o → ops[j]? = some p → i < j → o.dst = some d → p.dst ≠ some d
  rd1 : ∀ (i j : Nat) (o p : Oper) (d : Tmp), ops[i]? = some o → ops[j]? = some p → i < j → o.dst = some d → reads d p = true → ordered an i j = true
  rd2 : ∀ (i j : Nat) (o p : Oper) (d : Tmp), ops[i]? = some o → ops[j]? = some p → i < j → p.dst = some d → reads d o = true → ordered an i j = true
  rdf : ∀ (i j : Nat) (o p : Oper) (d : Tmp), ops[i]? = some o → ops[j]? = some p → i < j → o.dst = some d → reads d p = true → freshOp o.op = true →
    ∀ (k : Nat) (q : Oper), k ≤ i → ops[k]? = some q → quietOp E q.op = false → ∃ m, an.get j = some m ∧ bitIn m k = true
  gf : ∀ (i j : Nat) (o p : Oper) (b : Bool), ops[i]? = some o → ops[j]? = some p → i < j → p.guard = some (i, b) → freshOp o.op = false
  loud : ∀ (i j : Nat) (o p : Oper), ops[i]? = some o → ops[j]? = some p → i < j → quietOp E o.op = false → quietOp E p.op = false → freshOp p.op = false → ordered an i j = true
theorem loudsOf_bit : ∀ (os : List Oper) (i k : Nat) (q : Oper), os[k]? = some q → quietOp E q.op = false → bitIn (loudsOf E os i) (i + k) = true := by
  intro os
  induction os with
  | nil => intro i k q h; simp at h
  | cons o os ih =>
    intro i k q h hq
    cases k with
    | zero =>
      simp at h; subst h
      simp only [loudsOf, hq, cond_false, bitIn_or, bitIn_two]
      simp
    | succ k =>
      have := ih (i + 1) k q (by simpa using h) hq
      rw [show i + 1 + k = i + (k + 1) by omega] at this
      simp only [loudsOf]
      cases quietOp E o.op
      · simp only [cond_false, bitIn_or, this, Bool.or_true]
      · simpa using this
theorem freshOf_bit : ∀ (os : List Oper) (i k : Nat) (q : Oper), os[k]? = some q → freshOp q.op = true → bitIn (freshOf os i) (i + k) = true := by
  intro os
  induction os with
  | nil => intro i k q h; simp at h
  | cons o os ih =>
    intro i k q h hq
    cases k with
    | zero =>
      simp at h; subst h
      simp only [freshOf, hq, cond_true, bitIn_or, bitIn_two]
      simp
    | succ k =>
      have := ih (i + 1) k q (by simpa using h) hq
      rw [show i + 1 + k = i + (k + 1) by omega] at this
      simp only [freshOf]
      cases freshOp o.op
      · simpa using this
      · simp only [cond_true, bitIn_or, this, Bool.or_true]
theorem within_bit {m lm i k : Nat} (h : within m (lm % 2 ^ i) = true) (hk : k < i) (hb : bitIn lm k = true) : bitIn m k = true := by
  unfold within at h
  simp only [Nat.beq_eq] at h
  rw [bitIn_eq] at hb ⊢
  have h2 := congrArg (·.testBit k) h
  have h3 : (lm % 2 ^ i).testBit k = true := by
    rw [Nat.testBit_mod_two_pow, hb]; simp; omega
  rw [h3] at h2
  have h4 : (m &&& (lm % 2 ^ i)).testBit k = true := h2
  rw [Nat.testBit_and] at h4
  simp only [Bool.and_eq_true] at h4
  exact h4.1
theorem wmap_spec : ∀ (os : List Oper) (i : Nat) (acc wm : Tr Nat), wmap os i acc = some wm → (∀ x v, acc.get x = some v → wm.get x = some v) ∧ ∀ (k : Nat) (o : Oper) (d : Tmp), os[k]? = some o → o.dst = some d → wm.get d = some (i + k) := by
  intro os
  induction os with
  | nil =>
    intro i acc wm h
    simp only [wmap, Option.some.injEq] at h; subst h
    exact ⟨fun _ _ h => h, fun k o d h => by simp at h⟩
  | cons o os ih =>
    intro i acc wm h
    simp only [wmap] at h
    split at h
    · rename_i hd
      obtain ⟨a, b⟩ := ih _ _ _ h
      refine ⟨a, fun k q d hk hq => ?_⟩
      cases k with
      | zero => simp at hk; subst hk; rw [hd] at hq; cases hq
      | succ k => rw [show i + (k + 1) = i + 1 + k by omega]; exact b k q d (by simpa using hk) hq
    · rename_i d hd
      split at h
      · cases h
      rename_i hacc
      simp only [Bool.cond_eq_ite, Nat.blt_eq] at h
      split at h
      case isFalse => cases h
      rename_i hlt
      obtain ⟨a, b⟩ := ih _ _ _ h
      refine ⟨fun x v hx => a x v ?_, fun k q d' hk hq => ?_⟩
      · rw [Tr.get_set_eq _ _ _ hlt]
        by_cases e : x = d
        · subst e; rw [hacc] at hx; cases hx
        · rw [if_neg e]; exact hx
      · cases k with
        | zero =>
          simp at hk; subst hk
          rw [hd] at hq; cases hq
          exact a d i (by rw [Tr.get_set_eq _ _ _ hlt, if_pos rfl])
        | succ k => rw [show i + (k + 1) = i + 1 + k by omega]; exact b k q d' (by simpa using hk) hq
theorem allFrom_at {lm fm : Nat} {an wm : Tr Nat} : ∀ (os : List Oper) (i : Nat), allFrom E lm fm an wm os i = true → ∀ (k : Nat) (o : Oper), os[k]? = some o → oneOk E lm fm an wm (i + k) o = true := by
  intro os
  induction os with
  | nil => intro i _ k o h; simp at h
  | cons o os ih =>
    intro i h k q hk
    simp only [allFrom, Bool.and_eq_true] at h
    cases k with
    | zero => simp at hk; subst hk; exact h.1
    | succ k => rw [show i + (k + 1) = i + 1 + k by omega]; exact ih (i + 1) h.2 k q (by simpa using hk)
theorem binds_any (e : Edge) : Region.binds .any e = true ↔ (∀ r, e.ground ≠ .textOnly r) ∧ (∀ r, e.ground ≠ .gcOnly r) := by
  unfold Region.binds
  cases e.ground <;> simp
theorem ancOf_spec {acc : Tr Nat} : ∀ (es : List Edge) (i m : Nat), ancOf acc es i = some m →
    (∀ e ∈ es, Region.binds .any e = true → e.on < i) ∧ ∀ k, bitIn m k = true → ∃ e ∈ es, Region.binds .any e = true ∧ (k = e.on ∨ ∃ m', acc.get e.on = some m' ∧ bitIn m' k = true) := by
  intro es
  induction es with
  | nil =>
    intro i m h
    simp only [ancOf, Option.some.injEq] at h; subst h
    exact ⟨fun e he => (by cases he), fun k hk => (by rw [bitIn_eq] at hk; simp at hk)⟩
  | cons e es ihe =>
    intro i m h
    have skip : Region.binds .any e = false → ancOf acc es i = some m → _ := fun hb h' => by
      obtain ⟨a, b⟩ := ihe i m h'
      exact (⟨fun e' he' hb' => by
          simp only [List.mem_cons] at he'
          rcases he' with rfl | he'
          · rw [hb] at hb'; cases hb'
          · exact a e' he' hb', fun k hk => by
          obtain ⟨e', he', r⟩ := b k hk
          exact ⟨e', by simp [he'], r⟩⟩ : (∀ e' ∈ e :: es, Region.binds .any e' = true → e'.on < i) ∧ ∀ k, bitIn m k = true → ∃ e' ∈ e :: es, Region.binds .any e' = true ∧ (k = e'.on ∨ ∃ m', acc.get e'.on = some m' ∧ bitIn m' k = true))
    simp only [ancOf] at h
    split at h
    · rename_i r hg; exact skip (by simp [Region.binds, hg]) h
    · rename_i r hg; exact skip (by simp [Region.binds, hg]) h
    · rename_i h1 h2
      have hb : Region.binds .any e = true := (binds_any e).2 ⟨h1, h2⟩
      simp only [Bool.cond_eq_ite, Nat.blt_eq] at h
      split at h
      case isFalse => cases h
      rename_i hlt
      split at h
      case h_2 => cases h
      rename_i m1 r hm1 hr
      simp only [Option.some.injEq] at h; subst h
      obtain ⟨a, b⟩ := ihe i r hr
      refine ⟨fun e' he' hb' => ?_, fun k hk => ?_⟩
      · simp only [List.mem_cons] at he'
        rcases he' with rfl | he'
        · exact hlt
        · exact a e' he' hb'
      · rw [bitIn_or, bitIn_or, bitIn_two] at hk
        simp only [Bool.or_eq_true, decide_eq_true_eq] at hk
        rcases hk with (hk | hk) | hk
        · exact ⟨e, by simp, hb, .inl hk.symm⟩
        · exact ⟨e, by simp, hb, .inr ⟨m1, hm1, hk⟩⟩
        · obtain ⟨e', he', r'⟩ := b k hk
          exact ⟨e', by simp [he'], r'⟩
theorem ancs_spec : ∀ (os : List Oper) (i : Nat) (acc an : Tr Nat), i + os.length ≤ 1000000 → ancs os i acc = some an →
    (∀ k, k < i → an.get k = acc.get k) ∧ ∀ (k : Nat) (o : Oper), os[k]? = some o → ∃ m, an.get (i + k) = some m ∧
      (∀ e ∈ o.after.toList, Region.binds .any e = true → e.on < i + k) ∧ ∀ b, bitIn m b = true → ∃ e ∈ o.after.toList, Region.binds .any e = true ∧ (b = e.on ∨ ∃ m', an.get e.on = some m' ∧ bitIn m' b = true) := by
  intro os
  induction os with
  | nil =>
    intro i acc an _ h
    simp only [ancs, Option.some.injEq] at h; subst h
    exact ⟨fun _ _ => rfl, fun k o h => by simp at h⟩
  | cons o os iho =>
    intro i acc an hl h
    simp only [List.length_cons] at hl
    simp only [ancs] at h
    split at h
    · cases h
    rename_i m hm
    obtain ⟨a, b⟩ := iho (i + 1) _ an (by omega) h
    have keep : ∀ k, k < i → an.get k = acc.get k := fun k hk => by
      rw [a k (by omega), Tr.get_set_eq _ _ _ (by omega), if_neg (by omega)]
    have here : an.get i = some m := by rw [a i (by omega), Tr.get_set_eq _ _ _ (by omega), if_pos rfl]
    refine ⟨keep, fun k o' hk => ?_⟩
    cases k with
    | zero =>
      simp at hk; subst hk
      obtain ⟨c, d⟩ := ancOf_spec _ _ _ hm
      refine ⟨m, here, c, fun bb hb => ?_⟩
      obtain ⟨e, he, hbe, hk⟩ := d bb hb
      refine ⟨e, he, hbe, ?_⟩
      rcases hk with hk | ⟨m', hm', hk⟩
      · exact .inl hk
      · exact .inr ⟨m', by rw [keep _ (c e he hbe)]; exact hm', hk⟩
    | succ k =>
      have := b k o' (by simpa using hk)
      rw [show i + (k + 1) = i + 1 + k by omega]; exact this
theorem stat_of {ops : Array Oper} {an : Tr Nat} (hn : ops.size ≤ 1000000) (han : ancs ops.toList 0 .nil = some an) (hall : allOk E an ops.toList = true) : Stat E ops an := by
  have at_ : ∀ (i : Nat) (o : Oper), ops[i]? = some o → ops.toList[i]? = some o := fun i o h => by simpa using h
  obtain ⟨_, sp⟩ := ancs_spec ops.toList 0 .nil an (by simpa using hn) han
  unfold allOk at hall
  split at hall
  · cases hall
  rename_i wm hwm
  obtain ⟨_, wsp⟩ := wmap_spec ops.toList 0 .nil wm hwm
  have one := allFrom_at ops.toList 0 hall
  simp only [Nat.zero_add] at sp wsp one
  have lmb : ∀ (k : Nat) (q : Oper), ops[k]? = some q → quietOp E q.op = false → bitIn (loudsOf E ops.toList 0) k = true := fun k q hk hq => by
    have := loudsOf_bit (E := E) ops.toList 0 k q (at_ k q hk) hq
    rwa [Nat.zero_add] at this
  have fmb : ∀ (k : Nat) (q : Oper), ops[k]? = some q → freshOp q.op = true → bitIn (freshOf ops.toList 0) k = true := fun k q hk hq => by
    have := freshOf_bit ops.toList 0 k q (at_ k q hk) hq
    rwa [Nat.zero_add] at this
  have ask : ∀ (j : Nat) (p : Oper), ops[j]? = some p → ∃ m, an.get j = some m ∧ (∀ t, reads t p = true → argOk (loudsOf E ops.toList 0) (freshOf ops.toList 0) an wm j m (.tmp t) = true) ∧
      (∀ g b, p.guard = some (g, b) → bitIn m g = true ∧ bitIn (freshOf ops.toList 0) g = false) ∧ (quietOp E p.op = false → freshOp p.op = false → within m (loudsOf E ops.toList 0 % 2 ^ j) = true) := fun j p hj => by
    have := one j p (at_ j p hj)
    unfold oneOk at this
    split at this
    · cases this
    rename_i m hm
    simp only [Bool.and_eq_true, List.all_eq_true] at this
    obtain ⟨h1, h2, h3⟩ := this
    refine ⟨m, hm, fun t ht => ?_, fun g b hg => ?_, fun hq hf => ?_⟩
    · simp only [reads, List.any_eq_true] at ht
      obtain ⟨x, hx, hxt⟩ := ht
      cases x <;> simp only [isTmp, Nat.beq_eq, Bool.false_eq_true] at hxt
      subst hxt
      exact h1 _ hx
    · rw [hg] at h2
      simpa using h2
    · simpa [hq, hf] using h3
  have before : ∀ (i j : Nat) (o p : Oper) (d : Tmp), ops[i]? = some o → ops[j]? = some p → i < j → o.dst = some d → reads d p = true → ∃ m, an.get j = some m ∧ bitIn m i = true ∧ (freshOp o.op = true → within m (loudsOf E ops.toList 0 % 2 ^ (i + 1)) = true) := by
    intro i j o p d hi hj hij hd hr
    obtain ⟨m, hm, h1, _, _⟩ := ask j p hj
    have := h1 d hr
    simp only [argOk, wsp i o d (at_ i o hi) hd, Bool.cond_eq_ite, Nat.blt_eq, hij, if_true, Bool.and_eq_true] at this
    refine ⟨m, hm, this.1, fun hf => ?_⟩
    have := this.2
    simpa [fmb i o hi hf] using this
  have ordOf : ∀ (i j : Nat) (o : Oper) (m : Nat), ops[i]? = some o → an.get j = some m → bitIn m i = true → ordered an i j = true := fun i j o m hi hm hb => by
    obtain ⟨mi, hmi, _⟩ := sp i o (at_ i o hi)
    simp [ordered, hmi, hm, hb]
  refine ⟨?_, ?_, ?_, ?_, ?_, ?_, ?_, ?_, ?_, ?_⟩
  · intro i o h
    obtain ⟨m, a, _, c⟩ := sp i o (at_ i o h)
    exact ⟨m, a, c⟩
  · intro i o h
    obtain ⟨m, a, b, c⟩ := sp i o (at_ i o h)
    exact b
  · intro i o j b h hg
    obtain ⟨m, hm, _, h2, _⟩ := ask i o h
    exact ⟨m, hm, (h2 j b hg).1⟩
  · intro i o d h hd
    cases hr : reads d o with
    | false => rfl
    | true =>
      obtain ⟨m, hm, h1, _, _⟩ := ask i o h
      have := h1 d hr
      simp [argOk, wsp i o d (at_ i o h) hd] at this
  · intro i j o p d hi hj hij hd hp
    have a := wsp i o d (at_ i o hi) hd
    have b := wsp j p d (at_ j p hj) hp
    rw [a] at b
    simp only [Option.some.injEq] at b
    omega
  · intro i j o p d hi hj hij hd hr
    obtain ⟨m, hm, hb, _⟩ := before i j o p d hi hj hij hd hr
    exact ordOf i j o m hi hm hb
  · intro i j o p d hi hj hij hd hr
    obtain ⟨m, hm, h1, _, _⟩ := ask i o hi
    have := h1 d hr
    have nlt : ¬ j < i := by omega
    simp only [argOk, wsp j p d (at_ j p hj) hd, Bool.cond_eq_ite, Nat.blt_eq, nlt, if_false, hij, if_true] at this
    split at this
    · rename_i mj hmj
      exact ordOf i j o mj hi hmj this
    · cases this
  · intro i j o p d hi hj hij hd hr hf k q hk hq hl
    obtain ⟨m, hm, _, hw⟩ := before i j o p d hi hj hij hd hr
    exact ⟨m, hm, within_bit (hw hf) (by omega) (lmb k q hq hl)⟩
  · intro i j o p b hi hj hij hg
    obtain ⟨m, hm, _, h2, _⟩ := ask j p hj
    have := (h2 i b hg).2
    cases hf : freshOp o.op with
    | false => rfl
    | true => rw [fmb i o hi hf] at this; cases this
  · intro i j o p hi hj hij ho hp hf
    obtain ⟨m, hm, _, _, h3⟩ := ask j p hj
    exact ordOf i j o m hi hm (within_bit (h3 hp hf) hij (lmb i o hi ho))
def Anc (an : Tr Nat) (j i : Nat) : Prop := ∃ m, an.get j = some m ∧ bitIn m i = true
theorem Stat.step {ops : Array Oper} {an : Tr Nat} (st : Stat E ops an) {j i : Nat} {o : Oper} (h : ops[j]? = some o) (ha : Anc an j i) :
    ∃ e ∈ o.after.toList, Region.binds .any e = true ∧ e.on < j ∧ (i = e.on ∨ Anc an e.on i) := by
  obtain ⟨m, hm, hb⟩ := ha
  obtain ⟨m', hm', sp⟩ := st.anc j o h
  rw [hm] at hm'; cases hm'
  obtain ⟨e, he, hbe, hk⟩ := sp i hb
  exact ⟨e, he, hbe, st.low j o h e he hbe, hk⟩
theorem Stat.lt {ops : Array Oper} {an : Tr Nat} (st : Stat E ops an) : ∀ (j : Nat) {i : Nat} {o : Oper}, ops[j]? = some o → Anc an j i → i < j := by
  intro j
  induction j using Nat.strongRecOn with
  | _ j ihj =>
    intro i o h ha
    obtain ⟨e, he, hbe, hlt, hk⟩ := st.step h ha
    rcases hk with hk | hk
    · omega
    · have hs : e.on < ops.size := Nat.lt_trans hlt (Array.getElem?_eq_some_iff.1 h).1
      exact Nat.lt_trans (ihj e.on hlt (Array.getElem?_eq_getElem hs) hk) hlt
def Closed (ops : Array Oper) (S : Nat → Prop) : Prop := ∀ (j : Nat) (o : Oper), ops[j]? = some o → S j → ∀ e ∈ o.after.toList, Region.binds .any e = true → S e.on
theorem Stat.ancIn {ops : Array Oper} {an : Tr Nat} (st : Stat E ops an) {S : Nat → Prop} (hS : Closed ops S) : ∀ (j : Nat) {i : Nat} {o : Oper}, ops[j]? = some o → (∀ e ∈ o.after.toList, Region.binds .any e = true → S e.on) → Anc an j i → S i := by
  intro j
  induction j using Nat.strongRecOn with
  | _ j ihj =>
    intro i o h hd ha
    obtain ⟨e, he, hbe, hlt, hk⟩ := st.step h ha
    rcases hk with hk | hk
    · rw [hk]; exact hd e he hbe
    · have hs : e.on < ops.size := Nat.lt_trans hlt (Array.getElem?_eq_some_iff.1 h).1
      exact ihj e.on hlt (Array.getElem?_eq_getElem hs) (hS _ _ (Array.getElem?_eq_getElem hs) (hd e he hbe)) hk
theorem Stat.ord {ops : Array Oper} {an : Tr Nat} (st : Stat E ops an) {i j : Nat} {o : Oper} (hi : ops[i]? = some o) (hij : i < j) (h : ordered an i j = true) : Anc an j i := by
  unfold ordered at h
  split at h
  · rename_i mi mj h1 h2
    simp only [Bool.or_eq_true] at h
    rcases h with h | h
    · exact ⟨mj, h2, h⟩
    · have := st.lt i hi ⟨mi, h1, h⟩; omega
  · cases h
structure TRec where
  o : Oper
  w : Bool
  v : AV
  fr : AFr
  H : AHeap
  H' : AHeap
structure StepOk (E : Env) (ih : Task → Option TRes) (ops : Array Oper) (r : TRec) : Prop where
  want : wantedA ops r.fr.t r.o = some r.w
  no : r.w = false → r.v = undefA ∧ r.H' = r.H
  quiet : r.w = true → quietOp E r.o.op = true → r.H' = r.H ∧ quietA E r.H r.fr.t r.o = some r.v
  loud : r.w = true → quietOp E r.o.op = false → ∃ x, execA E r.H r.fr.t r.o = some x ∧ (callsA ih r.H x = some (.val r.v r.H') ∨ (callsA ih r.H x = some (.skip r.H') ∧ r.v = undefA))
def Trace (E : Env) (ih : Task → Option TRes) (ops : Array Oper) : List TRec → Nat → AFr → AHeap → AFr → AHeap → Prop
  | [], _, fr, H, fr', H' => fr' = fr ∧ H' = H
  | r :: T, i, fr, H, fr', H' => ops[i]? = some r.o ∧ r.fr = fr ∧ r.H = H ∧ StepOk E ih ops r ∧ Trace E ih ops T (i + 1) (fr.put r.o.dst r.v) r.H' fr' H'
def WL (E : Env) (r : TRec) : Prop := r.w = true ∧ quietOp E r.o.op = false
def WQ (E : Env) (r : TRec) : Prop := r.w = true ∧ quietOp E r.o.op = true
structure Stab (E : Env) (an : Tr Nat) (T : List TRec) (i : Nat) (qs : List QRec) (es : List ERec) : Prop where
  e : ∀ (k : Nat) (r : TRec), T[k]? = some r → WQ E r → ∀ x ∈ es, Anc an (i + k) x.j ∨ quietA E x.H r.fr.t r.o = some r.v
  q : ∀ (k : Nat) (r : TRec), T[k]? = some r → WL E r → ∀ x ∈ qs, Anc an (i + k) x.i ∨ quietA E r.H' x.fr x.o = some x.v
  eq : ∀ (j k : Nat) (r s : TRec), T[j]? = some r → T[k]? = some s → j < k → WL E r → WQ E s → Anc an (i + k) (i + j) ∨ quietA E r.H s.fr.t s.o = some s.v
  qe : ∀ (j k : Nat) (r s : TRec), T[j]? = some r → T[k]? = some s → j < k → WQ E r → WL E s → Anc an (i + k) (i + j) ∨ quietA E s.H' r.fr.t r.o = some r.v
theorem Stab.nil {an : Tr Nat} {i : Nat} {qs : List QRec} {es : List ERec} : Stab E an [] i qs es :=
  ⟨fun k r h => by simp at h, fun k r h => by simp at h, fun j k r s h => by simp at h, fun j k r s h => by simp at h⟩
theorem Stab.cons {an : Tr Nat} {i : Nat} {qs qs' : List QRec} {es es' : List ERec} {r : TRec} {T : List TRec} (h : Stab E an T (i + 1) qs' es')
    (hq : ∀ x ∈ qs, x ∈ qs') (he : ∀ x ∈ es, x ∈ es') (rq : WQ E r → ⟨i, r.o, r.fr.t, r.v⟩ ∈ qs') (re : WL E r → ⟨i, r.H⟩ ∈ es')
    (se : WQ E r → ∀ x ∈ es, Anc an i x.j ∨ quietA E x.H r.fr.t r.o = some r.v) (sq : WL E r → ∀ x ∈ qs, Anc an i x.i ∨ quietA E r.H' x.fr x.o = some x.v) : Stab E an (r :: T) i qs es where
  e := fun k s hk hw x hx => by
    cases k with
    | zero => simp at hk; subst hk; exact se hw x hx
    | succ k => have := h.e k s (by simpa using hk) hw x (he x hx); rw [show i + (k + 1) = i + 1 + k by omega]; exact this
  q := fun k s hk hw x hx => by
    cases k with
    | zero => simp at hk; subst hk; exact sq hw x hx
    | succ k => have := h.q k s (by simpa using hk) hw x (hq x hx); rw [show i + (k + 1) = i + 1 + k by omega]; exact this
  eq := fun j k a b ha hb hjk hwa hwb => by
    cases k with
    | zero => omega
    | succ k =>
      cases j with
      | zero => simp at ha; subst ha; have := h.e k b (by simpa using hb) hwb _ (re hwa); rw [show i + (k + 1) = i + 1 + k by omega]; exact this
      | succ j => have := h.eq j k a b (by simpa using ha) (by simpa using hb) (by omega) hwa hwb; rw [show i + (k + 1) = i + 1 + k by omega, show i + (j + 1) = i + 1 + j by omega]; exact this
  qe := fun j k a b ha hb hjk hwa hwb => by
    cases k with
    | zero => omega
    | succ k =>
      cases j with
      | zero => simp at ha; subst ha; have := h.q k b (by simpa using hb) hwb _ (rq hwa); rw [show i + (k + 1) = i + 1 + k by omega]; exact this
      | succ j => have := h.qe j k a b (by simpa using ha) (by simpa using hb) (by omega) hwa hwb; rw [show i + (k + 1) = i + 1 + k by omega, show i + (j + 1) = i + 1 + j by omega]; exact this
theorem sameAt_some {H : AHeap} {q : QRec} (h : sameAt E H q = true) : quietA E H q.fr q.o = some q.v := by
  unfold sameAt at h
  split at h
  · rename_i u hu
    rw [hu, eqb_eq _ _ h]
  · cases h
theorem stableE_some {q : QRec} {m : Nat} : ∀ {es : List ERec}, stableE E q m es = true → ∀ x ∈ es, bitIn m x.j = true ∨ quietA E x.H q.fr q.o = some q.v := by
  intro es
  induction es with
  | nil => intro _ x hx; cases hx
  | cons e es ihe =>
    intro h x hx
    simp only [stableE, Bool.and_eq_true, Bool.or_eq_true] at h
    simp only [List.mem_cons] at hx
    rcases hx with rfl | hx
    · exact h.1.imp id sameAt_some
    · exact ihe h.2 x hx
theorem stableQ_some {H : AHeap} {m : Nat} : ∀ {qs : List QRec}, stableQ E H m qs = true → ∀ x ∈ qs, bitIn m x.i = true ∨ quietA E H x.fr x.o = some x.v := by
  intro qs
  induction qs with
  | nil => intro _ x hx; cases hx
  | cons e es ihe =>
    intro h x hx
    simp only [stableQ, Bool.and_eq_true, Bool.or_eq_true] at h
    simp only [List.mem_cons] at hx
    rcases hx with rfl | hx
    · exact h.1.imp id sameAt_some
    · exact ihe h.2 x hx
def EndOk (E : Env) (ih : Task → Option TRes) (ops : Array Oper) (an : Tr Nat) (fr0 : AFr) (i : Nat) (os : List Oper) (T : List TRec) (fe : AFr) (He : AHeap) (e : AExit) (fr' : AFr) (H' : AHeap) : Prop :=
  (T.length = os.length ∧ e = .normal ∧ fr' = fe ∧ H' = He) ∨
  (T.length < os.length ∧ ∃ o x v, ops[i + T.length]? = some o ∧ wantedA ops fe.t o = some true ∧ quietOp E o.op = false ∧ execA E He fe.t o = some x ∧ callsA ih He x = some (.panic v H') ∧ e = .panic v ∧ fr' = { fr0 with t := delDsts fr0.t ops.toList } ∧
    ∀ j, i + T.length < j → j < i + os.length → Anc an j (i + T.length))
theorem restOk_some {an : Tr Nat} {i : Nat} : ∀ (os : List Oper) (j : Nat), restOk an i os j = true → ∀ k, j ≤ k → k < j + os.length → Anc an k i := by
  intro os
  induction os with
  | nil => intro j _ k h1 h2; simp at h2; omega
  | cons o os iho =>
    intro j h k h1 h2
    simp only [restOk, Bool.and_eq_true] at h
    simp only [List.length_cons] at h2
    by_cases hk : k = j
    · subst hk
      have := h.1
      split at this
      · rename_i m hm; exact ⟨m, hm, this⟩
      · cases this
    · exact iho (j + 1) h.2 k (by omega) (by omega)
theorem opsD_trace {ops : Array Oper} {an : Tr Nat} {fr0 : AFr} {e : AExit} {fr' : AFr} {H' : AHeap} :
    ∀ (os : List Oper) (i : Nat) (qs : List QRec) (es : List ERec) (fr : AFr) (H : AHeap), ops.toList.drop i = os → opsD E ih ops an fr0 os i qs es fr H = some (.code e fr' H') →
      ∃ T fe He, Trace E ih ops T i fr H fe He ∧ Stab E an T i qs es ∧ EndOk E ih ops an fr0 i os T fe He e fr' H' := by
  intro os
  induction os with
  | nil =>
    intro i qs es fr H _ h
    simp only [opsD, Option.some.injEq, TRes.code.injEq] at h
    obtain ⟨rfl, rfl, rfl⟩ := h
    exact ⟨[], fr, H, ⟨rfl, rfl⟩, Stab.nil, .inl ⟨rfl, rfl, rfl, rfl⟩⟩
  | cons o rest iho =>
    intro i qs es fr H hd h
    have ho : ops[i]? = some o := by
      have := congrArg (·[0]?) hd
      simpa using this
    have hd' : ops.toList.drop (i + 1) = rest := by rw [← List.tail_drop, hd]; rfl
    have up : ∀ {T : List TRec} {fe : AFr} {He : AHeap} (r : TRec), r.o = o → EndOk E ih ops an fr0 (i + 1) rest T fe He e fr' H' → EndOk E ih ops an fr0 i (o :: rest) (r :: T) fe He e fr' H' := by
      intro T fe He r _ h
      rcases h with ⟨h1, h2⟩ | ⟨h1, o', x, v, h2, h3, h4, h5, h6, h7, h8, h9⟩
      · exact .inl ⟨by simp [h1], h2⟩
      · refine .inr ⟨by simp; omega, o', x, v, ?_, h3, h4, h5, h6, h7, h8, ?_⟩
        · rw [List.length_cons, show i + (T.length + 1) = i + 1 + T.length by omega]; exact h2
        · intro j a b
          rw [List.length_cons, show i + (T.length + 1) = i + 1 + T.length by omega]
          simp only [List.length_cons] at a b
          exact h9 j (by omega) (by omega)
    simp only [opsD] at h
    split at h
    · rename_i hw
      obtain ⟨T, fe, He, t1, t2, t3⟩ := iho (i + 1) qs es _ _ hd' h
      refine ⟨⟨o, false, undefA, fr, H, H⟩ :: T, fe, He, ⟨ho, rfl, rfl, ⟨hw, fun _ => ⟨rfl, rfl⟩, fun h => (by cases h), fun h => (by cases h)⟩, t1⟩, ?_, up _ rfl t3⟩
      exact t2.cons (fun _ h => h) (fun _ h => h) (fun h => by cases h.1) (fun h => by cases h.1) (fun h => by cases h.1) (fun h => by cases h.1)
    · rename_i m hw hm
      split at h
      · cases h
      rename_i r hr
      cases hq : quietOp E o.op with
      | true =>
        simp only [hq, cond_true] at h
        split at h
        case h_2 => cases h
        rename_i v H1
        cases hst : stableE E ⟨i, o, fr.t, v⟩ m es with
        | false => simp [hst] at h
        | true =>
          simp only [hst, cond_true] at h
          obtain ⟨T, fe, He, t1, t2, t3⟩ := iho (i + 1) _ es _ _ hd' h
          refine ⟨⟨o, true, v, fr, H, H⟩ :: T, fe, He, ⟨ho, rfl, rfl, ⟨hw, fun h => (by cases h), fun _ _ => ⟨rfl, by simp [quietA, hr]⟩, fun _ h => (by rw [hq] at h; cases h)⟩, t1⟩, ?_, up _ rfl t3⟩
          refine t2.cons (fun _ h => by simp [h]) (fun _ h => h) (fun _ => by simp) (fun h => by have := h.2; simp [hq] at this) (fun _ x hx => ?_) (fun h => by have := h.2; simp [hq] at this)
          rcases stableE_some hst x hx with h | h
          · exact .inl ⟨m, hm, h⟩
          · exact .inr h
      | false =>
        simp only [hq, cond_false] at h
        have go : ∀ (v : AV) (H1 : AHeap), (callsA ih H r = some (.val v H1) ∨ (callsA ih H r = some (.skip H1) ∧ v = undefA)) → (bif stableQ E H1 m qs then opsD E ih ops an fr0 rest (i + 1) qs (⟨i, H⟩ :: es) (fr.put o.dst v) H1 else none) = some (.code e fr' H') →
            ∃ T fe He, Trace E ih ops T i fr H fe He ∧ Stab E an T i qs es ∧ EndOk E ih ops an fr0 i (o :: rest) T fe He e fr' H' := by
          intro v H1 hc h
          cases hst : stableQ E H1 m qs with
          | false => simp [hst] at h
          | true =>
            simp only [hst, cond_true] at h
            obtain ⟨T, fe, He, t1, t2, t3⟩ := iho (i + 1) qs _ _ _ hd' h
            refine ⟨⟨o, true, v, fr, H, H1⟩ :: T, fe, He, ⟨ho, rfl, rfl, ⟨hw, fun h => (by cases h), fun _ h => (by rw [hq] at h; cases h), fun _ _ => ⟨r, hr, hc⟩⟩, t1⟩, ?_, up _ rfl t3⟩
            refine t2.cons (fun _ h => h) (fun _ h => by simp [h]) (fun h => by have := h.2; simp [hq] at this) (fun _ => by simp) (fun h => by have := h.2; simp [hq] at this) (fun _ x hx => ?_)
            rcases stableQ_some hst x hx with h | h
            · exact .inl ⟨m, hm, h⟩
            · exact .inr h
        split at h
        · rename_i v H1 hc; exact go v H1 (.inl hc) h
        · rename_i H1 hc; exact go undefA H1 (.inr ⟨hc, rfl⟩) h
        · rename_i v H1 hc
          cases hre : restOk an i rest (i + 1) with
          | false => simp [hre] at h
          | true =>
            simp only [hre, cond_true, Option.some.injEq, TRes.code.injEq] at h
            obtain ⟨rfl, rfl, rfl⟩ := h
            refine ⟨[], fr, H, ⟨rfl, rfl⟩, Stab.nil, .inr ⟨by simp, o, r, v, ho, hw, hq, hr, hc, rfl, rfl, ?_⟩⟩
            intro j a b
            simp only [List.length_nil, Nat.add_zero, List.length_cons] at a b ⊢
            exact restOk_some rest (i + 1) hre j (by omega) (by omega)
        · cases h
    · cases h
end
end Go.Vai
end
section
namespace Go.Vai
theorem Tr.get_del_ne {α : Type} (t : Tr α) (i j : Nat) (hi : i < 1000001) (h : j ≠ i) : (t.del i).get j = t.get j := by
  unfold Tr.del
  rw [Tr.getF_eq 48 t i j none (by omega), if_neg h]
section
variable {E : Env} {P : Program} {I : List MEnt → AHeap → World → Prop} {ih : Task → Option TRes} {ro : Option Nat}
noncomputable def hp (T : List TRec) (He : AHeap) (c : Nat) : AHeap := match T[c]? with
  | some r => r.H
  | none => He
theorem trace_zero {ops : Array Oper} {T : List TRec} {i : Nat} {fr fe : AFr} {H He : AHeap} (h : Trace E ih ops T i fr H fe He) : hp T He 0 = H := by
  cases T with
  | nil => exact h.2
  | cons r T => exact h.2.2.1
theorem trace_at {ops : Array Oper} {He : AHeap} {fe : AFr} : ∀ (T : List TRec) (i : Nat) (fr : AFr) (H : AHeap), Trace E ih ops T i fr H fe He → ∀ (k : Nat) (r : TRec), T[k]? = some r →
    ops[i + k]? = some r.o ∧ StepOk E ih ops r ∧ r.H' = hp T He (k + 1) := by
  intro T
  induction T with
  | nil => intro i fr H _ k r h; simp at h
  | cons s T iht =>
    intro i fr H h k r hk
    obtain ⟨h1, h2, h3, h4, h5⟩ := h
    cases k with
    | zero =>
      simp at hk; subst hk
      refine ⟨h1, h4, ?_⟩
      have := trace_zero h5
      rw [← this]
      unfold hp; simp
    | succ k =>
      obtain ⟨a, b, c⟩ := iht (i + 1) _ _ h5 k r (by simpa using hk)
      refine ⟨by rw [show i + (k + 1) = i + 1 + k by omega]; exact a, b, ?_⟩
      rw [c]; unfold hp; simp
structure FS (fr0 : AFr) (T : List TRec) (S D : Nat → Prop) (fr : AFr) : Prop where
  n : fr.n = fr0.n
  df : fr.df = fr0.df
  rd : fr.rd = fr0.rd
  big : ∀ x, fr0.n ≤ x → fr.t.get x = fr0.t.get x
  no : ∀ x, (∀ (j : Nat) (r : TRec), S j ∨ D j → T[j]? = some r → r.o.dst ≠ some x) → fr.t.get x = fr0.t.get x
  yes : ∀ (j : Nat) (r : TRec) (x : Nat), S j → T[j]? = some r → r.o.dst = some x → x < fr0.n → fr.t.get x = some r.v
theorem FS.iff {fr0 fr : AFr} {T : List TRec} {S S' D D' : Nat → Prop} (h : FS fr0 T S D fr) (hs : ∀ j, S j ↔ S' j) (hd : ∀ j, S j ∨ D j ↔ S' j ∨ D' j) : FS fr0 T S' D' fr :=
  ⟨h.n, h.df, h.rd, h.big, fun x hx => h.no x fun j r hj => hx j r ((hd j).1 hj), fun j r x hj => h.yes j r x ((hs j).2 hj)⟩
theorem FS.agree {fr0 f f' : AFr} {T : List TRec} {S S' D D' : Nat → Prop} (h : FS fr0 T S D f) (h' : FS fr0 T S' D' f') {x : Nat} (hx : ∀ (j : Nat) (r : TRec), T[j]? = some r → r.o.dst = some x → (S j ↔ S' j) ∧ ¬ D j ∧ ¬ D' j) : f.t.get x = f'.t.get x := by
  by_cases hw : ∃ (j : Nat) (r : TRec), S j ∧ T[j]? = some r ∧ r.o.dst = some x
  · obtain ⟨j, r, hj, hr, hd⟩ := hw
    by_cases hn : x < fr0.n
    · rw [h.yes j r x hj hr hd hn, h'.yes j r x ((hx j r hr hd).1.1 hj) hr hd hn]
    · rw [h.big x (by omega), h'.big x (by omega)]
  · rw [h.no x (fun j r hj hr hd => ?_), h'.no x (fun j r hj hr hd => ?_)]
    · rcases hj with hj | hj
      · exact hw ⟨j, r, (hx j r hr hd).1.2 hj, hr, hd⟩
      · exact (hx j r hr hd).2.2 hj
    · rcases hj with hj | hj
      · exact hw ⟨j, r, hj, hr, hd⟩
      · exact (hx j r hr hd).2.1 hj
variable {ops : Array Oper} {an : Tr Nat} {fr0 : AFr} {T : List TRec}
theorem FS.put (st : Stat E ops an) (hat : ∀ (j : Nat) (r : TRec), T[j]? = some r → ops[j]? = some r.o) (hn : fr0.n ≤ 1000000) {S D : Nat → Prop} {fr : AFr} (h : FS fr0 T S D fr) {i : Nat} {r : TRec} (hr : T[i]? = some r) :
    FS fr0 T (fun j => S j ∨ j = i) (fun j => D j ∧ j ≠ i) (fr.put r.o.dst r.v) := by
  have wid : ∀ j, S j ∨ D j → (S j ∨ j = i) ∨ (D j ∧ j ≠ i) := fun j h => by
    by_cases e : j = i
    · exact .inl (.inr e)
    · exact h.elim (fun a => .inl (.inl a)) (fun a => .inr ⟨a, e⟩)
  have uq : ∀ (j : Nat) (s : TRec) (x : Nat), T[j]? = some s → r.o.dst = some x → s.o.dst = some x → j = i := by
    intro j s x hs h1 h2
    rcases Nat.lt_trichotomy j i with hlt | heq | hgt
    · exact absurd h1 (st.uniq j i s.o r.o x (hat _ _ hs) (hat _ _ hr) hlt h2)
    · exact heq
    · exact absurd h2 (st.uniq i j r.o s.o x (hat _ _ hr) (hat _ _ hs) hgt h1)
  cases hd : r.o.dst with
  | none =>
    refine ⟨h.n, h.df, h.rd, h.big, fun x hx => h.no x fun j s hj => hx j s (wid j hj), fun j s x hj hs hsx hxn => ?_⟩
    rcases hj with hj | rfl
    · exact h.yes j s x hj hs hsx hxn
    · rw [hr] at hs; cases hs; rw [hd] at hsx; cases hsx
  | some d =>
    simp only [AFr.put, Bool.cond_eq_ite, Nat.blt_eq]
    split
    · rename_i hlt
      have hlt' : d < fr0.n := by rw [← h.n]; exact hlt
      have get : ∀ x, (fr.t.set d r.v).get x = if x = d then some r.v else fr.t.get x := fun x => Tr.get_set_eq _ _ _ (Nat.lt_succ_of_le (Nat.le_of_lt (Nat.lt_of_lt_of_le hlt' hn)))
      refine ⟨h.n, h.df, h.rd, fun x hx => ?_, fun x hx => ?_, fun j s x hj hs hsx hxn => ?_⟩
      · show (fr.t.set d r.v).get x = _
        have hxd : x ≠ d := fun e => by rw [e] at hx; exact absurd hlt' (Nat.not_lt.2 hx)
        rw [get, if_neg hxd]; exact h.big x hx
      · show (fr.t.set d r.v).get x = _
        have : x ≠ d := fun e => hx i r (.inl (.inr rfl)) hr (by rw [hd, e])
        rw [get, if_neg this]
        exact h.no x fun j s hj => hx j s (wid j hj)
      · show (fr.t.set d r.v).get x = _
        rw [get]
        by_cases hx : x = d
        · rw [if_pos hx]
          have := uq j s x hs (by rw [hd, hx]) hsx
          subst this
          rw [hr] at hs; cases hs; rfl
        · rw [if_neg hx]
          rcases hj with hj | rfl
          · exact h.yes j s x hj hs hsx hxn
          · rw [hr] at hs; cases hs; rw [hd] at hsx; cases hsx; exact absurd rfl hx
    · rename_i hge
      have hge' : fr0.n ≤ d := by rw [← h.n]; omega
      refine ⟨h.n, h.df, h.rd, h.big, fun x hx => h.no x fun j s hj => hx j s (wid j hj), fun j s x hj hs hsx hxn => ?_⟩
      rcases hj with hj | rfl
      · exact h.yes j s x hj hs hsx hxn
      · rw [hr] at hs; cases hs; rw [hd] at hsx; cases hsx; omega
noncomputable def _root_.Go.Vai.AFr.cut (fr : AFr) (d : Option Tmp) : AFr :=
  match d with
  | some d => if d < fr.n then { fr with t := fr.t.del d } else fr
  | none => fr
theorem FS.cut (st : Stat E ops an) (hat : ∀ (j : Nat) (r : TRec), T[j]? = some r → ops[j]? = some r.o) (hn : fr0.n ≤ 1000000) {S D : Nat → Prop} {fr : AFr} (h : FS fr0 T S D fr) {i : Nat} {r : TRec} (hr : T[i]? = some r) (hi : ¬ S i) :
    FS fr0 T S (fun j => D j ∨ j = i) (fr.cut r.o.dst) := by
  have uq : ∀ (j : Nat) (s : TRec) (x : Nat), T[j]? = some s → r.o.dst = some x → s.o.dst = some x → j = i := by
    intro j s x hs h1 h2
    rcases Nat.lt_trichotomy j i with hlt | heq | hgt
    · exact absurd h1 (st.uniq j i s.o r.o x (hat _ _ hs) (hat _ _ hr) hlt h2)
    · exact heq
    · exact absurd h2 (st.uniq i j r.o s.o x (hat _ _ hr) (hat _ _ hs) hgt h1)
  have plain : FS fr0 T S (fun j => D j ∨ j = i) fr :=
    ⟨h.n, h.df, h.rd, h.big, fun x hx => h.no x fun j s hj => hx j s (hj.elim .inl (fun a => .inr (.inl a))), h.yes⟩
  cases hd : r.o.dst with
  | none => exact plain
  | some d =>
    simp only [AFr.cut]
    split
    · rename_i hlt
      have hlt' : d < fr0.n := by rw [← h.n]; exact hlt
      have get : ∀ x, x ≠ d → (fr.t.del d).get x = fr.t.get x := fun x hx => Tr.get_del_ne _ _ _ (Nat.lt_succ_of_le (Nat.le_of_lt (Nat.lt_of_lt_of_le hlt' hn))) hx
      refine ⟨h.n, h.df, h.rd, fun x hx => ?_, fun x hx => ?_, fun j s x hj hs hsx hxn => ?_⟩
      · show (fr.t.del d).get x = _
        have hxd : x ≠ d := fun e => by rw [e] at hx; exact absurd hlt' (Nat.not_lt.2 hx)
        rw [get x hxd]; exact h.big x hx
      · show (fr.t.del d).get x = _
        have : x ≠ d := fun e => hx i r (.inr (.inr rfl)) hr (by rw [hd, e])
        rw [get x this]
        exact h.no x fun j s hj => hx j s (hj.elim .inl (fun a => .inr (.inl a)))
      · show (fr.t.del d).get x = _
        have : x ≠ d := fun e => by
          have := uq j s x hs (by rw [hd, e]) hsx
          subst this; exact hi hj
        rw [get x this]; exact h.yes j s x hj hs hsx hxn
    · exact plain
theorem trace_fs (st : Stat E ops an) (hat : ∀ (j : Nat) (r : TRec), T[j]? = some r → ops[j]? = some r.o) (hn : fr0.n ≤ 1000000) {fe : AFr} {He : AHeap} : ∀ (T2 T1 : List TRec) (fr : AFr) (H : AHeap), T = T1 ++ T2 → Trace E ih ops T2 T1.length fr H fe He → FS fr0 T (· < T1.length) (fun _ => False) fr →
    (∀ (k : Nat) (r : TRec), T2[k]? = some r → FS fr0 T (· < T1.length + k) (fun _ => False) r.fr) ∧ FS fr0 T (· < T.length) (fun _ => False) fe := by
  intro T2
  induction T2 with
  | nil =>
    intro T1 fr H hT h hf
    refine ⟨fun k r h => by simp at h, ?_⟩
    rw [h.1]
    exact hf.iff (fun j => by rw [hT]; simp) (fun j => by rw [hT]; simp)
  | cons r T2 iht =>
    intro T1 fr H hT h hf
    obtain ⟨h1, h2, h3, h4, h5⟩ := h
    have hr : T[T1.length]? = some r := by rw [hT]; simp
    have := (FS.put st hat hn hf hr).iff (S' := (· < (T1 ++ [r]).length)) (D' := fun _ => False) (fun j => by simp; omega) (fun j => by simp; omega)
    obtain ⟨a, b⟩ := iht (T1 ++ [r]) _ _ (by simp [hT]) (by simpa using h5) this
    refine ⟨fun k s hk => ?_, b⟩
    cases k with
    | zero => simp at hk; subst hk; rw [h2]; exact hf
    | succ k =>
      have := a k s (by simpa using hk)
      exact this.iff (fun j => by simp; omega) (fun j => by simp; omega)
theorem hp_const {He : AHeap} (htr : ∀ (k : Nat) (r : TRec), T[k]? = some r → StepOk E ih ops r ∧ r.H' = hp T He (k + 1)) (c : Nat) : ∀ (n : Nat), (∀ (j : Nat) (r : TRec), c ≤ j → j < c + n → T[j]? = some r → ¬ WL E r) → hp T He (c + n) = hp T He c := by
  intro n
  induction n with
  | zero => intro _; rfl
  | succ n ihn =>
    intro h
    have h1 := ihn fun j r a b => h j r a (by omega)
    rw [← h1]
    show hp T He (c + n + 1) = _
    cases ht : T[c + n]? with
    | none =>
      have : T[c + n + 1]? = none := by rw [List.getElem?_eq_none_iff] at ht ⊢; omega
      simp [hp, ht, this]
    | some r =>
      obtain ⟨so, e⟩ := htr _ r ht
      have nw := h (c + n) r (by omega) (by omega) ht
      rw [← e]
      have : hp T He (c + n) = r.H := by simp [hp, ht]
      rw [this]
      cases hw : r.w with
      | false => exact (so.no hw).2
      | true =>
        cases hq : quietOp E r.o.op with
        | true => exact (so.quiet hw hq).1
        | false => exact absurd ⟨hw, hq⟩ nw
theorem least {p : Nat → Prop} : ∀ n, p n → ∃ j, j ≤ n ∧ p j ∧ ∀ k, k < j → ¬ p k := by
  intro n
  induction n using Nat.strongRecOn with
  | _ n ihn =>
    intro h
    by_cases hk : ∃ k, k < n ∧ p k
    · obtain ⟨k, hk, hp⟩ := hk
      obtain ⟨j, a, b, c⟩ := ihn k hk hp
      exact ⟨j, by omega, b, c⟩
    · exact ⟨n, Nat.le_refl _, h, fun k hkn hpk => hk ⟨k, hkn, hpk⟩⟩
theorem most {p : Nat → Prop} : ∀ n, (∃ k, k < n ∧ p k) → ∃ j, j < n ∧ p j ∧ ∀ k, j < k → k < n → ¬ p k := by
  intro n
  induction n with
  | zero => rintro ⟨k, h, _⟩; omega
  | succ n ihn =>
    rintro ⟨k, hk, hpk⟩
    by_cases hn : p n
    · exact ⟨n, by omega, hn, fun k a b => by omega⟩
    · by_cases hkn : k = n
      · subst hkn; exact absurd hpk hn
      · obtain ⟨j, a, b, c⟩ := ihn ⟨k, by omega, hpk⟩
        refine ⟨j, by omega, b, fun m x y => ?_⟩
        by_cases hm : m = n
        · subst hm; exact hn
        · exact c m x (by omega)
theorem quiet_at {He : AHeap} (htr : ∀ (k : Nat) (r : TRec), T[k]? = some r → StepOk E ih ops r ∧ r.H' = hp T He (k + 1)) (sb : Stab E an T 0 [] []) {S : Nat → Prop} {c i : Nat} {r : TRec} (hr : T[i]? = some r) (hw : WQ E r)
    (hc : ∀ (j : Nat) (s : TRec), T[j]? = some s → WL E s → j < c → S j) (hm : ∀ (s : TRec), T[c]? = some s → WL E s ∧ ¬ S c) (hcT : c ≤ T.length) (hanc : ∀ j, Anc an i j → S j) (hcl : ∀ (j : Nat) (s : TRec), T[j]? = some s → S j → Anc an j i → S i) (hni : ¬ S i) :
    quietA E (hp T He c) r.fr.t r.o = some r.v := by
  have here : hp T He i = r.H := by simp [hp, hr]
  have own := ((htr i r hr).1.quiet hw.1 hw.2).2
  rcases Nat.le_total c i with hci | hci
  · by_cases hx : ∃ j, c ≤ j ∧ j < i ∧ ∃ s, T[j]? = some s ∧ WL E s
    · obtain ⟨j0, hj0⟩ := hx
      obtain ⟨j, _, ⟨h1, h2, s, hs, hws⟩, hl⟩ := least (p := fun j => c ≤ j ∧ j < i ∧ ∃ s, T[j]? = some s ∧ WL E s) j0 hj0
      have e1 : hp T He j = hp T He c := by
        have := hp_const htr c (j - c) (fun k s' a b ht hw' => hl k (by omega) ⟨a, by omega, s', ht, hw'⟩)
        rw [show c + (j - c) = j by omega] at this
        exact this
      have e2 : hp T He j = s.H := by simp [hp, hs]
      rw [← e1, e2]
      rcases sb.eq j i s r hs hr h2 hws hw with ha | ha
      · simp only [Nat.zero_add] at ha
        obtain ⟨sc, hsc⟩ : ∃ sc, T[c]? = some sc := ⟨T[c]'(by have := (List.getElem?_eq_some_iff.1 hr).1; omega), List.getElem?_eq_getElem _⟩
        obtain ⟨m1, m2⟩ := hm sc hsc
        by_cases e : c = j
        · subst e; exact absurd (hanc c ha) m2
        · exact absurd ⟨Nat.le_refl c, by omega, sc, hsc, m1⟩ (hl c (by omega))
      · exact ha
    · have e1 : hp T He i = hp T He c := by
        have := hp_const htr c (i - c) (fun k s' a b ht hw' => hx ⟨k, a, by omega, s', ht, hw'⟩)
        rw [show c + (i - c) = i by omega] at this
        exact this
      rw [← e1, here]; exact own
  · by_cases hx : ∃ j, j < c ∧ (i ≤ j ∧ ∃ s, T[j]? = some s ∧ WL E s)
    · obtain ⟨j, h1, ⟨h2, s, hs, hws⟩, hl⟩ := most c hx
      have hij : i ≠ j := by
        intro e; subst e
        rw [hr] at hs; cases hs
        have := hw.2; rw [hws.2] at this; cases this
      have e1 : hp T He c = hp T He (j + 1) := by
        have := hp_const htr (j + 1) (c - (j + 1)) (fun k s' a b ht hw' => hl k (by omega) (by omega) ⟨by omega, s', ht, hw'⟩)
        rw [show j + 1 + (c - (j + 1)) = c by omega] at this
        exact this
      rw [e1, ← (htr j s hs).2]
      rcases sb.qe i j r s hr hs (by omega) hw hws with ha | ha
      · simp only [Nat.zero_add] at ha
        exact absurd (hcl j s hs (hc j s hs hws h1) ha) hni
      · exact ha
    · have e1 : hp T He c = hp T He i := by
        have := hp_const htr i (c - i) (fun k s' a b ht hw' => hx ⟨k, by omega, a, s', ht, hw'⟩)
        rw [show i + (c - i) = c by omega] at this
        exact this
      rw [e1, here]; exact own
theorem delDsts_get : ∀ (os : List Oper) {t : Tr AV} {x : Nat} {v : AV}, (delDsts t os).get x = some v → t.get x = some v ∧ ∀ o ∈ os, o.dst ≠ some x := by
  intro os
  induction os with
  | nil => intro t x v h; exact ⟨h, fun o ho => by cases ho⟩
  | cons o os iho =>
    intro t x v h
    simp only [delDsts] at h
    obtain ⟨a, b⟩ := iho h
    cases hd : o.dst with
    | none =>
      rw [hd] at a
      refine ⟨a, fun p hp => ?_⟩
      simp only [List.mem_cons] at hp
      rcases hp with rfl | hp
      · rw [hd]; simp
      · exact b p hp
    | some d =>
      rw [hd] at a
      obtain ⟨c, e⟩ := Tr.get_del a
      refine ⟨e, fun p hp => ?_⟩
      simp only [List.mem_cons] at hp
      rcases hp with rfl | hp
      · rw [hd]; simp only [ne_eq, Option.some.injEq]; exact fun e => c e.symm
      · exact b p hp
theorem reads_opd {f f' : Tr AV} {o : Oper} (h : ∀ t, reads t o = true → f.get t = f'.get t) : ∀ x ∈ o.op.operands.toList, opd E f x = opd E f' x := fun x hx => opd_congr fun t ht => h t (by
  simp only [reads, List.any_eq_true]; exact ⟨x, hx, ht⟩)
theorem ready_spec {listed : Array Bool} {i : Nat} (h : i ∈ Region.ready .any ops listed) (hsz : listed.size = ops.size) :
    ∃ o, ops[i]? = some o ∧ listed[i]? = some false ∧ ∀ e ∈ o.after.toList, Region.binds .any e = true → listed[e.on]? = some true := by
  simp only [Region.ready, List.mem_filter, List.mem_range, Bool.and_eq_true, Bool.not_eq_true'] at h
  obtain ⟨h1, h2, h3⟩ := h
  have ho : ops[i]? = some ops[i] := Array.getElem?_eq_getElem h1
  rw [ho] at h3
  simp only [Option.map_some, Option.getD_some] at h3
  refine ⟨ops[i], ho, ?_, fun e he hb => ?_⟩
  · have hl : listed[i]? = some listed[i] := Array.getElem?_eq_getElem (by omega)
    rw [Array.getD_eq_getD_getElem?, hl, Option.getD_some] at h2
    rw [hl, h2]
  · rw [Array.all_eq_true_iff_forall_mem] at h3
    have := h3 e (by simpa using he)
    simp only [hb, Bool.not_true, Bool.false_or, Array.getD_eq_getD_getElem?] at this
    cases hx : listed[e.on]? with
    | none => rw [hx] at this; cases this
    | some b => rw [hx] at this; simp at this; rw [this]
theorem ready_nil (st : Stat E ops an) {listed : Array Bool} (h : Region.ready .any ops listed = []) (hsz : listed.size = ops.size) : ∀ i, i < ops.size → listed[i]? = some true := by
  intro i
  induction i using Nat.strongRecOn with
  | _ i ihi =>
    intro hi
    have hl : listed[i]? = some listed[i] := Array.getElem?_eq_getElem (by omega)
    cases hb : listed[i] with
    | true => rw [hl, hb]
    | false =>
      exfalso
      have ho : ops[i]? = some ops[i] := Array.getElem?_eq_getElem hi
      have : i ∈ Region.ready .any ops listed := by
        simp only [Region.ready, List.mem_filter, List.mem_range, Bool.and_eq_true, Bool.not_eq_true']
        refine ⟨hi, ?_, ?_⟩
        · rw [Array.getD_eq_getD_getElem?, hl, hb]; rfl
        · rw [ho]
          simp only [Option.map_some, Option.getD_some]
          rw [Array.all_eq_true_iff_forall_mem]
          intro e he
          cases hbb : Region.binds .any e with
          | false => rfl
          | true =>
            have hlt := st.low i _ ho e (by simpa using he) hbb
            have := ihi e.on hlt (by omega)
            simp [Array.getD_eq_getD_getElem?, this]
      rw [h] at this
      cases this
end
end Go.Vai
end
section
namespace Go.Vai
section
variable {E : Env} {P : Program} {I : List MEnt → AHeap → World → Prop} {ih : Task → Option TRes} {ro : Option Nat}
def SL (listed : Array Bool) (j : Nat) : Prop := listed[j]? = some true
def PD (E : Env) (T : List TRec) (listed : Array Bool) (c j : Nat) : Prop := SL listed j ∧ c ≤ j ∧ ∃ r, T[j]? = some r ∧ WL E r
structure Pend (M : List MEnt) (H : AHeap) (w0 w : World) (r : TRec) (a : Act) (m : MEnt) : Prop where
  lo : w0.heap.size ≤ m.block
  kn : ¬ Kn M H m.block
  at0 : m = ⟨m.block, 0, 0, 0⟩
  obj : ∃ e cs vs, r.H' = newRowA r.H e cs ∧ w.heap[m.block]? = some (.cells (List.toArray vs) e) ∧ VRels M cs vs
  slot : ∀ d, r.o.dst = some d → d < a.tmps.size → ∃ cv, a.tmps[d]? = some cv ∧ ∀ M1 : List MEnt, M1.length = r.H.next → VRel (M1 ++ [m]) r.v cv
theorem Pend.hi {M : List MEnt} {H : AHeap} {w0 w : World} {r : TRec} {a : Act} {m : MEnt} (p : Pend M H w0 w r a m) : m.block < w.heap.size := by
  obtain ⟨e, cs, vs, _, h, _⟩ := p.obj
  exact (Array.getElem?_eq_some_iff.1 h).1
structure Mid (E : Env) (P : Program) (ro : Option Nat) (T : List TRec) (He : AHeap) (fr0 : AFr) (M0 : List MEnt) (H0 : AHeap) (w0 : World) (listed : Array Bool) (a : Act) (w : World) (c : Nat) (M : List MEnt) (fS : AFr) (mm : Nat → MEnt) : Prop where
  ext : Ext M0 H0 w0 M (hp T He c) w
  hr : HRel M (hp T He c) w
  fr : FRel ro M fS a
  fs : FS fr0 T (fun j => SL listed j ∧ ¬ PD E T listed c j) (PD E T listed c) fS
  low : ∀ (j : Nat) (r : TRec), T[j]? = some r → WL E r → j < c → SL listed j
  le : c ≤ T.length
  pend : ∀ (j : Nat) (r : TRec), T[j]? = some r → PD E T listed c j → Pend M (hp T He c) w0 w r a (mm j)
  inj : ∀ i j, PD E T listed c i → PD E T listed c j → (mm i).block = (mm j).block → i = j
theorem HRel.late {M : List MEnt} {H : AHeap} {w : World} (h : HRel M H w) (o : AObj) (m : MEnt) (hk : ¬ Kn M H m.block) (ho : ORel (M ++ [m]) m w o) : HRel (M ++ [m]) (H.new o) w := by
  have pre : M <+: M ++ [m] := List.prefix_append _ _
  have hnew : (M ++ [m])[H.next]? = some m := by rw [← h.len]; simp
  have old : ∀ id p k, H.get id = some p → (M ++ [m])[id]? = some k → M[id]? = some k := fun id p k e ek => by
    obtain ⟨k', hk', r⟩ := h.obj id p e
    have := pre_get pre hk'
    rw [ek] at this; cases this
    exact hk'
  refine ⟨by simp [AHeap.new, h.len], fun id p e => ?_, fun i j p q k l ei ej ek el hij hb => ?_⟩
  · rcases AHeap.get_new e with ⟨rfl, rfl⟩ | ⟨_, e⟩
    · exact ⟨m, hnew, ho⟩
    · obtain ⟨k, hk, r⟩ := h.obj id p e
      exact ⟨k, pre_get pre hk, r.carry pre rfl⟩
  · rcases AHeap.get_new ei with ⟨rfl, rfl⟩ | ⟨_, ei⟩ <;> rcases AHeap.get_new ej with ⟨rfl, rfl⟩ | ⟨_, ej⟩
    · exact absurd rfl hij
    · rw [hnew] at ek; cases ek
      exact absurd ⟨j, q, l, ej, old _ _ _ ej el, hb.symm⟩ hk
    · rw [hnew] at el; cases el
      exact absurd ⟨i, p, k, ei, old _ _ _ ei ek, hb⟩ hk
    · exact h.inj i j p q k l ei ej (old _ _ _ ei ek) (old _ _ _ ej el) hij hb
theorem Ext.late {M0 M : List MEnt} {H0 H : AHeap} {w0 w : World} (x : Ext M0 H0 w0 M H w) (h : HRel M H w) (o : AObj) (m : MEnt) (hl : w0.heap.size ≤ m.block) : Ext M0 H0 w0 (M ++ [m]) (H.new o) w := by
  have pre : M <+: M ++ [m] := List.prefix_append _ _
  have hnew : (M ++ [m])[H.next]? = some m := by rw [← h.len]; simp
  have old : ∀ id p k, H.get id = some p → (M ++ [m])[id]? = some k → M[id]? = some k := fun id p k e ek => by
    obtain ⟨k', hk', r⟩ := h.obj id p e
    have := pre_get pre hk'
    rw [ek] at this; cases this
    exact hk'
  refine ⟨x.pre.trans pre, x.size, x.os, x.tape, x.output, fun b hb hn => ⟨(x.old b hb hn).1, fun hw => ?_⟩, fun b hb hn hw => ?_⟩
  · obtain ⟨id, p, k, e, hr, ek, rfl⟩ := hw
    rcases AHeap.get_new e with ⟨rfl, rfl⟩ | ⟨_, e⟩
    · rw [hnew] at ek; cases ek; omega
    · exact (x.old _ hb hn).2 ⟨id, p, k, e, hr, old _ _ _ e ek, rfl⟩
  · obtain ⟨id, p, k, e, ek, rfl⟩ := hw
    rcases AHeap.get_new e with ⟨rfl, rfl⟩ | ⟨_, e⟩
    · rw [hnew] at ek; cases ek; omega
    · exact x.kn _ hb hn ⟨id, p, k, e, old _ _ _ e ek, rfl⟩
theorem HRel.grown {M : List MEnt} {H : AHeap} {w w' : World} (h : HRel M H w) (hg : w.grownBy w' none) : HRel M H w' :=
  ⟨h.len, fun id o e => by
    obtain ⟨m, hm, r⟩ := h.obj id o e
    exact ⟨m, hm, r.carry (List.prefix_refl _) (hg.block _ r.lt (by simp))⟩, h.inj⟩
theorem Ext.grown {M0 M : List MEnt} {H0 H : AHeap} {w0 w w' : World} (x : Ext M0 H0 w0 M H w) (hg : w.grownBy w' none) : Ext M0 H0 w0 M H w' :=
  ⟨x.pre, Nat.le_trans x.size hg.size, hg.os.trans x.os, hg.tape.trans x.tape, hg.output.trans x.output, fun b hb hn => ⟨(hg.block b (Nat.lt_of_lt_of_le hb x.size) (by simp)).trans (x.old b hb hn).1, (x.old b hb hn).2⟩, x.kn⟩
theorem row_orel {M : List MEnt} {w : World} {m : MEnt} {e : TypeId} {cs : List AV} {vs : List Value} (h0 : m = ⟨m.block, 0, 0, 0⟩) (hb : w.heap[m.block]? = some (.cells (List.toArray vs) e)) (h : VRels M cs vs) :
    ORel M m w (.cells cs.length (Tr.nil.putAll 0 cs) e none 0 false false) := by
  have hb0 : m.base = 0 := by rw [h0]
  refine ⟨vs.toArray, e, 0, 0, hb, fun _ => ⟨rfl, hb0⟩, by simp [h.length, hb0], fun gs e => (by cases e), fun _ i a b => by omega, fun _ _ => ⟨Nat.zero_le _, Nat.le_refl _⟩, ?_⟩
  intro i v hv
  rcases Tr.get_putAll _ hv with ⟨q, rfl, hq⟩ | ⟨_, hu⟩
  · obtain ⟨x, hx, r⟩ := h.get q v hq
    exact ⟨by simpa using (List.getElem?_eq_some_iff.1 hq).1, x, by rw [hb0]; simpa using hx, r⟩
  · simp [Tr.get_nil] at hu
theorem FRel.late {M : List MEnt} {fr : AFr} {a : Act} (r : FRel ro M fr a) {v : AV} {dst : Option Tmp} (h : ∀ d, dst = some d → d < a.tmps.size → ∃ cv, a.tmps[d]? = some cv ∧ VRel M v cv) : FRel ro M (fr.put dst v) a := by
  cases dst with
  | none => exact r
  | some d =>
    simp only [AFr.put, Bool.cond_eq_ite, Nat.blt_eq]
    split
    · rename_i hd
      refine ⟨r.rd, r.n, fun i v' hi => ?_, r.df⟩
      rcases Tr.get_set hi with ⟨rfl, rfl⟩ | ⟨_, hi⟩
      · exact h _ rfl (by rw [r.n]; exact hd)
      · exact r.t i v' hi
    · exact r
theorem FRel.cut {M : List MEnt} {fr : AFr} {a : Act} (r : FRel ro M fr a) (dst : Option Tmp) (cv : Value) : FRel ro M (fr.cut dst) (a.put dst cv) := by
  cases dst with
  | none => exact r
  | some d =>
    simp only [AFr.cut, Act.put]
    split
    · rename_i hd
      refine ⟨r.rd, by simp [r.n], fun i v' hi => ?_, r.df⟩
      obtain ⟨hne, hi⟩ := Tr.get_del hi
      obtain ⟨c, hc, hv⟩ := r.t i v' hi
      exact ⟨c, by simp only [Array.getElem?_setIfInBounds_ne (Ne.symm hne), hc], hv⟩
    · rename_i hd
      have : a.tmps.setIfInBounds d cv = a.tmps := by
        apply Array.ext'
        simp only [Array.toList_setIfInBounds]
        exact List.set_eq_of_length_le (by simp [r.n]; exact Nat.le_of_not_lt hd)
      refine ⟨r.rd, by simp [r.n], ?_, r.df⟩
      show TRel M fr.t (a.tmps.setIfInBounds d cv)
      rw [this]; exact r.t
structure Inv (E : Env) (P : Program) (ro : Option Nat) (ops : Array Oper) (T : List TRec) (He : AHeap) (fr0 : AFr) (M0 : List MEnt) (H0 : AHeap) (w0 : World) (listed : Array Bool) (a : Act) (w : World) : Prop where
  size : listed.size = ops.size
  low : ∀ j, SL listed j → j < T.length
  closed : Closed ops (SL listed)
  ex : ∃ M fS c mm, Mid E P ro T He fr0 M0 H0 w0 listed a w c M fS mm ∧ ∀ s, T[c]? = some s → WL E s ∧ ¬ SL listed c
theorem Mid.advance {ops : Array Oper} {an : Tr Nat} (st : Stat E ops an) {T : List TRec} (hat : ∀ (j : Nat) (r : TRec), T[j]? = some r → ops[j]? = some r.o) {He : AHeap} (htr : ∀ (k : Nat) (r : TRec), T[k]? = some r → StepOk E ih ops r ∧ r.H' = hp T He (k + 1))
    {fr0 : AFr} (hn : fr0.n ≤ 1000000) {M0 : List MEnt} {H0 : AHeap} {w0 : World} {listed : Array Bool} {a : Act} {w : World} : ∀ (n c : Nat) (M : List MEnt) (fS : AFr) (mm : Nat → MEnt), T.length - c = n → Mid E P ro T He fr0 M0 H0 w0 listed a w c M fS mm →
      ∃ M fS c mm, Mid E P ro T He fr0 M0 H0 w0 listed a w c M fS mm ∧ ∀ s, T[c]? = some s → WL E s ∧ ¬ SL listed c := by
  intro n
  induction n with
  | zero =>
    intro c M fS mm hc h
    refine ⟨M, fS, c, mm, h, fun s hs => ?_⟩
    have := (List.getElem?_eq_some_iff.1 hs).1
    omega
  | succ n ihn =>
    intro c M fS mm hc h
    obtain ⟨r, hr⟩ : ∃ r, T[c]? = some r := ⟨T[c]'(by omega), List.getElem?_eq_getElem _⟩
    have hcl : c < T.length := (List.getElem?_eq_some_iff.1 hr).1
    by_cases hw : WL E r
    · by_cases hs : SL listed c
      · have hpd : PD E T listed c c := ⟨hs, Nat.le_refl _, r, hr, hw⟩
        have pn := h.pend c r hr hpd
        obtain ⟨e, cs, vs, o1, o2, o3⟩ := pn.obj
        have hH : r.H = hp T He c := by simp [hp, hr]
        have hH' : hp T He (c + 1) = newRowA (hp T He c) e cs := by rw [← (htr c r hr).2, o1, hH]
        have pre : M <+: M ++ [mm c] := List.prefix_append _ _
        have pd' : ∀ j, PD E T listed (c + 1) j ↔ PD E T listed c j ∧ j ≠ c := fun j =>
          ⟨fun ⟨x, y, z⟩ => ⟨⟨x, by omega, z⟩, by omega⟩, fun ⟨⟨x, y, z⟩, k⟩ => ⟨x, by omega, z⟩⟩
        have ho := row_orel (M := M ++ [mm c]) pn.at0 o2 (o3.mono pre)
        have hnew : HRel (M ++ [mm c]) (newRowA (hp T He c) e cs) w := h.hr.late _ _ pn.kn ho
        have hlen : M.length = r.H.next := by rw [hH]; exact h.hr.len
        refine ihn (c + 1) (M ++ [mm c]) (fS.put r.o.dst r.v) mm (by omega) ⟨?_, ?_, ?_, ?_, ?_, by omega, ?_, ?_⟩
        · rw [hH']; exact h.ext.late h.hr _ _ pn.lo
        · rw [hH']; exact hnew
        · refine (h.fr.mono pre).late fun d hd hda => ?_
          obtain ⟨cv, q1, q2⟩ := pn.slot d hd hda
          exact ⟨cv, q1, q2 M hlen⟩
        · refine (FS.put st hat hn h.fs hr).iff (fun j => ?_) (fun j => ?_)
          · rw [pd']
            by_cases e : j = c
            · subst e; simp [hs]
            · simp [e]
          · rw [pd']
            by_cases e : j = c
            · subst e; simp [hs]
            · simp [e]
        · intro j s hs' hws hj
          by_cases e : j = c
          · subst e; exact hs
          · exact h.low j s hs' hws (by omega)
        · intro j s hs' hp'
          obtain ⟨hpj, hne⟩ := (pd' j).1 hp'
          have q := h.pend j s hs' hpj
          obtain ⟨e2, cs2, vs2, u1, u2, u3⟩ := q.obj
          refine ⟨q.lo, fun hk => ?_, q.at0, ⟨e2, cs2, vs2, u1, u2, u3.mono pre⟩, q.slot⟩
          rw [hH'] at hk
          obtain ⟨id, o, k, g1, g2, g3⟩ := hk
          rcases AHeap.get_new g1 with ⟨rfl, _⟩ | ⟨_, g1⟩
          · have : (M ++ [mm c])[(hp T He c).next]? = some (mm c) := by rw [← h.hr.len]; simp
            rw [g2] at this; cases this
            exact hne (h.inj c j hpd hpj g3).symm
          · obtain ⟨k', hk', _⟩ := h.hr.obj id o g1
            have := pre_get pre hk'
            rw [g2] at this; cases this
            exact q.kn ⟨id, o, k, g1, hk', g3⟩
        · intro i j hi hj hb
          exact h.inj i j ((pd' i).1 hi).1 ((pd' j).1 hj).1 hb
      · refine ⟨M, fS, c, mm, h, fun s hs' => ?_⟩
        rw [hr] at hs'; cases hs'
        exact ⟨hw, hs⟩
    · have hH' : hp T He (c + 1) = hp T He c := hp_const htr c 1 fun j s a b ht hw' => by
        obtain rfl : j = c := by omega
        rw [hr] at ht; cases ht; exact hw hw'
      have pd' : ∀ j, PD E T listed (c + 1) j ↔ PD E T listed c j := fun j =>
        ⟨fun ⟨x, y, z⟩ => ⟨x, by omega, z⟩, fun ⟨x, y, r', z, k⟩ => ⟨x, by
          by_cases e : j = c
          · subst e; rw [hr] at z; cases z; exact absurd k hw
          · omega, r', z, k⟩⟩
      refine ihn (c + 1) M fS mm (by omega) ⟨by rw [hH']; exact h.ext, by rw [hH']; exact h.hr, h.fr, h.fs.iff (fun j => by rw [pd']) (fun j => by rw [pd']), fun j s hs hws hj => ?_, by omega, fun j s hs hp' => by rw [hH']; exact h.pend j s hs ((pd' j).1 hp'), fun i j hi hj => h.inj i j ((pd' i).1 hi) ((pd' j).1 hj)⟩
      by_cases e : j = c
      · subst e; rw [hr] at hs; cases hs; exact absurd hws hw
      · exact h.low j s hs hws (by omega)
theorem SL_set {listed : Array Bool} {i j : Nat} (hi : i < listed.size) : SL (listed.setIfInBounds i true) j ↔ SL listed j ∨ j = i := by
  unfold SL
  rw [Array.getElem?_setIfInBounds]
  by_cases h : i = j
  · subst h; simp [hi]
  · rw [if_neg h]
    constructor
    · exact .inl
    · rintro (h' | h')
      · exact h'
      · exact absurd h'.symm h
theorem wantedA_congr {all : Array Oper} {f f' : Tr AV} {o : Oper} (h : ∀ j b d, o.guard = some (j, b) → (all[j]?).bind (·.dst) = some d → f.get d = f'.get d) : wantedA all f o = wantedA all f' o := by
  unfold wantedA
  split
  · rfl
  · rename_i j want hg
    split
    · rfl
    · rename_i d hd
      rw [h j want d hg hd]
theorem count_set {listed : Array Bool} {i n : Nat} (hi : listed[i]? = some false) (hc : listed.toList.count false = n + 1) : (listed.setIfInBounds i true).toList.count false = n := by
  have hlt : i < listed.size := (Array.getElem?_eq_some_iff.1 hi).1
  rw [Array.toList_setIfInBounds]
  rw [List.count_set (by simpa using hlt), hc]
  have : listed.toList[i]'(by simpa using hlt) = false := by
    have := (Array.getElem?_eq_some_iff.1 hi).2
    simpa using this
  simp [this]
theorem fresh_step {P : Program} {M : List MEnt} {H : AHeap} {w : World} (hE : EnvOk E P I) (st : St E I M H w) {fr : AFr} {a : Act} (hf : FRel ro M fr a) {o : Oper} (hfr : freshOp o.op = true) {H1 : AHeap} {r : ARes} (h : execA E H1 fr.t o = some r)
    {next : Act → World → Prop} {Q : Exit → Act → World → Prop}
    (hn : ∀ v cv vs e cs, r = .val v (newRowA H1 e cs) → VRels M cs vs → (∀ M1 : List MEnt, M1.length = H1.next → VRel (M1 ++ [⟨w.heap.size, 0, 0, 0⟩]) v cv) → next (a.put o.dst cv) { w with heap := w.heap.push (.cells (List.toArray vs) e) }) :
    o.wpIn (FF ro) 0 P a w next Q := by
  refine ⟨fun _ _ => trivial, ?_⟩
  obtain ⟨v, cv, vs, e, cs, h1, h2, h3, h4⟩ := fresh_sound hE.tys st.g hf.t hfr h w
  have sem : o.semAt (FF ro).round a.eval = execOp a.eval o := Oper.semAt_eq _ _ _ (execA_defer h (fun _ _ h => by rw [h1] at h; cases h))
  rw [sem, h2]
  exact hn v cv vs e cs h1 h3 h4
theorem walk_any (hE : EnvOk E P I) (hs : Sound E P I ih) {ops : Array Oper} {an : Tr Nat} (st : Stat E ops an) {fr0 : AFr} (hn : fr0.n ≤ 1000000) {T : List TRec} {fe : AFr} {H0 He : AHeap} (tr : Trace E ih ops T 0 fr0 H0 fe He) (sb : Stab E an T 0 [] [])
    {e : AExit} {fr' : AFr} {H' : AHeap} (en : EndOk E ih ops an fr0 0 ops.toList T fe He e fr' H') {M0 : List MEnt} {w0 : World} (st0 : St E I M0 H0 w0) :
    ∀ (fuel : Nat) (listed : Array Bool) (a : Act) (w : World), listed.toList.count false = fuel → Inv E P ro ops T He fr0 M0 H0 w0 listed a w →
      wpAnyIn (FF ro) 0 P .any ops (CPost ro M0 H0 w0 e fr' H') fuel listed a w := by
  have tat := trace_at T 0 fr0 H0 tr
  simp only [Nat.zero_add] at tat
  have hat : ∀ (j : Nat) (r : TRec), T[j]? = some r → ops[j]? = some r.o := fun j r h => (tat j r h).1
  have htr : ∀ (k : Nat) (r : TRec), T[k]? = some r → StepOk E ih ops r ∧ r.H' = hp T He (k + 1) := fun k r h => (tat k r h).2
  have fs0 : FS fr0 T (· < ([] : List TRec).length) (fun _ => False) fr0 := ⟨rfl, rfl, rfl, fun _ _ => rfl, fun _ _ => rfl, fun j r x hj => by simp at hj⟩
  obtain ⟨tfs, tfe⟩ := trace_fs st hat hn T [] fr0 H0 rfl tr fs0
  simp only [List.length_nil, Nat.zero_add] at tfs
  have done : ∀ (listed : Array Bool) (a : Act) (w : World), Inv E P ro ops T He fr0 M0 H0 w0 listed a w → Region.ready .any ops listed = [] → CPost ro M0 H0 w0 e fr' H' .normal a w := by
    intro listed a w inv hr
    have all := ready_nil st hr inv.size
    obtain ⟨M, fS, c, mm, x, mx⟩ := inv.ex
    rcases en with ⟨h1, rfl, rfl, rfl⟩ | ⟨h1, _⟩
    · have hcT : c = T.length := by
        by_cases hlt : c < T.length
        · exact absurd (all c (by simp at h1; omega)) (mx _ (List.getElem?_eq_getElem hlt)).2
        · have := x.le; omega
      have hc : hp T H' c = H' := by rw [hcT]; simp [hp]
      have npd : ∀ j r, T[j]? = some r → ¬ PD E T listed c j := fun j r hr hp => by
        have := (List.getElem?_eq_some_iff.1 hr).1
        have := hp.2.1
        omega
      have x1 := x.ext
      have x2 := x.hr
      rw [hc] at x1 x2
      refine ⟨M, x1, x2, rfl, ⟨by rw [tfe.rd, ← x.fs.rd]; exact x.fr.rd, by rw [tfe.n, ← x.fs.n]; exact x.fr.n, fun y v hv => ?_, by rw [tfe.df, ← x.fs.df]; exact x.fr.df⟩⟩
      refine x.fr.t y v ?_
      rw [← hv]
      refine x.fs.agree tfe fun j r hr hd => ?_
      have hj : j < T.length := (List.getElem?_eq_some_iff.1 hr).1
      exact ⟨⟨fun _ => hj, fun _ => ⟨all j (by simp at h1; omega), npd j r hr⟩⟩, npd j r hr, fun h => h⟩
    · have := inv.low T.length (all _ (by simpa using h1))
      omega
  intro fuel
  induction fuel with
  | zero =>
    intro listed a w hc inv
    have hr : Region.ready .any ops listed = [] := by
      rw [List.eq_nil_iff_forall_not_mem]
      intro i hi
      obtain ⟨o, _, h, _⟩ := ready_spec hi inv.size
      have : false ∈ listed.toList := by
        obtain ⟨h1, h2⟩ := Array.getElem?_eq_some_iff.1 h
        rw [← h2]; simp
      rw [List.count_eq_zero] at hc
      exact hc this
    exact ⟨hr, done listed a w inv hr⟩
  | succ fuel ihf =>
    intro listed a w hc inv
    refine ⟨done listed a w inv, fun i hi => ?_⟩
    obtain ⟨o, ho, hlf, hedge⟩ := ready_spec hi inv.size
    have hil : i < listed.size := (Array.getElem?_eq_some_iff.1 hlf).1
    have hni : ¬ SL listed i := by unfold SL; rw [hlf]; simp
    have hanc : ∀ j, Anc an i j → SL listed j := fun j ha => st.ancIn inv.closed i ho hedge ha
    have hcl : ∀ j o', ops[j]? = some o' → SL listed j → Anc an j i → SL listed i := fun j o' hj hsj ha => st.ancIn inv.closed j hj (inv.closed j o' hj hsj) ha
    have hcl2 : ∀ j k o', ops[j]? = some o' → SL listed j → Anc an j k → SL listed k := fun j k o' hj hsj ha => st.ancIn inv.closed j hj (inv.closed j o' hj hsj) ha
    obtain ⟨M, fS, c, mm, x, mx⟩ := inv.ex
    have x3 := x.fr
    have x4 := x.fs
    have xst : St E I M (hp T He c) w := st0.next hE x.ext x.hr
    have npd : ∀ j r, T[j]? = some r → freshOp r.o.op = false → ¬ PD E T listed c j := by
      intro j r hr hf ⟨p1, p2, r', p3, p4⟩
      rw [hr] at p3; cases p3
      obtain ⟨s, hsc⟩ : ∃ s, T[c]? = some s := ⟨T[c]'(by have := (List.getElem?_eq_some_iff.1 hr).1; omega), List.getElem?_eq_getElem _⟩
      obtain ⟨m1, m2⟩ := mx s hsc
      have hne : c ≠ j := fun e => by subst e; exact m2 p1
      have := st.loud c j s.o r.o (hat c s hsc) (hat j r hr) (by omega) m1.2 p4.2 hf
      exact m2 (hcl2 j c r.o (hat j r hr) p1 (st.ord (hat c s hsc) (by omega) this))
    have agr : ∀ (f : AFr) (S' : Nat → Prop), FS fr0 T S' (fun _ => False) f → (∀ j, S' j ↔ j < i) → ∀ t, reads t o = true → fS.t.get t = f.t.get t := by
      intro f S' hf hS' t ht
      refine x4.agree hf fun j r hr hd => ?_
      rw [hS']
      rcases Nat.lt_trichotomy j i with hlt | heq | hgt
      · have hsj := hanc j (st.ord (hat j r hr) hlt (st.rd1 j i r.o o t (hat j r hr) ho hlt hd ht))
        have hnp : ¬ PD E T listed c j := by
          cases hf : freshOp r.o.op with
          | false => exact npd j r hr hf
          | true =>
            intro ⟨p1, p2, r', p3, p4⟩
            rw [hr] at p3; cases p3
            obtain ⟨s, hsc⟩ : ∃ s, T[c]? = some s := ⟨T[c]'(by have := (List.getElem?_eq_some_iff.1 hr).1; omega), List.getElem?_eq_getElem _⟩
            obtain ⟨m1, m2⟩ := mx s hsc
            exact m2 (hanc c (st.rdf j i r.o o t (hat j r hr) ho hlt hd ht hf c s.o p2 (hat c s hsc) m1.2))
        exact ⟨⟨fun _ => hlt, fun _ => ⟨hsj, hnp⟩⟩, hnp, fun h => h⟩
      · subst heq
        have := hat j r hr
        rw [ho] at this; cases this
        have := st.self j _ t ho hd
        rw [this] at ht; cases ht
      · have hns : ¬ SL listed j := fun h => hni (hcl j r.o (hat j r hr) h (st.ord ho hgt (st.rd2 i j o r.o t ho (hat j r hr) hgt hd ht)))
        exact ⟨⟨fun h => absurd h.1 hns, fun h => by omega⟩, fun h => hns h.1, fun h => h⟩
    have agw : ∀ (f : AFr) (S' : Nat → Prop), FS fr0 T S' (fun _ => False) f → (∀ j, S' j ↔ j < i) → wantedA ops fS.t o = wantedA ops f.t o := by
      intro f S' hf hS'
      refine wantedA_congr fun j b d hg hd => ?_
      obtain ⟨m, hm, hb⟩ := st.guard i o j b ho hg
      have haj : Anc an i j := ⟨m, hm, hb⟩
      have hlt := st.lt i ho haj
      refine x4.agree hf fun k r hr hdk => ?_
      rw [hS']
      have : k = j := by
        cases hoj : ops[j]? with
        | none => rw [hoj] at hd; cases hd
        | some oj =>
          rw [hoj] at hd
          simp only [Option.bind_some] at hd
          rcases Nat.lt_trichotomy k j with h1 | h1 | h1
          · exact absurd hd (st.uniq k j r.o oj d (hat k r hr) hoj h1 hdk)
          · exact h1
          · exact absurd hdk (st.uniq j k oj r.o d hoj (hat k r hr) h1 hd)
      subst this
      have hnp := npd k r hr (st.gf k i r.o o b (hat k r hr) ho hlt hg)
      exact ⟨⟨fun _ => hlt, fun _ => ⟨hanc k haj, hnp⟩⟩, hnp, fun h => h⟩
    have loudc : quietOp E o.op = false → freshOp o.op = false → i ≤ T.length → (∀ r, T[i]? = some r → WL E r) → c = i := by
      intro hq hfr hiT hwl
      by_cases h1 : c < i
      · obtain ⟨s, hsc⟩ : ∃ s, T[c]? = some s := ⟨T[c]'(by omega), List.getElem?_eq_getElem _⟩
        obtain ⟨m1, m2⟩ := mx s hsc
        exact absurd (hanc c (st.ord (hat c s hsc) h1 (st.loud c i s.o o (hat c s hsc) ho h1 m1.2 hq hfr))) m2
      · by_cases h2 : i < c
        · have hl := x.le
          obtain ⟨r, hr⟩ : ∃ r, T[i]? = some r := ⟨T[i]'(by omega), List.getElem?_eq_getElem _⟩
          exact absurd (x.low i r hr (hwl r hr) h2) hni
        · omega
    have npi : ∀ d, ¬ PD E T listed d i := fun d h => hni h.1
    have next : ∀ (r : TRec), T[i]? = some r → ∀ (M' : List MEnt) (w' : World) (cv : Value) (c' : Nat), Ext M (hp T He c) w M' (hp T He c') w' → HRel M' (hp T He c') w' → VRel M' r.v cv → c' ≤ T.length →
        (∀ (j : Nat) (s : TRec), T[j]? = some s → WL E s → j < c' → SL listed j ∨ j = i) → (∀ j, PD E T (listed.setIfInBounds i true) c' j ↔ PD E T listed c j) → wpAnyIn (FF ro) 0 P .any ops (CPost ro M0 H0 w0 e fr' H') fuel (listed.setIfInBounds i true) (a.put o.dst cv) w' := by
      intro r hr M' w' cv c' y1 y2 y4 y6 y5 y7
      have hro : r.o = o := by have := hat i r hr; rw [ho] at this; cases this; rfl
      have mid : Mid E P ro T He fr0 M0 H0 w0 (listed.setIfInBounds i true) (a.put o.dst cv) w' c' M' (fS.put r.o.dst r.v) mm := by
        refine ⟨x.ext.trans y1, y2, by rw [hro]; exact (x3.mono y1.pre).put y4 o.dst, ?_, fun j s hs hws hj => (SL_set hil).2 (y5 j s hs hws hj), y6, fun j s hs hpd => ?_, fun j k hj hk => x.inj j k ((y7 j).1 hj) ((y7 k).1 hk)⟩
        · refine (FS.put st hat hn x4 hr).iff (fun j => ?_) (fun j => ?_)
          · rw [y7, SL_set hil]
            by_cases e : j = i
            · subst e; simp [npi]
            · simp [e]
          · rw [y7, SL_set hil]
            by_cases e : j = i
            · subst e; simp [npi]
            · simp [e]
        · have hp' := (y7 j).1 hpd
          have q := x.pend j s hs hp'
          obtain ⟨e2, cs2, vs2, u1, u2, u3⟩ := q.obj
          have nw : ¬ Wr M (hp T He c) (mm j).block := fun ⟨id, o, m, g1, _, g3, g4⟩ => q.kn ⟨id, o, m, g1, g3, g4⟩
          refine ⟨q.lo, y1.kn _ q.hi q.kn, q.at0, ⟨e2, cs2, vs2, u1, by rw [(y1.old _ q.hi nw).1]; exact u2, u3.mono y1.pre⟩, fun d hd hda => ?_⟩
          obtain ⟨cv2, q1, q2⟩ := q.slot d hd (by cases hx : o.dst <;> rw [hx] at hda <;> simpa [Act.put] using hda)
          refine ⟨cv2, ?_, q2⟩
          have hji : j ≠ i := fun e => by subst e; exact hni hp'.1
          cases hod : o.dst with
          | none => exact q1
          | some d' =>
            have hdd : d' ≠ d := fun e => by
              subst e
              rcases Nat.lt_or_gt_of_ne hji with hlt | hgt
              · exact st.uniq j i s.o o d' (hat j s hs) ho hlt hd hod
              · exact st.uniq i j o s.o d' ho (hat j s hs) hgt hod hd
            show (a.tmps.setIfInBounds d' cv)[d]? = _
            rw [Array.getElem?_setIfInBounds_ne hdd]; exact q1
      obtain ⟨M2, fS2, c2, mm2, mid2, mx2⟩ := mid.advance st hat htr hn _ _ _ _ _ rfl
      refine ihf _ _ _ (count_set hlf hc) ⟨by simpa using inv.size, fun j hj => ?_, fun j oj hoj hj e' he' hb' => ?_, M2, fS2, c2, mm2, mid2, mx2⟩
      · rcases (SL_set hil).1 hj with hj | rfl
        · exact inv.low j hj
        · exact (List.getElem?_eq_some_iff.1 hr).1
      · refine (SL_set hil).2 (.inl ?_)
        rcases (SL_set hil).1 hj with hj | rfl
        · exact inv.closed j oj hoj hj e' he' hb'
        · rw [ho] at hoj; cases hoj; exact hedge e' he' hb'
    have heapR : ∀ (r : TRec), T[i]? = some r → hp T He i = r.H := fun r hr => by simp [hp, hr]
    have same : ∀ (r : TRec), T[i]? = some r → ¬ WL E r → ∀ j, PD E T (listed.setIfInBounds i true) c j ↔ PD E T listed c j := fun r hr hnw j => by
      unfold PD
      rw [SL_set hil]
      by_cases e : j = i
      · subst e
        simp only [hni, or_true, true_and, false_and, iff_false]
        rintro ⟨_, s, hs, hws⟩
        rw [hr] at hs; cases hs; exact hnw hws
      · simp [e]
    unfold wpOpIn
    rw [ho]
    simp only
    rcases Nat.lt_trichotomy i T.length with hiT | hiT | hiT
    · 
      obtain ⟨r, hr⟩ : ∃ r, T[i]? = some r := ⟨T[i], List.getElem?_eq_getElem hiT⟩
      have hro : r.o = o := by have := hat i r hr; rw [ho] at this; cases this; rfl
      have so := (htr i r hr).1
      have hw : wantedA ops fS.t o = some r.w := by
        rw [agw r.fr _ (tfs i r hr) (fun _ => Iff.rfl), ← hro]; exact so.want
      rw [wanted_sound x3 hw]
      cases hrw : r.w with
      | false =>
        simp only [Bool.false_eq_true, if_false]
        have nw : ¬ WL E r := fun h => by have := h.1; rw [hrw] at this; cases this
        refine ⟨fun _ _ => trivial, next r hr M w undef c (Ext.refl _ _ _) x.hr (by rw [(so.no hrw).1]; exact undef_rel M) x.le (fun j s hs hws hj => .inl (x.low j s hs hws hj)) (same r hr nw)⟩
      | true =>
        simp only [if_true]
        cases hq : quietOp E o.op with
        | true =>
          have hwq : WQ E r := ⟨hrw, by rw [hro]; exact hq⟩
          have nw : ¬ WL E r := fun h => by have := h.2; rw [hwq.2] at this; cases this
          have hv := quiet_at htr sb (S := SL listed) hr hwq x.low mx x.le hanc (fun j s hs hsj ha => hcl j s.o (hat j s hs) hsj ha) hni
          rw [hro] at hv
          have hx : execA E (hp T He c) fS.t o = some (.val r.v (hp T He c)) := by
            rw [execA_congr (reads_opd (agr r.fr _ (tfs i r hr) (fun _ => Iff.rfl)))]
            unfold quietA at hv
            split at hv
            · rename_i v2 H2 he
              cases hv
              rw [he, quiet_same hq he]
            · cases hv
          refine oper_sound hE hs xst x3 hx (r2 := .val r.v (hp T He c)) rfl ?_
          intro cv w' M' y1 y2 y3
          exact next r hr M' w' cv c y1 y2 y3 x.le (fun j s hs hws hj => .inl (x.low j s hs hws hj)) (same r hr nw)
        | false =>
          have hwl : WL E r := ⟨hrw, by rw [hro]; exact hq⟩
          obtain ⟨y, hy, hcy⟩ := so.loud hrw (by rw [hro]; exact hq)
          rw [hro] at hy
          have hy0 := hy
          rw [← execA_congr (reads_opd (agr r.fr _ (tfs i r hr) (fun _ => Iff.rfl)))] at hy
          cases hfo : freshOp o.op with
          | true =>
            have hci : c ≤ i := by
              by_cases h : i < c
              · exact absurd (x.low i r hr hwl h) hni
              · omega
            refine fresh_step hE xst x3 hfo hy ?_
            intro v cv vs et cs e1 e2 e3
            subst e1
            simp only [callsA, Option.some.injEq, ARes.val.injEq, reduceCtorEq, false_and, or_false] at hcy
            obtain ⟨rfl, hcy⟩ := hcy
            have hg := grown_push w (.cells (List.toArray vs) et)
            have pd' : ∀ j, PD E T (listed.setIfInBounds i true) c j ↔ PD E T listed c j ∨ j = i := fun j => by
              unfold PD
              rw [SL_set hil]
              by_cases e : j = i
              · subst e; simp only [or_true, iff_true, true_and]; exact ⟨hci, r, hr, hwl⟩
              · simp [e]
            have mid : Mid E P ro T He fr0 M0 H0 w0 (listed.setIfInBounds i true) (a.put o.dst cv) { w with heap := w.heap.push (.cells (List.toArray vs) et) } c M (fS.cut o.dst) (fun j => if j = i then ⟨w.heap.size, 0, 0, 0⟩ else mm j) := by
              refine ⟨x.ext.grown hg, x.hr.grown hg, x3.cut o.dst cv, ?_, fun j s hs hws hj => (SL_set hil).2 (.inl (x.low j s hs hws hj)), x.le, fun j s hs hpd => ?_, fun j k hj hk => ?_⟩
              · have := FS.cut st hat hn x4 hr (fun h => hni h.1)
                rw [hro] at this
                refine this.iff (fun j => ?_) (fun j => ?_)
                · rw [pd', SL_set hil]
                  by_cases e : j = i
                  · subst e; simp [hni]
                  · simp [e]
                · rw [pd', SL_set hil]
                  by_cases e : j = i
                  · subst e; simp
                  · simp [e]
              · by_cases hji : j = i
                · subst hji
                  rw [hr] at hs; cases hs
                  rw [if_pos rfl]
                  refine ⟨x.ext.size, fun ⟨id, ob, m, g1, g2, g3⟩ => ?_, rfl, ⟨et, cs, vs, hcy.symm, by simp, e2⟩, fun d hd hda => ⟨cv, ?_, fun M1 hM1 => e3 M1 hM1⟩⟩
                  · have := (x.hr.blk g1 g2).lt
                    simp only at g3; omega
                  · rw [hro] at hd
                    rw [hd] at hda ⊢
                    simp only [Act.put, Array.size_setIfInBounds] at hda
                    simp [Act.put, hda]
                · rw [if_neg hji]
                  have hp' := ((pd' j).1 hpd).resolve_right hji
                  have q := x.pend j s hs hp'
                  obtain ⟨f2, cs2, vs2, u1, u2, u3⟩ := q.obj
                  refine ⟨q.lo, q.kn, q.at0, ⟨f2, cs2, vs2, u1, by rw [hg.block _ q.hi (by simp)]; exact u2, u3⟩, fun d hd hda => ?_⟩
                  obtain ⟨cv2, q1, q2⟩ := q.slot d hd (by cases hx : o.dst <;> rw [hx] at hda <;> simpa [Act.put] using hda)
                  refine ⟨cv2, ?_, q2⟩
                  cases hod : o.dst with
                  | none => exact q1
                  | some d' =>
                    have hdd : d' ≠ d := fun e => by
                      subst e
                      rcases Nat.lt_or_gt_of_ne hji with hlt | hgt
                      · exact st.uniq j i s.o o d' (hat j s hs) ho hlt hd hod
                      · exact st.uniq i j o s.o d' ho (hat j s hs) hgt hod hd
                    show (a.tmps.setIfInBounds d' cv)[d]? = _
                    rw [Array.getElem?_setIfInBounds_ne hdd]; exact q1
              · have low : ∀ j, PD E T listed c j → (mm j).block < w.heap.size := fun j hpd => by
                  have hpd2 := hpd
                  obtain ⟨_, _, s, hs, _⟩ := hpd
                  exact (x.pend j s hs hpd2).hi
                intro hb
                by_cases h1 : j = i <;> by_cases h2 : k = i
                · rw [h1, h2]
                · rw [if_pos h1, if_neg h2] at hb
                  have := low k (((pd' k).1 hk).resolve_right h2)
                  simp only at hb; omega
                · rw [if_neg h1, if_pos h2] at hb
                  have := low j (((pd' j).1 hj).resolve_right h1)
                  simp only at hb; omega
                · rw [if_neg h1, if_neg h2] at hb
                  exact x.inj j k (((pd' j).1 hj).resolve_right h1) (((pd' k).1 hk).resolve_right h2) hb
            obtain ⟨M2, fS2, c2, mm2, mid2, mx2⟩ := mid.advance st hat htr hn _ _ _ _ _ rfl
            refine ihf _ _ _ (count_set hlf hc) ⟨by simpa using inv.size, fun j hj => ?_, fun j oj hoj hj e' he' hb' => ?_, M2, fS2, c2, mm2, mid2, mx2⟩
            · rcases (SL_set hil).1 hj with hj | rfl
              · exact inv.low j hj
              · exact (List.getElem?_eq_some_iff.1 hr).1
            · refine (SL_set hil).2 (.inl ?_)
              rcases (SL_set hil).1 hj with hj | rfl
              · exact inv.closed j oj hoj hj e' he' hb'
              · rw [ho] at hoj; cases hoj; exact hedge e' he' hb'
          | false =>
            have hci := loudc hq hfo (Nat.le_of_lt hiT) (fun r' hr' => by rw [hr] at hr'; cases hr'; exact hwl)
            subst hci
            have hc1 : hp T He c = r.H := heapR r hr
            rw [← hc1] at hy
            rw [← hc1, (htr c r hr).2] at hcy
            have lc : ∀ (j : Nat) (s : TRec), T[j]? = some s → WL E s → j < c + 1 → SL listed j ∨ j = c := fun j s hs hws hj => by
              by_cases e : j = c
              · exact .inr e
              · exact .inl (x.low j s hs hws (by omega))
            have pc : ∀ j, PD E T (listed.setIfInBounds c true) (c + 1) j ↔ PD E T listed c j := fun j => by
              unfold PD
              rw [SL_set hil]
              by_cases e : j = c
              · subst e; exact ⟨fun h => by have := h.2.1; omega, fun h => absurd h.1 hni⟩
              · simp only [e, or_false]
                constructor
                · rintro ⟨p, q, r⟩; exact ⟨p, by omega, r⟩
                · rintro ⟨p, q, r⟩; exact ⟨p, by omega, r⟩
            rcases hcy with hcy | ⟨hcy, hv⟩
            · refine oper_sound hE hs xst x3 hy hcy ?_
              intro cv w' M' y1 y2 y3
              exact next r hr M' w' cv (c + 1) y1 y2 y3 hiT lc pc
            · refine oper_sound hE hs xst x3 hy hcy ?_
              intro w' M' y1 y2
              exact next r hr M' w' undef (c + 1) y1 y2 (by rw [hv]; exact undef_rel M') hiT lc pc
    · 
      rcases en with ⟨h1, _⟩ | ⟨h1, o', y, v, h2, h3, h4, h5, h6, h7, h8, h9⟩
      · have : i < ops.size := (Array.getElem?_eq_some_iff.1 ho).1
        simp at h1; omega
      · simp only [Nat.zero_add] at h2 h9
        rw [← hiT, ho] at h2; cases h2
        have hfe : ∀ j, j < T.length ↔ j < i := fun j => by rw [hiT]
        have hw : wantedA ops fS.t o = some true := by rw [agw fe _ tfe hfe]; exact h3
        rw [wanted_sound x3 hw]
        simp only [if_true]
        rw [← execA_congr (reads_opd (agr fe _ tfe hfe))] at h5
        have hfo : freshOp o.op = false := by
          cases hfo : freshOp o.op with
          | false => rfl
          | true =>
            obtain ⟨_, _, _, _, _, e1, _⟩ := fresh_sound hE.tys xst.g x3.t hfo h5 w
            subst e1
            simp [callsA] at h6
        have hci := loudc h4 hfo (by omega) (fun r hr => by have := (List.getElem?_eq_some_iff.1 hr).1; omega)
        have hc1 : hp T He c = He := by rw [hci, hiT]; simp [hp]
        rw [← hc1] at h5 h6
        refine oper_sound hE hs xst x3 h5 h6 ?_
        intro cv w' M' y1 y2 y3
        subst h7; subst h8
        have npd' : ∀ j r, T[j]? = some r → ¬ PD E T listed c j := fun j r hr hp => by
          have := (List.getElem?_eq_some_iff.1 hr).1
          have := hp.2.1
          omega
        refine ⟨M', x.ext.trans y1, y2, ⟨cv, rfl, y3⟩, ⟨by rw [← x3.rd]; exact x4.rd.symm, by rw [x3.n]; exact x4.n, fun y u hu => ?_, ?_⟩⟩
        · obtain ⟨g1, g2⟩ := delDsts_get _ hu
          refine (x3.mono y1.pre).t y u ?_
          rw [← g1]
          refine x4.no y fun j r _ hr => g2 r.o ?_
          have := hat j r hr
          exact Array.mem_toList_iff.2 (Array.mem_of_getElem? this)
        · show DfRels M' fr0.df a.defers
          rw [← x4.df]; exact x3.df.mono y1.pre
    · rcases en with ⟨h1, _⟩ | ⟨h1, o', y, v, h2, h3, h4, h5, h6, h7, h8, h9⟩
      · have : i < ops.size := (Array.getElem?_eq_some_iff.1 ho).1
        simp at h1; omega
      · simp only [Nat.zero_add] at h9
        have := inv.low T.length (hanc _ (h9 i hiT (by simpa using (Array.getElem?_eq_some_iff.1 ho).1)))
        omega
theorem draw_sound (hE : EnvOk E P I) (hs : Sound E P I ih) {id : Nat} {ops : Array Oper} {an : Tr Nat} (han : ancs ops.toList 0 .nil = some an) (hall : allOk E an ops.toList = true)
    {fr fr' : AFr} {H H' : AHeap} {e : AExit} {M : List MEnt} {w : World} {a : Act} (hn : fr.n ≤ 1000000) (hz : ops.size ≤ 1000000) (h : opsD E ih ops an fr ops.toList 0 [] [] fr H = some (.code e fr' H')) (st : St E I M H w) (hf : FRel ro M fr a) :
    (Code.region id ops true).wpIn (FF ro) 0 P (CPost ro M H w e fr' H') a w := by
  obtain ⟨T, fe, He, t1, t2, t3⟩ := opsD_trace ops.toList 0 [] [] fr H rfl h
  refine wpIn_region_any hE.mixed ?_
  have d1 : Ext M H w M H { w with drawn := w.drawn + 1 } := Ext.drew rfl rfl rfl rfl
  have d2 : HRel M H { w with drawn := w.drawn + 1 } := st.hr.drew rfl
  have z := trace_zero t1
  have tat := trace_at T 0 fr H t1
  simp only [Nat.zero_add] at tat
  have no : ∀ j, ¬ SL (Array.replicate ops.size false) j := fun j hj => by
    unfold SL at hj; rw [Array.getElem?_replicate] at hj; split at hj <;> simp at hj
  have mid : Mid E P ro T He fr M H w (Array.replicate ops.size false) a { w with drawn := w.drawn + 1 } 0 M fr (fun _ => ⟨0, 0, 0, 0⟩) := by
    refine ⟨by rw [z]; exact d1, by rw [z]; exact d2, hf, ⟨rfl, rfl, rfl, fun _ _ => rfl, fun _ _ => rfl, fun j r x hj => absurd hj.1 (no j)⟩, fun j r _ _ hj => by omega, Nat.zero_le _, fun j r _ hp => absurd hp.1 (no j), fun i j hi => absurd hi.1 (no i)⟩
  have sta := stat_of hz han hall
  obtain ⟨M2, fS2, c2, mm2, mid2, mx2⟩ := mid.advance (ih := ih) sta (fun j r h => (tat j r h).1) (fun k r h => (tat k r h).2) hn _ _ _ _ _ rfl
  refine walk_any hE hs sta hn t1 t2 t3 st ops.size _ a _ (by simp) ⟨by simp, fun j hj => absurd hj (no j), fun j o _ hj => absurd hj (no j), M2, fS2, c2, mm2, mid2, mx2⟩
end
end Go.Vai
end
