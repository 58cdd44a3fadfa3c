/- Control: what the interpreter answers for a piece of code, a call, a round, the model does. Ground work: states, frames, one operation with its call. -/
import Derived.Test.YtopjbfgikglncaaGreatDoorVaiExec
import Derived.RangeFuncRecord
import Derived.RecoverIn
namespace Go.Vai

abbrev FF (ro : Option Nat) : Fence := { Fence.wide with round := ro }
theorem FF_none : FF none = Fence.wide := rfl
theorem FF_fn {ro : Option Nat} (f : FuncId) : (FF ro).fn f := trivial

structure St (E : Env) (I : List MEnt → AHeap → World → Prop) (M : List MEnt) (H : AHeap) (w : World) : Prop where
  hr : HRel M H w
  g : GRel E M
  i : I M H w

inductive DfRels (M : List MEnt) : List ADf → List Deferred → Prop
  | nil : DfRels M [] []
  | cons {x : ADf} {d : Deferred} {xs : List ADf} {ds : List Deferred} : DfRel M x d → DfRels M xs ds → DfRels M (x :: xs) (d :: ds)
theorem DfRels.mono {M M' : List MEnt} (h : M <+: M') {x : List ADf} {d : List Deferred} (r : DfRels M x d) : DfRels M' x d := by
  induction r with
  | nil => exact .nil
  | cons a _ ih => exact .cons (a.mono h) ih

structure FRel (ro : Option Nat) (M : List MEnt) (fr : AFr) (a : Act) : Prop where
  rd : fr.rd = ro.isSome
  n : a.tmps.size = fr.n
  t : TRel M fr.t a.tmps
  df : DfRels M fr.df a.defers
theorem FRel.mono {ro : Option Nat} {M M' : List MEnt} (h : M <+: M') {fr : AFr} {a : Act} (r : FRel ro M fr a) : FRel ro M' fr a := ⟨r.rd, r.n, r.t.mono h, r.df.mono h⟩

theorem FRel.put {ro : Option Nat} {M : List MEnt} {fr : AFr} {a : Act} (r : FRel ro M fr a) {v : AV} {cv : Value} (h : VRel M v cv) (d : Option Tmp) : FRel ro M (fr.put d v) (a.put d cv) := by
  cases d with
  | none => exact r
  | some d =>
    simp only [AFr.put, Act.put, Bool.cond_eq_ite, Nat.blt_eq]
    split
    · rename_i hd
      refine ⟨r.rd, by simp [r.n], fun i v' hi => ?_, r.df⟩
      rcases Tr.get_set hi with ⟨rfl, rfl⟩ | ⟨hne, hi⟩
      · exact ⟨cv, by simp [r.n, hd], h⟩
      · obtain ⟨c, hc, hv⟩ := r.t i v' hi
        exact ⟨c, by simp only [Array.getElem?_setIfInBounds_ne (Ne.symm hne), hc], hv⟩
    · rename_i hd
      have : a.tmps.setIfInBounds d cv = a.tmps := by
        apply Array.ext'
        simp only [Array.toList_setIfInBounds]
        exact List.set_eq_of_length_le (by simp [r.n]; omega)
      refine ⟨r.rd, by simp [r.n], ?_, r.df⟩
      show TRel M fr.t (a.tmps.setIfInBounds d cv)
      rw [this]; exact r.t
theorem undef_rel (M : List MEnt) : VRel M undefA undef := ⟨[], rfl, trivial⟩

def ERel (M : List MEnt) : AExit → Exit → Prop
  | .normal, x => x = .normal
  | .exit i, x => x = .exit i
  | .ret, x => x = .ret
  | .panic v, x => ∃ cv, x = .panic [{ v := cv, recovered := false }] ∧ VRel M v cv

/-- How a piece of code is left. -/
def CPost (ro : Option Nat) (M : List MEnt) (H : AHeap) (w : World) (e : AExit) (fr' : AFr) (H' : AHeap) (x : Exit) (a : Act) (w' : World) : Prop :=
  ∃ M', Ext M H w M' H' w' ∧ HRel M' H' w' ∧ ERel M' e x ∧ FRel ro M' fr' a

/-- How a call ends. -/
def CallPost (M : List MEnt) (H : AHeap) (w : World) (r : CRes) : Ending → World → Prop
  | .returned cv, w' => ∃ v H' M', r = .ret v H' ∧ Ext M H w M' H' w' ∧ HRel M' H' w' ∧ VRel M' v cv
  | .panicked chain, w' => ∃ v H' M' cv, r = .pan v H' ∧ chain = [{ v := cv, recovered := false }] ∧ Ext M H w M' H' w' ∧ HRel M' H' w' ∧ VRel M' v cv
  | .outgrown, _ => False

def Enters (P : Program) (f : FuncId) (cargs : List Value) (w : World) (R : Ending → World → Prop) : Prop :=
  (callFunc f cargs.toArray).run P w = .ok (.enter f cargs.toArray) w ∧ CallsIn Fence.wide 0 P f cargs.toArray w R
def CallsA (P : Program) (f : FuncId) (cargs : List Value) (M : List MEnt) (H : AHeap) (w : World) (r : CRes) : Prop :=
  (∃ cv w', (callFunc f cargs.toArray).run P w = .ok (.value cv) w' ∧ CallPost M H w r (.returned cv) w') ∨ Enters P f cargs w (CallPost M H w r)

structure FnOk (P : Program) (f : FuncId) (fn : AFunc) (Fn : Func) : Prop where
  at_ : P.funcs[f]? = some Fn
  body : Fn.body = some fn.body
  nt : Fn.ntmps = fn.ntmps
  res : Fn.results.toList = fn.results
  name : (Fn.name == "runtime.NumGoroutine") = false

structure EnvOk (E : Env) (P : Program) (I : List MEnt → AHeap → World → Prop) : Prop where
  tys : TysOk E P
  fns : ∀ f fn, E.fn f = some fn → ∃ Fn, FnOk P f fn Fn
  carry : ∀ M H w M' H' w', I M H w → Ext M H w M' H' w' → I M' H' w'
  sm : ∀ f args H v H' M w cargs, E.fn f = none → E.sm f args H = some (v, H') → St E I M H w → VRels M args cargs → CallsA P f cargs M H w (.ret v H')
  mixed : P.follows .mixedOrders = true

/-- A loop, its body about to run. -/
def LoopWp (F : Fence) (P : Program) (c : Code) (Q : Exit → Act → World → Prop) (a : Act) (w : World) : Prop :=
  ∀ (b : Frame) (k : List Item) (cs : List Frame), b.roundOf = F.round → F.fn b.fn → F.room (cs.length + 1 + 0) →
    ∃ e a' w', Q e a' w' ∧ ArrivesIn (Machine.fenced P F) P (lone (b.atR a (.code c :: .inLoop c :: k)) cs w) b k cs e a' w'

/-- What a deferred call finds: how its caller leaves. -/
def URel (M : List MEnt) : Option AV → FrameMode → Prop
  | none, u => u = .returning
  | some v, u => ∃ cv, u = .panicking [{ v := cv, recovered := false }] ∧ VRel M v cv
def DPost (M : List MEnt) (H : AHeap) (w : World) (taken : Bool) (H' : AHeap) (u : FrameMode) : Ending → FrameMode → World → Prop
  | .returned _, u', w' => (∃ M', Ext M H w M' H' w' ∧ HRel M' H' w') ∧ settle u' = if taken then .returning else u
  | _, _, _ => False

structure Sound (E : Env) (P : Program) (I : List MEnt → AHeap → World → Prop) (ih : Task → Option TRes) : Prop where
  loop : ∀ ro c fr H e fr' H' M w a, ih (.code (.loop c) fr H) = some (.code e fr' H') → St E I M H w → FRel ro M fr a → LoopWp (FF ro) P c (CPost ro M H w e fr' H') a w
  call : ∀ f args H r M w cargs, ih (.call f args H) = some (.call r) → St E I M H w → VRels M args cargs → CallsA P f cargs M H w r
  dcall : ∀ f args pan H taken H' M w cargs u, ih (.dcall f args pan H) = some (.dcall (.back taken H')) → St E I M H w → VRels M args cargs → URel M pan u →
    (callFunc f cargs.toArray).run P w = .ok (.enter f cargs.toArray) w ∧ CallsDIn Fence.wide 0 P f cargs.toArray u w (DPost M H w taken H' u)
  yield : ∀ id args H r M w cargs m, ih (.yield id args H) = some (.call r) → St E I M H w → VRels M args cargs → M[id]? = some m →
    ∃ f tmps assign body, (Instr.yield m.block cargs.toArray).run P w = .ok (.round m.block f tmps assign body) w ∧ RoundIn Fence.wide 0 P m.block f tmps assign body w (CallPost M H w r)

section
variable {E : Env} {P : Program} {I : List MEnt → AHeap → World → Prop} {ih : Task → Option TRes} {ro : Option Nat} {M : List MEnt} {H : AHeap} {w : World}

theorem St.next (hE : EnvOk E P I) (s : St E I M H w) {M' : List MEnt} {H' : AHeap} {w' : World} (x : Ext M H w M' H' w') (r : HRel M' H' w') : St E I M' H' w' :=
  ⟨r, s.g.mono x.pre, hE.carry _ _ _ _ _ _ s.i x⟩

theorem CPost.after {M1 : List MEnt} {H1 : AHeap} {w1 : World} (x : Ext M H w M1 H1 w1) {e : AExit} {fr' : AFr} {H' : AHeap} {ex : Exit} {a : Act} {w' : World}
    (h : CPost ro M1 H1 w1 e fr' H' ex a w') : CPost ro M H w e fr' H' ex a w' := by
  obtain ⟨M', h1, h2⟩ := h
  exact ⟨M', x.trans h1, h2⟩

theorem enter_run {f : FuncId} {fn : AFunc} {Fn : Func} (h : FnOk P f fn Fn) (cargs : Array Value) : (callFunc f cargs).run P w = .ok (.enter f cargs) w := by
  have := h.name
  simp at this
  simp [callFunc, program, Sem.run, h.at_, h.body, this]

theorem callsA_enters (hE : EnvOk E P I) {f : FuncId} {fn : AFunc} (hf : E.fn f = some fn) {cargs : List Value} {r : CRes} (h : CallsA P f cargs M H w r) : Enters P f cargs w (CallPost M H w r) := by
  obtain ⟨Fn, hF⟩ := hE.fns f fn hf
  rcases h with ⟨cv, w', h, _⟩ | h
  · rw [enter_run hF] at h; cases h
  · exact h

theorem execA_defer {fr : Tr AV} {o : Oper} {r : ARes} (h : execA E H fr o = some r) (hr : ∀ f args, r ≠ .defer f args) : ∀ c, o.op ≠ .defer c := by
  intro c hc
  unfold execA at h
  rw [hc] at h
  simp only at h
  split at h
  · split at h
    · simp only [Option.some.injEq] at h; exact hr _ _ h.symm
    · cases h
  · cases h

/-- What is asked of the way on, by an operation's outcome. -/
def NextOk (ro : Option Nat) (M : List MEnt) (H : AHeap) (w : World) (dst : Option Tmp) (a : Act) (next : Act → World → Prop) (Q : Exit → Act → World → Prop) : ARes → Prop
  | .val v H' => ∀ cv w' M', Ext M H w M' H' w' → HRel M' H' w' → VRel M' v cv → next (a.put dst cv) w'
  | .skip H' => ∀ w' M', Ext M H w M' H' w' → HRel M' H' w' → next (a.put dst undef) w'
  | .panic v H' => ∀ cv w' M', Ext M H w M' H' w' → HRel M' H' w' → VRel M' v cv → Q (.panic [{ v := cv, recovered := false }]) a w'
  | .defer f args => ro = none ∧ ∀ d, DfRel M (.call f args) d → next ({ a with defers := d :: a.defers }.put dst undef) w
  | _ => False

theorem oper_sound (hE : EnvOk E P I) (hs : Sound E P I ih) (st : St E I M H w) {fr : AFr} {a : Act} (hf : FRel ro M fr a) {o : Oper} {r r2 : ARes} (h1 : execA E H fr.t o = some r) (h2 : callsA ih H r = some r2)
    {next : Act → World → Prop} {Q : Exit → Act → World → Prop} (hn : NextOk ro M H w o.dst a next Q r2) : o.wpIn (FF ro) 0 P a w next Q := by
  refine ⟨fun _ _ => trivial, ?_⟩
  have hx := execA_sound hE.tys st.g st.hr hf.t h1
  have sem : (∀ f args, r ≠ .defer f args) → o.semAt (FF ro).round a.eval = execOp a.eval o := fun hr => Oper.semAt_eq _ _ _ (execA_defer h1 hr)
  cases r with
  | val v H' =>
    simp only [callsA, Option.some.injEq] at h2
    subst h2
    rw [sem (fun _ _ h => by cases h)]
    obtain ⟨cv, w', M', hr, x1, x2, x3⟩ := hx
    rw [hr]
    exact hn cv w' M' x1 x2 x3
  | skip H' =>
    simp only [callsA, Option.some.injEq] at h2
    subst h2
    rw [sem (fun _ _ h => by cases h)]
    obtain ⟨w', M', hr, x1, x2⟩ := hx
    rw [hr]
    exact hn w' M' x1 x2
  | panic v H' =>
    simp only [callsA, Option.some.injEq] at h2
    subst h2
    rw [sem (fun _ _ h => by cases h)]
    obtain ⟨cv, hr, rfl, x1⟩ := hx
    rw [hr]
    exact hn cv w M (Ext.refl _ _ _) st.hr x1
  | defer f args =>
    simp only [callsA, Option.some.injEq] at h2
    subst h2
    obtain ⟨hro, hn⟩ := hn
    subst hro
    obtain ⟨d, hr, hd⟩ := hx
    show Oper.uponIn _ _ _ _ _ _ _ ((Oper.semAt none a.eval o).run P w)
    rw [Oper.semAt_none, hr]
    exact hn d hd
  | call f args =>
    rw [sem (fun _ _ h => by cases h)]
    obtain ⟨cargs, hr, hargs⟩ := hx
    rw [hr]
    simp only [callsA] at h2
    have key : ∀ res, ih (.call f args H) = some (.call res) → (∀ cv w', CallPost M H w res (.returned cv) w' → next (a.put o.dst cv) w') →
        (∀ ch w', CallPost M H w res (.panicked ch) w' → Q (.panic ch) a w') → o.uponIn (FF ro) 0 P a next Q ((callFunc f cargs.toArray).run P w) := by
      intro res hres k1 k2
      rcases hs.call f args H res M w cargs hres st hargs with ⟨cv, w', hrun, hp⟩ | ⟨hrun, hc⟩
      · rw [hrun]; exact k1 cv w' hp
      · rw [hrun]
        refine ⟨fun h => (by cases h), ?_⟩
        refine CallsIn.mono (F := FF ro) (R := CallPost M H w res) hc ?_
        intro e w' hp
        cases e with
        | returned v => exact k1 v w' hp
        | panicked ch => exact k2 ch w' hp
        | outgrown => exact hp.elim
    split at h2
    · rename_i v H' hres
      simp only [Option.some.injEq] at h2; subst h2
      refine key _ hres ?_ ?_
      · rintro cv w' ⟨v', H2, M', e, x1, x2, x3⟩
        cases e
        exact hn cv w' M' x1 x2 x3
      · rintro ch w' ⟨v', H2, M', cv, e, _⟩
        cases e
    · rename_i v H' hres
      simp only [Option.some.injEq] at h2; subst h2
      refine key _ hres ?_ ?_
      · rintro cv w' ⟨v', H2, M', e, _⟩
        cases e
      · rintro ch w' ⟨v', H2, M', cv, e, rfl, x1, x2, x3⟩
        cases e
        exact hn cv w' M' x1 x2 x3
    · cases h2
  | ycall id args =>
    rw [sem (fun _ _ h => by cases h)]
    obtain ⟨m, cargs, hm, hr, hargs⟩ := hx
    rw [hr]
    simp only [callsA] at h2
    split at h2
    case h_2 => cases h2
    rename_i v H' hres
    simp only [Option.some.injEq] at h2; subst h2
    obtain ⟨f, tmps, assign, body, hrun, hround⟩ := hs.yield id args H _ M w cargs m hres st hargs hm
    rw [hrun]
    refine ⟨fun h => (by cases h), ?_⟩
    refine RoundIn.mono (F := FF ro) (R := CallPost M H w (.ret v H')) hround ?_
    intro e w' hp
    cases e with
    | returned cv =>
      obtain ⟨v', H2, M', e, x1, x2, x3⟩ := hp
      cases e
      exact hn cv w' M' x1 x2 x3
    | panicked ch => obtain ⟨v', H2, M', cv, e, _⟩ := hp; cases e
    | outgrown => exact hp.elim

theorem wanted_sound {fr : AFr} {a : Act} (hf : FRel ro M fr a) {all : Array Oper} {o : Oper} {b : Bool} (h : wantedA all fr.t o = some b) : Region.wanted o (yielded all a.tmps) = b := by
  unfold wantedA at h
  unfold Region.wanted
  split at h
  · rename_i hg
    simp only [Option.some.injEq] at h
    rw [hg]; exact h
  · rename_i j want hg
    rw [hg]
    simp only [yielded]
    split at h
    · rename_i hd
      simp only [Option.some.injEq] at h; subst h
      rw [hd]; rfl
    · rename_i d hd
      rw [hd]
      simp only [Option.bind_some]
      split at h
      · rename_i c hc
        simp only [Option.some.injEq] at h; subst h
        obtain ⟨cv, h1, h2⟩ := hf.t _ _ hc
        simp only [VRel] at h2; subst h2
        rw [h1]; simp
      · rename_i vs hc
        simp only [Option.some.injEq] at h; subst h
        obtain ⟨cv, h1, vs', rfl, _⟩ := hf.t _ _ hc
        rw [h1]; simp
      · cases h

theorem opsA_sound (hE : EnvOk E P I) (hs : Sound E P I ih) {ops : Array Oper} {M0 : List MEnt} {H0 : AHeap} {w0 : World} {e : AExit} {fr' : AFr} {H' : AHeap} :
    ∀ (os : List Oper) (i : Nat) (fr : AFr) (H : AHeap) (M : List MEnt) (w : World) (a : Act), ops.toList.drop i = os → opsA E ih ops os fr H = some (.code e fr' H') → Ext M0 H0 w0 M H w → St E I M H w → FRel ro M fr a →
      wpOpsIn (FF ro) 0 P ops (CPost ro M0 H0 w0 e fr' H') (List.range' i os.length) a w := by
  intro os
  induction os with
  | nil =>
    intro i fr H M w a _ h x st hf
    simp only [opsA, Option.some.injEq, TRes.code.injEq] at h
    obtain ⟨rfl, rfl, rfl⟩ := h
    exact ⟨M, x, st.hr, rfl, hf⟩
  | cons o rest ihl =>
    intro i fr H M w a hd h x st hf
    have ho : ops[i]? = some o := by
      have := congrArg (·[0]?) hd
      simpa using this
    have hd' : ops.toList.drop (i + 1) = rest := by
      rw [← List.tail_drop, hd]; rfl
    simp only [List.length_cons, List.range'_succ, wpOpsIn, ho]
    simp only [opsA] at h
    split at h
    · cases h
    · rename_i hw
      rw [wanted_sound hf hw]
      simp only [Bool.false_eq_true, if_false]
      exact ⟨fun _ _ => trivial, ihl (i + 1) _ _ _ _ _ hd' h x st (hf.put (undef_rel M) o.dst)⟩
    · rename_i hw
      rw [wanted_sound hf hw]
      simp only [if_true]
      split at h
      · cases h
      rename_i r hr
      split at h
      · rename_i v H1 hc
        refine oper_sound hE hs st hf hr hc ?_
        intro cv w' M' y1 y2 y3
        exact ihl (i + 1) _ _ _ _ _ hd' h (x.trans y1) (st.next hE y1 y2) ((hf.mono y1.pre).put y3 o.dst)
      · rename_i H1 hc
        refine oper_sound hE hs st hf hr hc ?_
        intro w' M' y1 y2
        exact ihl (i + 1) _ _ _ _ _ hd' h (x.trans y1) (st.next hE y1 y2) ((hf.mono y1.pre).put (undef_rel M') o.dst)
      · rename_i v H1 hc
        refine oper_sound hE hs st hf hr hc ?_
        intro cv w' M' y1 y2 y3
        simp only [Option.some.injEq, TRes.code.injEq] at h
        obtain ⟨rfl, rfl, rfl⟩ := h
        exact ⟨M', x.trans y1, y2, ⟨cv, rfl, y3⟩, hf.mono y1.pre⟩
      · rename_i f args hc
        cases hrd : fr.rd with
        | true => simp [hrd] at h
        | false =>
          simp only [hrd, cond_false] at h
          refine oper_sound hE hs st hf hr hc ⟨?_, ?_⟩
          · have := hf.rd
            rw [hrd] at this
            cases ro with
            | none => rfl
            | some _ => cases this
          · intro d hdf
            exact ihl (i + 1) _ _ _ _ _ hd' h x st (FRel.put (fr := { n := fr.n, t := fr.t, df := .call f args :: fr.df, rd := false }) (a := { a with defers := d :: a.defers }) ⟨by rw [← hf.rd]; exact hrd.symm, hf.n, hf.t, .cons hdf hf.df⟩ (undef_rel M) o.dst)
      · cases h

end
end Go.Vai
