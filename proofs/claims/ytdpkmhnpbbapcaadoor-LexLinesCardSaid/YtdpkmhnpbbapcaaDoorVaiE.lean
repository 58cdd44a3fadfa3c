/- Control: a piece of code, by its make.
Control: ways out of a function, calls, deferred calls, rounds; and the whole: what the interpreter answers for a call, the program does.
The interpreter's tables, read off a program; they are what the interpreter asks them to be; a closed call.
Functions of the library that the model stands in for, as summaries of the interpreter.
The interpreter over a program, with the library's stand-ins and closed calls as summaries; a law's call from what is known of memory.
Arguments and listed variables of plain data, opened for the interpreter; a law's reading behind the call.
Listed package-level variables of plain data, av rows that may be read. -/
import Derived.Test.YtdpkmhnpbbapcaaDoorVaiD
import Derived.Lib.BytesEntry
import Derived.Lib.MakeNoZero
import Derived.Carry
import Derived.ChangeArms
import Derived.OpenShut
import Derived.Lib.LaidIn
import Derived.Lib.LaidU8
import Derived.MakeChecks
section
namespace Go.Vai
section
variable {E : Env} {P : Program} {I : List MEnt → AHeap → World → Prop} {ih : Task → Option TRes} {ro : Option Nat}
theorem Qr {M : List MEnt} {H : AHeap} {w : World} (hr : HRel M H w) {id : Nat} {m : MEnt} (hm : M[id]? = some m) {st : LSt} {pend : Option AExit} {n : Nat} {t : Tr AV} {ps : List Nat} {asz bo : Code} {d : Nat}
    (h : H.get id = some (.loop st pend n t ps asz bo d)) :
    ∃ L : Loop, w.heap[m.block]? = some (.loop L) ∧ L.state = Zra st ∧ Zk7 pend L.pending ∧ L.params.toList = ps ∧ L.assign = asz ∧ L.body = bo ∧ L.tmps.size = n ∧ Zai M t L.tmps ∧ ∃ d', M[d]? = some d' ∧ L.defers = d'.block :=
  hr.blk h hm
theorem Zf5 (w : World) (b : Nat) (o : Obj) : w.grownBy (w.putObj b o) (some b) :=
  ⟨rfl, rfl, rfl, by simp, fun k _ hne => World.putObj_heap_other (by intro e; subst e; exact hne rfl)⟩
theorem Zd9 {M : List MEnt} {H : AHeap} {w : World} (hr : HRel M H w) {id : Nat} {m : MEnt} (hm : M[id]? = some m) {st : LSt} {pend : Option AExit} {n : Nat} {t : Tr AV} {ps : List Nat} {asz bo : Code} {d : Nat}
    (h : H.get id = some (.loop st pend n t ps asz bo d)) {L : Loop} (hL : w.heap[m.block]? = some (.loop L)) {st' : LSt} {pend' : Option AExit} {cst : LoopState} {cp : Option Code} (h1 : cst = Zra st') (h2 : Zk7 pend' cp) :
    HRel M (H.put id (.loop st' pend' n t ps asz bo d)) (w.putObj m.block (.loop { L with state := cst, pending := cp })) ∧
    Ext M H w M (H.put id (.loop st' pend' n t ps asz bo d)) (w.putObj m.block (.loop { L with state := cst, pending := cp })) := by
  obtain ⟨L', e1, e2, e3, e4, e5, e6, e7, e8, d', e9, e10⟩ := Qr hr hm h
  rw [hL] at e1; cases e1
  have hlt : m.block < w.heap.size := (Array.getElem?_eq_some_iff.1 hL).1
  exact hr.put h rfl hm (Zf5 _ _ _) _ ⟨_, World.putObj_heap_same hlt, h1, h2, e4, e5, e6, e7, e8, d', e9, e10⟩
theorem Zap {F : Fence} {P : Program} {c : Code} {Q : Exit → Act → World → Prop} {a : Act} {w : World} (h : Zc0 F P c Q a w) : (Code.loop c).wpIn F 0 P Q a w := by
  intro b k cs hro hb hr
  obtain ⟨e, a', w', q, r⟩ := h b k cs hro hb hr
  exact ⟨e, a', w', q, .of_steps (.one (fenced_calm hb hr rfl) stepR_loop) r⟩
theorem Zbn {F : Fence} {P : Program} {c : Code} {Q : Exit → Act → World → Prop} {a : Act} {w : World} (h : c.wpIn F 0 P (Exit.then (Zc0 F P c Q) Q) a w) : Zc0 F P c Q a w := by
  intro b k cs hro hb hr
  obtain ⟨e, a₁, w₁, hq, harr⟩ := h b (.inLoop c :: k) cs hro hb hr
  cases e with
  | normal =>
    obtain ⟨e₂, a₂, w₂, hq₂, harr₂⟩ := hq b k cs hro hb hr
    exact ⟨e₂, a₂, w₂, hq₂, .of_steps (StepsIn.trans harr (.one (fenced_calm hb hr rfl) stepR_inLoop)) harr₂⟩
  | exit id => exact ⟨_, a₁, w₁, hq, .pass (x := .inLoop c) rfl (fun _ _ => .inl (by simp)) harr⟩
  | goto l => exact ⟨_, a₁, w₁, hq, .pass (x := .inLoop c) rfl (fun _ _ => .inl (by simp)) harr⟩
  | ret => exact ⟨_, a₁, w₁, hq, .pass (x := .inLoop c) rfl (fun _ _ => .inl (by simp)) harr⟩
  | panic ch => exact ⟨_, a₁, w₁, hq, .pass (x := .inLoop c) rfl (fun _ _ => .inl (by simp)) harr⟩
  | outgrown => exact ⟨_, a₁, w₁, hq, .pass (x := .inLoop c) rfl (fun _ _ => .inl (by simp)) harr⟩
theorem Zgx {ro : Option Nat} {M : List MEnt} {H : AHeap} {w : World} {e : AExit} {fr' : AFr} {H' : AHeap} {x : Exit} {a : Act} {w' : World} {K : Act → World → Prop} (he : e ≠ .normal) (h : Ky ro M H w e fr' H' x a w') :
    Exit.then K (Ky ro M H w e fr' H') x a w' := by
  have h' := h
  obtain ⟨M', _, _, h3, _⟩ := h'
  cases e with
  | normal => exact absurd rfl he
  | exit i => simp only [Xr] at h3; subst h3; exact h
  | ret => simp only [Xr] at h3; subst h3; exact h
  | panic v => obtain ⟨cv, rfl, _⟩ := h3; exact h
theorem Xd (hE : EnvOk E P I) (hs : Sound E P I ih) : ∀ (c : Code) (fr : AFr) (H : AHeap) (e : AExit) (fr' : AFr) (H' : AHeap) (M : List MEnt) (w : World) (a : Act),
    Yu E ih c fr H = some (.code e fr' H') → St E I M H w → FRel ro M fr a → c.wpIn (FF ro) 0 P (Ky ro M H w e fr' H') a w := by
  intro c
  induction c with
  | skip =>
    intro fr H e fr' H' M w a h st hf
    simp only [Yu, Option.some.injEq, TRes.code.injEq] at h
    obtain ⟨rfl, rfl, rfl⟩ := h
    exact wpIn_skip ⟨M, Ext.refl _ _ _, st.hr, rfl, hf⟩
  | label l =>
    intro fr H e fr' H' M w a h st hf
    simp only [Yu, Option.some.injEq, TRes.code.injEq] at h
    obtain ⟨rfl, rfl, rfl⟩ := h
    exact wpIn_label ⟨M, Ext.refl _ _ _, st.hr, rfl, hf⟩
  | ret =>
    intro fr H e fr' H' M w a h st hf
    simp only [Yu, Option.some.injEq, TRes.code.injEq] at h
    obtain ⟨rfl, rfl, rfl⟩ := h
    exact wpIn_ret ⟨M, Ext.refl _ _ _, st.hr, rfl, hf⟩
  | exit id =>
    intro fr H e fr' H' M w a h st hf
    simp only [Yu, Option.some.injEq, TRes.code.injEq] at h
    obtain ⟨rfl, rfl, rfl⟩ := h
    exact wpIn_exit ⟨M, Ext.refl _ _ _, st.hr, rfl, hf⟩
  | seq x y ihx ihy =>
    intro fr H e fr' H' M w a h st hf
    simp only [Yu] at h
    refine wpIn_seq ?_
    split at h
    · rename_i fr1 H1 hx
      refine wpIn_mono (ihx fr H _ _ _ M w a hx st hf) ?_
      rintro ex a1 w1 ⟨M1, x1, x2, x3, x4⟩
      simp only [Xr] at x3; subst x3
      exact wpIn_mono (ihy fr1 H1 e fr' H' M1 w1 a1 h (st.next hE x1 x2) x4) fun ex a2 w2 hp => hp.after x1
    · rename_i hne
      refine wpIn_mono (ihx fr H e fr' H' M w a h st hf) fun ex a1 w1 hp => Zgx (fun he => hne fr' H' (by rw [h, he])) hp
  | cond c x y ihx ihy =>
    intro fr H e fr' H' M w a h st hf
    simp only [Yu] at h
    split at h
    · rename_i hc
      have := Zw st.g hf.t hc
      simp only [Zj] at this
      exact wpIn_cond_true this (ihx fr H e fr' H' M w a h st hf)
    · rename_i hc
      have := Zw st.g hf.t hc
      simp only [Zj] at this
      exact wpIn_cond_false this (ihy fr H e fr' H' M w a h st hf)
    · cases h
  | block id c ihc =>
    intro fr H e fr' H' M w a h st hf
    simp only [Yu] at h
    refine wpIn_block ?_
    split at h
    · rename_i i fr1 H1 hx
      refine wpIn_mono (ihc fr H _ _ _ M w a hx st hf) ?_
      rintro ex a1 w1 ⟨M1, x1, x2, x3, x4⟩
      simp only [Xr] at x3; subst x3
      simp only [Bool.cond_eq_ite, Nat.beq_eq] at h
      simp only [Exit.inBlock]
      split
      · rename_i hi
        rw [if_pos hi] at h
        simp only [Option.some.injEq, TRes.code.injEq] at h
        obtain ⟨rfl, rfl, rfl⟩ := h
        exact ⟨M1, x1, x2, rfl, x4⟩
      · rename_i hi
        rw [if_neg hi] at h
        simp only [Option.some.injEq, TRes.code.injEq] at h
        obtain ⟨rfl, rfl, rfl⟩ := h
        exact ⟨M1, x1, x2, rfl, x4⟩
    · rename_i hne
      refine wpIn_mono (ihc fr H e fr' H' M w a h st hf) ?_
      intro ex a1 w1 hp
      have hp' := hp
      obtain ⟨M1, x1, x2, x3, x4⟩ := hp'
      cases e with
      | exit i => exact absurd h (hne i fr' H')
      | normal => simp only [Xr] at x3; subst x3; exact hp
      | ret => simp only [Xr] at x3; subst x3; exact hp
      | panic v => obtain ⟨cv, rfl, _⟩ := x3; exact hp
  | loop c ihc =>
    intro fr H e fr' H' M w a h st hf
    simp only [Yu] at h
    refine Zap (Zbn ?_)
    split at h
    · rename_i fr1 H1 hx
      refine wpIn_mono (ihc fr H _ _ _ M w a hx st hf) ?_
      rintro ex a1 w1 ⟨M1, x1, x2, x3, x4⟩
      simp only [Xr] at x3; subst x3
      intro b k cs hro hb hr
      obtain ⟨e2, a2, w2, q, r⟩ := hs.loop ro c fr1 H1 e fr' H' M1 w1 a1 h (st.next hE x1 x2) x4 b k cs hro hb hr
      exact ⟨e2, a2, w2, q.after x1, r⟩
    · rename_i hne
      refine wpIn_mono (ihc fr H e fr' H' M w a h st hf) fun ex a1 w1 hp => Zgx (fun he => hne fr' H' (by rw [h, he])) hp
  | region id ops draw =>
    intro fr H e fr' H' M w a h st hf
    simp only [Yu, Zam] at h
    cases draw with
    | false =>
      simp only [cond_false] at h
      refine wpIn_region ?_
      have := Zrr (ro := ro) hE hs ops.toList 0 fr H M w a rfl h (Ext.refl _ _ _) st hf
      rw [List.range_eq_range']
      exact this
    | true =>
      simp only [cond_true] at h
      split at h
      · cases h
      rename_i an han
      simp only [Bool.cond_eq_ite, Bool.and_eq_true, Nat.ble_eq] at h
      split at h
      case isFalse => cases h
      rename_i hall
      exact Zse hE hs han hall.1 hall.2.1 hall.2.2 h st hf
  | rangeFunc f ps assign body _ _ =>
    intro fr H e fr' H' M w a h st hf
    simp only [Yu] at h
    cases hrd : fr.rd with
    | true => simp [hrd] at h
    | false =>
    simp only [hrd, cond_false] at h
    have hro : ro = none := by
      have := hf.rd
      rw [hrd] at this
      cases ro with
      | none => rfl
      | some _ => cases this
    subst hro
    split at h
    case h_2 => cases h
    rename_i g first cap hop
    split at h
    · cases h
    rename_i fn hfn
    obtain ⟨fs, cs, hev, r1, r2⟩ := Zw st.g hf.t hop
    split at h
    case h_2 => cases h
    rename_i v H1 hcall
    refine wpIn_rangeFunc fun fnr _ => ?_
    obtain ⟨n1, n2⟩ := st.hr.new (World.grownBy_alloc w (.deferred (some [])) none) .dfr ⟨w.heap.size, 0, 0, 0⟩ (Nat.le_refl _) (World.alloc_heap_new w _)
    have sz : (w.alloc (.deferred (some []))).heap.size = w.heap.size + 1 := by rw [World.size_alloc]
    have Yl : (M ++ [(⟨w.heap.size, 0, 0, 0⟩ : MEnt)])[H.next]? = some ⟨w.heap.size, 0, 0, 0⟩ := by rw [← st.hr.len]; simp
    have l1 : (M ++ [(⟨w.heap.size, 0, 0, 0⟩ : MEnt)]).length = H.next + 1 := by simp [st.hr.len]
    have at1' : (M ++ [(⟨w.heap.size, 0, 0, 0⟩ : MEnt)] ++ [(⟨w.heap.size + 1, 0, 0, 0⟩ : MEnt)])[H.next]? = some ⟨w.heap.size, 0, 0, 0⟩ := Yt (List.prefix_append _ _) Yl
    have at2 : (M ++ [(⟨w.heap.size, 0, 0, 0⟩ : MEnt)] ++ [(⟨w.heap.size + 1, 0, 0, 0⟩ : MEnt)])[H.next + 1]? = some ⟨w.heap.size + 1, 0, 0, 0⟩ := by
      rw [List.getElem?_append_right (by omega), l1]; simp
    have heapL := World.alloc_heap_new (w.alloc (.deferred (some []))) (.loop { state := .ready, pending := none, fn := fnr, tmps := a.tmps, params := ps, assign, body, defers := w.heap.size })
    obtain ⟨n3, n4⟩ := n1.new (World.grownBy_alloc (w.alloc (.deferred (some []))) (.loop { state := .ready, pending := none, fn := fnr, tmps := a.tmps, params := ps, assign, body, defers := w.heap.size }) none)
      (.loop .ready none fr.n fr.t ps.toList assign body H.next) ⟨w.heap.size + 1, 0, 0, 0⟩ (by rw [sz]; exact Nat.le_refl _)
      ⟨{ state := .ready, pending := none, fn := fnr, tmps := a.tmps, params := ps, assign, body, defers := w.heap.size }, by rw [sz] at heapL; exact heapL, rfl, rfl, rfl, rfl, rfl, hf.n, hf.t.mono ((List.prefix_append _ _).trans (List.prefix_append _ _)), _, at1', rfl⟩
    have x12 := n2.trans n4
    have pre : M <+: M ++ [(⟨w.heap.size, 0, 0, 0⟩ : MEnt)] ++ [(⟨w.heap.size + 1, 0, 0, 0⟩ : MEnt)] := x12.pre
    have hargs : Zq (M ++ [(⟨w.heap.size, 0, 0, 0⟩ : MEnt)] ++ [(⟨w.heap.size + 1, 0, 0, 0⟩ : MEnt)]) (first ++ (.yld (H.next + 1) :: cap)) (fs ++ (.func (.yield (w.heap.size + 1)) #[] #[] :: cs)) :=
      (r1.mono pre).append ⟨⟨_, at2, rfl⟩, r2.mono pre⟩
    obtain ⟨hrun, hcalls⟩ := Za3 hE hfn (hs.call _ _ _ _ _ _ _ hcall (st.next hE x12 n3) hargs)
    refine ⟨w.heap.size + 1, [{ target := .collected w.heap.size, args := #[] }], _, { target := .fn (.func g) cs.toArray, args := (fs ++ [Value.func (.yield (w.heap.size + 1)) #[] #[]]).toArray }, ((w.alloc (.deferred (some []))).alloc (.loop { state := .ready, pending := none, fn := fnr, tmps := a.tmps, params := ps, assign, body, defers := w.heap.size })), g, (fs ++ (Value.func (.yield (w.heap.size + 1)) #[] #[] :: cs)).toArray, ((w.alloc (.deferred (some []))).alloc (.loop { state := .ready, pending := none, fn := fnr, tmps := a.tmps, params := ps, assign, body, defers := w.heap.size })), run_enterLoop_outer _ _ _ _ _, ?_, fun _ _ => trivial, ?_, fun h => (by cases h), ?_⟩
    · have hk : ∀ v, a.eval (.const v) = v := fun _ => rfl
      simp [resolve, hev, Deferred.ofValue, hk]
    · simp only [invoke]
      have : (fs ++ [Value.func (.yield (w.heap.size + 1)) #[] #[]]).toArray ++ cs.toArray = (fs ++ (Value.func (.yield (w.heap.size + 1)) #[] #[] :: cs)).toArray := by simp
      rw [this]
      exact hrun
    · refine CallsIn.mono (F := FF none) hcalls ?_
      intro en w3 hp
      cases en with
      | outgrown => exact hp.elim
      | panicked ch => obtain ⟨_, _, _, _, e, _⟩ := hp; cases e
      | returned cv =>
        obtain ⟨v', H2, M3, e3, x3, x4, x5⟩ := hp
        cases e3
        have a1 := Yt x3.pre at1'
        have a2 := Yt x3.pre at2
        have ff : FRel none M3 { fr with df := .mark H.next :: fr.df } { a with defers := { target := .collected w.heap.size, args := #[] } :: a.defers } :=
          ⟨hf.rd, hf.n, hf.t.mono (pre.trans x3.pre), .cons ⟨_, a1, rfl⟩ (hf.df.mono (pre.trans x3.pre))⟩
        have key : ∀ st' pend n t p a' b d, st' ≠ LSt.busy → H1.get (H.next + 1) = some (.loop st' pend n t p a' b d) → ∃ jump w4, (Instr.endLoop (w.heap.size + 1)).run P w3 = .ok jump w4 ∧ Zk7 pend jump ∧
            ∃ M4, Ext M H w M4 (H1.put (H.next + 1) (.loop .exhausted pend n t p a' b d)) w4 ∧ HRel M4 (H1.put (H.next + 1) (.loop .exhausted pend n t p a' b d)) w4 ∧ FRel none M4 { fr with df := .mark H.next :: fr.df } { a with defers := { target := .collected w.heap.size, args := #[] } :: a.defers } := by
          intro st' pend n t p a' b d hst hget
          obtain ⟨L, e1, e2, e3, _⟩ := Qr x4 a2 hget
          obtain ⟨y1, y2⟩ := Zd9 x4 a2 hget e1 (st' := .exhausted) (pend' := pend) (cst := .exhausted) (cp := L.pending) rfl e3
          refine ⟨L.pending, _, run_endLoop e1 (by rw [e2]; cases st' <;> simp_all [Zra]), e3, M3, (x12.trans x3).trans y2, y1, ff⟩
        have hrd' : ∀ x : AFr, x = { n := fr.n, t := fr.t, df := .mark H.next :: fr.df, rd := false } → x = { fr with df := .mark H.next :: fr.df } := by
          intro x hx; rw [hx, ← hrd]
        split at h
        · cases h
        · rename_i st' n t p a' b d hne hget
          simp only [Option.some.injEq, TRes.code.injEq] at h
          obtain ⟨rfl, hfr, rfl⟩ := h
          have := hrd' _ hfr.symm
          subst this
          obtain ⟨jump, w4, k1, k2, M4, k3, k4, k5⟩ := key st' _ n t p a' b d hne hget
          simp only [Zk7] at k2; subst k2
          exact ⟨none, w4, k1, ⟨M4, k3, k4, rfl, k5⟩⟩
        · rename_i st' n t p a' b d hne hget
          simp only [Option.some.injEq, TRes.code.injEq] at h
          obtain ⟨rfl, hfr, rfl⟩ := h
          have := hrd' _ hfr.symm
          subst this
          obtain ⟨jump, w4, k1, k2, M4, k3, k4, k5⟩ := key st' _ n t p a' b d hne hget
          simp only [Zk7] at k2; subst k2
          exact ⟨some .ret, w4, k1, wpIn_ret ⟨M4, k3, k4, rfl, k5⟩⟩
        · rename_i st' i n t p a' b d hne hget
          simp only [Option.some.injEq, TRes.code.injEq] at h
          obtain ⟨rfl, hfr, rfl⟩ := h
          have := hrd' _ hfr.symm
          subst this
          obtain ⟨jump, w4, k1, k2, M4, k3, k4, k5⟩ := key st' _ n t p a' b d hne hget
          simp only [Zk7] at k2; subst k2
          exact ⟨some (.exit i), w4, k1, wpIn_exit ⟨M4, k3, k4, rfl, k5⟩⟩
        · cases h
  | scope c _ => intro fr H e fr' H' M w a h; simp [Yu] at h
  | refuse _ => intro fr H e fr' H' M w a h; simp [Yu] at h
  | goto l => intro fr H e fr' H' M w a h; simp [Yu] at h
end
end Go.Vai
end
section
namespace Go.Vai
section
variable {E : Env} {P : Program} {I : List MEnt → AHeap → World → Prop} {ih : Task → Option TRes}
def Zhi (tmps : Array Value) : ResultVar → Sem Value
  | .tmp t => pure (tmps.getD t undef)
  | .cell a t => do loadVar t (← asAddr (tmps.getD a undef))
theorem Z6y (hE : TysOk E P) {M : List MEnt} {H : AHeap} {w : World} (hr : HRel M H w) {t : Tr AV} {tmps : Array Value} (ht : Zai M t tmps) : ∀ (rs : List ResultVar) (l : List AV), Xm E t H rs = some l →
    ∃ vs, (rs.mapM (Zhi tmps)).run P w = .ok vs w ∧ Zq M l vs := by
  intro rs
  induction rs with
  | nil =>
    intro l h
    simp only [Xm, Option.some.injEq] at h; subst h
    exact ⟨[], by simp, trivial⟩
  | cons r rs ihr =>
    intro l h
    cases r with
    | tmp i =>
      simp only [Xm] at h
      split at h
      · cases h
      rename_i v hv
      split at h
      case h_2 => cases h
      rename_i l' hl
      simp only [Option.some.injEq] at h; subst h
      obtain ⟨cv, h1, h2⟩ := ht _ _ hv
      obtain ⟨vs, h3, h4⟩ := ihr _ hl
      refine ⟨cv :: vs, ?_, h2, h4⟩
      rw [List.mapM_cons]
      have e : (Zhi tmps (.tmp i)).run P w = .ok cv w := by simp [Zhi, Array.getD_eq_getD_getElem?, h1]
      simp only [Sem.run_bind, Sem.run_pure, e, Result.andThen_ok, h3]
    | cell a i =>
      simp only [Xm] at h
      split at h
      · cases h
      rename_i p hp
      split at h
      · cases h
      rename_i v hv
      split at h
      case h_2 => cases h
      rename_i l' hl
      simp only [Option.some.injEq] at h; subst h
      obtain ⟨cp, h1, h2⟩ := ht _ _ hp
      obtain ⟨ad, cv, h5, h6, h7⟩ := Zem hE hr h2 hv
      obtain ⟨vs, h3, h4⟩ := ihr _ hl
      refine ⟨cv :: vs, ?_, h7, h4⟩
      rw [List.mapM_cons]
      have e : (Zhi tmps (.cell a i)).run P w = .ok cv w := by simp [Zhi, Array.getD_eq_getD_getElem?, h1, h5, asAddr, h6]
      simp only [Sem.run_bind, Sem.run_pure, e, Result.andThen_ok, h3]
theorem W6 (hE : TysOk E P) {M : List MEnt} {H : AHeap} {w : World} (hr : HRel M H w) {t : Tr AV} {tmps : Array Value} (ht : Zai M t tmps) {Fn : Func} {l : List AV} (h : Xm E t H Fn.results.toList = some l) :
    ∃ cv, (results Fn tmps).run P w = .ok cv w ∧ Zj M (Ja l) cv := by
  obtain ⟨vs, h1, h2⟩ := Z6y hE hr ht _ _ h
  refine ⟨if h : vs.toArray.size = 1 then vs.toArray[0] else .tuple vs.toArray, ?_, ?_⟩
  · show (do let vs ← Fn.results.mapM (Zhi tmps); pure (if h : vs.size = 1 then vs[0] else Value.tuple vs) : Sem Value).run P w = _
    rw [Sem.run_bind, Array.mapM_eq_mapM_toList, Sem.run_map]
    rw [h1]
    rfl
  · match l, vs, h2 with
    | [], [], _ => exact ⟨[], rfl, trivial⟩
    | [v], [cv], ⟨h, _⟩ => exact h
    | a :: b :: l, x :: y :: vs, h => exact ⟨x :: y :: vs, by simp, h⟩
theorem HRel.shut {M : List MEnt} {H : AHeap} {w w' : World} (h : HRel M H w) {id : Nat} {o : AObj} {m : MEnt} (e : H.get id = some o) (hro : o.isRo = false) (hm : M[id]? = some m) (hg : w.grownBy w' (some m.block)) :
    HRel M (H.kill id) w' ∧ Ext M H w M (H.kill id) w' := by
  have ne : ∀ j p k, H.get j = some p → M[j]? = some k → j ≠ id → k.block ≠ m.block := fun j p k ej ek hj hb => by
    have := (h.inj j id p o k m ej e ek hm hj hb).2
    rw [hro] at this; cases this
  refine ⟨⟨h.len, fun j p ej => ?_, fun i j p q k l ei ej => h.inj i j p q k l (AHeap.get_kill ei).2 (AHeap.get_kill ej).2⟩, ⟨List.prefix_refl _, hg.size, hg.os, hg.tape, hg.output, fun b hb hn => ⟨hg.block b hb ?_, fun ⟨j, p, k, ej, r⟩ => hn ⟨j, p, k, (AHeap.get_kill ej).2, r⟩⟩, fun _ _ hn ⟨j, p, k, ej, r⟩ => hn ⟨j, p, k, (AHeap.get_kill ej).2, r⟩⟩⟩
  · obtain ⟨hj, ej⟩ := AHeap.get_kill ej
    obtain ⟨k, hk, r⟩ := h.obj j p ej
    exact ⟨k, hk, r.carry (List.prefix_refl _) (hg.block _ r.lt (by have := ne j p k ej hk hj; simp [this]))⟩
  · intro he
    simp only [Option.some.injEq] at he
    exact hn ⟨id, o, m, e, hro, hm, he.symm⟩
theorem Zh5.mono {M M' : List MEnt} (h : M <+: M') : ∀ {p : Option AV} {u : FrameMode}, Zh5 M p u → Zh5 M' p u
  | none, _, r => r
  | some _, _, ⟨cv, e, r⟩ => ⟨cv, e, r.mono h⟩
theorem Zh5.ne {M : List MEnt} : ∀ {p : Option AV} {u : FrameMode}, Zh5 M p u → u ≠ .run
  | none, _, r => by simp only [Zh5] at r; subst r; simp
  | some _, _, ⟨cv, e, r⟩ => by subst e; simp
theorem Kj (hE : EnvOk E P I) (hs : Sound E P I ih) {f : FuncId} {fn : AFunc} {Fn : Func} (hF : FnOk P f fn Fn) {t : Tr AV} {tmps : Array Value} {M0 : List MEnt} {H0 : AHeap} {w0 : World} {r : CRes} :
    ∀ (ds : List ADf) (p : Option AV) (H : AHeap) (M : List MEnt) (w : World) (cds : List Deferred) (u : FrameMode), Xy E ih fn.results t ds p H = some (.call r) → Ext M0 H0 w0 M H w → St E I M H w → Zai M t tmps → DfRels M ds cds → Zh5 M p u →
      LeavesInM Fence.wide 0 P Fn tmps (X2 M0 H0 w0 r) cds u w := by
  intro ds
  induction ds with
  | nil =>
    intro p H M w cds u h x st ht hd hu
    cases hd
    cases p with
    | none =>
      simp only [Zh5] at hu; subst hu
      simp only [Xy] at h
      split at h
      case h_2 => cases h
      rename_i l hl
      simp only [Option.some.injEq, TRes.call.injEq] at h; subst h
      rw [← hF.res] at hl
      obtain ⟨cv, h1, h2⟩ := W6 hE.tys st.hr ht hl
      exact ⟨cv, h1, _, _, M, rfl, x, st.hr, h2⟩
    | some v =>
      obtain ⟨cv, rfl, hv⟩ := hu
      simp only [Xy, Option.some.injEq, TRes.call.injEq] at h; subst h
      exact ⟨v, H, M, cv, rfl, rfl, x, st.hr, hv⟩
  | cons y ds ihd =>
    intro p H M w cds u h x st ht hd hu
    cases hd with
    | cons hy hds =>
    rename_i d cds
    cases y with
    | mark id =>
      simp only [Xy] at h
      split at h
      case h_2 => cases h
      rename_i hget
      obtain ⟨m, hm, rfl⟩ := hy
      have hblk : w.heap[m.block]? = some (.deferred (some [])) := st.hr.blk hget hm
      obtain ⟨s1, s2⟩ := st.hr.shut hget rfl hm (Zf5 w m.block (.deferred none))
      exact ⟨hu.ne, .inl ⟨m.block, _, rfl, run_takeDeferred hblk, ihd p _ M _ _ u h (x.trans s2) (st.next hE s2 s1) ht hds hu⟩⟩
    | call g args =>
      simp only [Xy] at h
      split at h
      case h_2 => cases h
      rename_i taken H1 hc
      obtain ⟨cap, asz, fs, rfl, rfl, hargs⟩ := hy
      obtain ⟨hrun, hcall⟩ := hs.dcall g args p H taken H1 M w _ u hc st hargs hu
      refine ⟨hu.ne, .inr ⟨fun h => (by cases h), .func g, cap.toArray, g, (asz ++ cap).toArray, rfl, ?_, fun _ _ => trivial, ?_⟩⟩
      · show (callFunc g (asz.toArray ++ cap.toArray)).run P w = _
        have : asz.toArray ++ cap.toArray = (asz ++ cap).toArray := by simp
        rw [this]; exact hrun
      · refine CallsDIn.mono hcall ?_
        intro en u' w' hp
        cases en with
        | panicked ch => exact hp.elim
        | outgrown => exact hp.elim
        | returned cv =>
          obtain ⟨⟨M', x1, x2⟩, hset⟩ := hp
          show LeavesInM Fence.wide 0 P Fn tmps _ cds (settle u') w'
          rw [hset]
          refine ihd _ _ M' w' cds _ h (x.trans x1) (st.next hE x1 x2) (ht.mono x1.pre) (hds.mono x1.pre) ?_
          cases taken with
          | true => rfl
          | false => exact hu.mono x1.pre
theorem Kr {M : List MEnt} {f : FuncId} {fn : AFunc} {Fn : Func} (hF : FnOk P f fn Fn) {args : List AV} {cargs : List Value} (h : Zq M args cargs) :
    FRel none M (Z8 fn args) { tmps := cargs.toArray ++ Array.replicate (Fn.ntmps - cargs.toArray.size) undef, defers := [] } := by
  refine ⟨rfl, by simp [Z8, hF.nt, h.length], fun i v hi => ?_, .nil⟩
  rcases Tr.get_putAll args hi with ⟨j, h1, h2⟩ | ⟨_, h2⟩
  · obtain ⟨cv, h3, h4⟩ := h.get _ _ h2
    have hij : j = i := by rw [h1, Nat.zero_add]
    rw [hij] at h3
    refine ⟨cv, ?_, h4⟩
    have hlt : i < cargs.length := (List.getElem?_eq_some_iff.1 h3).1
    rw [Array.getElem?_append_left (by simpa using hlt)]
    simpa using h3
  · cases h2
theorem Znr {M : List MEnt} {ds : List Deferred} (h : DfRels M [] ds) : ds = [] := by cases h; rfl
theorem Zxv (hE : EnvOk E P I) (hs : Sound E P I ih) {f : FuncId} {args : List AV} {H : AHeap} {r : CRes} {M : List MEnt} {w : World} {cargs : List Value}
    (h : Vq E ih (.call f args H) = some (.call r)) (st : St E I M H w) (ha : Zq M args cargs) : Ku P f cargs M H w r := by
  simp only [Vq] at h
  split at h
  · rename_i fn hfn
    obtain ⟨Fn, hF⟩ := hE.fns f fn hfn
    refine .inr ⟨Jn hF _, callsIn_of_wp_marks hF.at_ hF.body trivial ?_⟩
    have hfr := Kr hF ha
    split at h
    · rename_i fr1 H1 hc
      refine wpIn_mono (Xd hE hs _ _ _ _ _ _ M w _ hc st hfr) ?_
      rintro ex a1 w1 ⟨M1, x1, x2, x3, x4⟩
      simp only [Xr] at x3; subst x3
      exact Kj hE hs hF _ _ _ M1 w1 _ _ h x1 (st.next hE x1 x2) x4.t x4.df rfl
    · rename_i fr1 H1 hc
      refine wpIn_mono (Xd hE hs _ _ _ _ _ _ M w _ hc st hfr) ?_
      rintro ex a1 w1 ⟨M1, x1, x2, x3, x4⟩
      simp only [Xr] at x3; subst x3
      exact Kj hE hs hF _ _ _ M1 w1 _ _ h x1 (st.next hE x1 x2) x4.t x4.df rfl
    · rename_i v fr1 H1 hc
      refine wpIn_mono (Xd hE hs _ _ _ _ _ _ M w _ hc st hfr) ?_
      rintro ex a1 w1 ⟨M1, x1, x2, ⟨cv, rfl, x3⟩, x4⟩
      exact Kj hE hs hF _ _ _ M1 w1 _ _ h x1 (st.next hE x1 x2) x4.t x4.df ⟨cv, rfl, x3⟩
    · cases h
  · rename_i hfn
    split at h
    · rename_i v H' hsm
      simp only [Option.some.injEq, TRes.call.injEq] at h; subst h
      exact hE.sm f args H v H' M w cargs hfn hsm st ha
    · cases h
theorem Zmo {rs : List ResultVar} {taken t' : Bool} {x : Option TRes} {H' : AHeap} (h : Zrd E rs taken x = some (.dcall (.back t' H'))) :
    t' = taken ∧ ∃ e n t rd l, (e = .normal ∨ e = .ret) ∧ x = some (.code e ⟨n, t, [], rd⟩ H') ∧ Xm E t H' rs = some l := by
  unfold Zrd at h
  split at h
  · rename_i n t rd H1
    split at h
    · rename_i l hl
      simp only [Option.some.injEq, TRes.dcall.injEq, DRes.back.injEq] at h
      obtain ⟨rfl, rfl⟩ := h
      exact ⟨rfl, _, n, t, rd, l, .inl rfl, rfl, hl⟩
    · cases h
  · rename_i n t rd H1
    split at h
    · rename_i l hl
      simp only [Option.some.injEq, TRes.dcall.injEq, DRes.back.injEq] at h
      obtain ⟨rfl, rfl⟩ := h
      exact ⟨rfl, _, n, t, rd, l, .inr rfl, rfl, hl⟩
    · cases h
  · cases h
theorem Zle {c : Code} {o : Oper} {rest : Code} (h : Zdi c = some (o, rest)) : ∃ id ops, c = .seq (.region id ops false) rest ∧ ops.toList = [o] ∧ o.guard = none ∧ ∃ k, o.op = .call k ∧ k.callee = .builtin .recover := by
  unfold Zdi at h
  split at h
  case h_2 => cases h
  rename_i id ops rest'
  split at h
  case h_2 => cases h
  rename_i o' ho
  cases hr : isRecover o' with
  | false => simp [hr] at h
  | true =>
    simp only [hr, cond_true, Option.some.injEq, Prod.mk.injEq] at h
    obtain ⟨rfl, rfl⟩ := h
    refine ⟨id, ops, rfl, ho, ?_⟩
    unfold isRecover at hr
    split at hr
    · rename_i k hk
      simp only [Bool.and_eq_true] at hr
      refine ⟨?_, k, hk, ?_⟩
      · have := hr.2
        split at this
        · assumption
        · cases this
      · have := hr.1
        split at this
        · assumption
        · cases this
    · cases hr
theorem Zrw (hE : EnvOk E P I) (hs : Sound E P I ih) {f : FuncId} {args : List AV} {pan : Option AV} {H H' : AHeap} {taken : Bool} {M : List MEnt} {w : World} {cargs : List Value} {u : FrameMode}
    (h : Vq E ih (.dcall f args pan H) = some (.dcall (.back taken H'))) (st : St E I M H w) (ha : Zq M args cargs) (hu : Zh5 M pan u) :
    (callFunc f cargs.toArray).run P w = .ok (.enter f cargs.toArray) w ∧ CallsDIn Fence.wide 0 P f cargs.toArray u w (Zto M H w taken H' u) := by
  simp only [Vq] at h
  split at h
  case h_2 => cases h
  rename_i fn hfn
  obtain ⟨Fn, hF⟩ := hE.fns f fn hfn
  have hfr := Kr hF ha
  refine ⟨Jn hF _, ?_⟩
  split at h
  · rename_i o rest hrec
    obtain ⟨htk, e, n, t, rd, l, he, hc, hl⟩ := Zmo h
    obtain ⟨id, ops, hbody, hops, hg, k, hk, hk2⟩ := Zle hrec
    have hops' : ops = #[o] := by apply Array.ext'; simpa using hops
    subst hops'
    refine callsDIn_of_wpSIn hF.at_ (hF.body.trans (by rw [hbody])) trivial fun c₀ cs hc0 => ?_
    refine wpSIn_seq (wpSIn_region ?_)
    have hrun : ∀ a : Act, (execOp a.eval o).run P w = .ok .recover w := by
      intro a
      unfold execOp
      rw [hk]
      simp [resolve, hk2, invoke, builtin]
    have fin : ∀ (a' : Act) (cs' : List Frame) (cv : Value) (u' : FrameMode), Zj M (Ztt pan) cv → cs' = { c₀ with mode := u' } :: cs → settle u' = (if taken then .returning else u) →
        a' = Act.put { tmps := cargs.toArray ++ Array.replicate (Fn.ntmps - cargs.toArray.size) undef, defers := [] } o.dst cv →
        wpOpsSIn Fence.wide 0 P #[o] (Exit.thenS (rest.wpSIn Fence.wide 0 P (bodyPostS P Fn c₀ cs (Zto M H w taken H' u))) (bodyPostS P Fn c₀ cs (Zto M H w taken H' u))) [] a' cs' w := by
      intro a' cs' cv u' hcv hcs hset ha'
      subst ha'
      refine wpSIn_of_wpIn rfl (wpIn_mono (Xd (ro := none) hE hs _ _ _ _ _ _ M w _ hc st (hfr.put hcv o.dst)) ?_)
      rintro ex a1 w1 ⟨M1, x1, x2, x3, x4⟩
      rw [← hF.res] at hl
      obtain ⟨cv', r1, r2⟩ := W6 hE.tys x2 x4.t hl
      rcases he with rfl | rfl
      · simp only [Xr] at x3; subst x3
        exact ⟨Znr x4.df, u', hcs, cv', r1, ⟨M1, x1, x2⟩, hset⟩
      · simp only [Xr] at x3; subst x3
        exact ⟨Znr x4.df, u', hcs, cv', r1, ⟨M1, x1, x2⟩, hset⟩
    simp only [List.size_toArray, List.length_cons, List.length_nil, Nat.zero_add, List.range_one, wpOpsSIn, List.getElem?_toArray, List.getElem?_cons_zero]
    refine ⟨fun _ _ => trivial, ?_⟩
    have hw : ∀ y, Region.wanted o y = true := by intro y; simp [Region.wanted, hg]
    rw [hw]
    simp only [if_true, hrun]
    cases pan with
    | none =>
      simp only [Zh5] at hu; subst hu
      have : recoverD (c₀ :: cs) = none := by simp [recoverD, hc0]
      rw [this]
      exact fin _ _ .nilIface .returning rfl (by rw [← hc0]) (by subst htk; rfl) rfl
    | some v =>
      obtain ⟨cv, rfl, hv⟩ := hu
      have : recoverD (c₀ :: cs) = some (cv, { c₀ with mode := .panicking [{ v := cv, recovered := true }] } :: cs) := by simp [recoverD, hc0]
      rw [this]
      exact fin _ _ cv _ hv rfl (by subst htk; rfl) rfl
  · obtain ⟨htk, e, n, t, rd, l, he, hc, hl⟩ := Zmo h
    refine CallsDIn.mono (callsDIn_of_wp hF.at_ hF.body trivial (R := fun en w' => ∃ cv M', en = .returned cv ∧ Ext M H w M' H' w' ∧ HRel M' H' w') ?_) ?_
    · refine wpIn_mono (Xd (ro := none) hE hs _ _ _ _ _ _ M w _ hc st hfr) ?_
      rintro ex a1 w1 ⟨M1, x1, x2, x3, x4⟩
      rw [← hF.res] at hl
      obtain ⟨cv', r1, r2⟩ := W6 hE.tys x2 x4.t hl
      rcases he with rfl | rfl
      · simp only [Xr] at x3; subst x3
        exact ⟨Znr x4.df, cv', r1, cv', M1, rfl, x1, x2⟩
      · simp only [Xr] at x3; subst x3
        exact ⟨Znr x4.df, cv', r1, cv', M1, rfl, x1, x2⟩
    · rintro en u' w' ⟨rfl, cv, M', rfl, x1, x2⟩
      refine ⟨⟨M', x1, x2⟩, ?_⟩
      subst htk
      cases pan with
      | none => simp only [Zh5] at hu; subst hu; rfl
      | some v => obtain ⟨cv, rfl, hv⟩ := hu; rfl
theorem Zlk {M : List MEnt} : ∀ (ps : List Nat) (args : List AV) (cargs : List Value) (t t' : Tr AV) (tmps : Array Value), Vz tmps.size ps args t = some t' → Zq M args cargs → Zai M t tmps →
    ps.length = cargs.length ∧ ((ps.zip cargs).foldl (fun (tmps : Array Value) (x : Nat × Value) => tmps.setIfInBounds x.1 x.2) tmps).size = tmps.size ∧ Zai M t' ((ps.zip cargs).foldl (fun (tmps : Array Value) (x : Nat × Value) => tmps.setIfInBounds x.1 x.2) tmps) := by
  intro ps
  induction ps with
  | nil =>
    intro args cargs t t' tmps h ha ht
    cases args with
    | nil =>
      simp only [Vz, Option.some.injEq] at h; subst h
      match cargs, ha with
      | [], _ => exact ⟨rfl, rfl, ht⟩
    | cons a asz => simp [Vz] at h
  | cons p ps ihp =>
    intro args cargs t t' tmps h ha ht
    cases args with
    | nil => simp [Vz] at h
    | cons a asz =>
      match cargs, ha with
      | c :: cs, ⟨h1, h2⟩ =>
        simp only [Vz, Bool.cond_eq_ite, Nat.blt_eq] at h
        split at h
        case isFalse => cases h
        rename_i hp
        have ht' : Zai M (t.set p a) (tmps.setIfInBounds p c) := by
          intro i v hi
          rcases Tr.get_set hi with ⟨rfl, rfl⟩ | ⟨hne, hi⟩
          · exact ⟨c, by simp [hp], h1⟩
          · obtain ⟨cv, hc, hv⟩ := ht i v hi
            exact ⟨cv, by simp only [Array.getElem?_setIfInBounds_ne (Ne.symm hne), hc], hv⟩
        have sz : (tmps.setIfInBounds p c).size = tmps.size := by simp
        rw [← sz] at h
        obtain ⟨k1, k2, k3⟩ := ihp asz cs (t.set p a) t' (tmps.setIfInBounds p c) h h2 ht'
        exact ⟨by simp [k1], by simpa using k2, by simpa using k3⟩
theorem Z2z (ps : Array Nat) (cs : List Value) (tmps : Array Value) :
    (ps.zip cs.toArray).foldl (fun (tmps : Array Value) (x : Nat × Value) => tmps.setIfInBounds x.1 x.2) tmps = (ps.toList.zip cs).foldl (fun (tmps : Array Value) (x : Nat × Value) => tmps.setIfInBounds x.1 x.2) tmps := by
  rw [← Array.foldl_toList, Array.toList_zip]
theorem Zr3 (hE : EnvOk E P I) (hs : Sound E P I ih) {id : Nat} {args : List AV} {H : AHeap} {r : CRes} {M : List MEnt} {w : World} {cargs : List Value} {m : MEnt}
    (h : Vq E ih (.yield id args H) = some (.call r)) (st : St E I M H w) (ha : Zq M args cargs) (hm : M[id]? = some m) :
    ∃ f tmps assign body, (Instr.yield m.block cargs.toArray).run P w = .ok (.round m.block f tmps assign body) w ∧ RoundIn Fence.wide 0 P m.block f tmps assign body w (X2 M H w r) := by
  simp only [Vq] at h
  split at h
  case h_2 => cases h
  rename_i pend n t ps assign body d hget
  split at h
  · cases h
  rename_i t' ht'
  obtain ⟨L, e1, e2, e3, e4, e5, e6, e7, e8, e9⟩ := Qr st.hr hm hget
  subst e7
  obtain ⟨k1, k2, k3⟩ := Zlk ps args cargs t t' L.tmps ht' ha e8
  have hsz : cargs.toArray.size = L.params.size := by rw [show L.params.size = L.params.toList.length from Array.length_toList.symm, e4, k1]; simp
  have hy := run_yield (P := P) (args := cargs.toArray) e1 hsz
  rw [e5, e6] at hy
  refine ⟨_, _, _, _, hy, roundIn_of_wpIn trivial ?_⟩
  rw [show (L.params.zip cargs.toArray).foldl (fun tmps x => match x with | (t, a) => tmps.setIfInBounds t a) L.tmps = (ps.zip cargs).foldl (fun (tmps : Array Value) (x : Nat × Value) => tmps.setIfInBounds x.1 x.2) L.tmps by rw [← e4]; exact Z2z _ _ _]
  split at h
  case h_2 => cases h
  rename_i fr1 H1 hc1
  refine wpIn_mono (F := FF (some m.block)) (Xd (ro := some m.block) hE hs _ _ _ _ _ _ M w _ hc1 st ⟨rfl, k2, k3, .nil⟩) ?_
  rintro ex a1 w1 ⟨M1, x1, x2, x3, x4⟩
  simp only [Xr] at x3; subst x3
  split at h
  case h_2 => cases h
  rename_i pend1 m1 u1 ps1 as1 bo1 d1 hget1
  have hm1 := Yt x1.pre hm
  obtain ⟨L1, f1, f2, f3, _⟩ := Qr x2 hm1 hget1
  obtain ⟨y1, y2⟩ := Zd9 x2 hm1 hget1 f1 (st' := .busy) (pend' := pend1) (cst := .busy) (cp := L1.pending) rfl f3
  refine ⟨_, run_beginRound f1 f2, ?_⟩
  split at h
  case h_2 => cases h
  rename_i e fr2 H2 hc2
  refine wpIn_mono (F := FF (some m.block)) (Xd (ro := some m.block) hE hs _ _ _ _ _ _ M1 _ _ hc2 ((st.next hE x1 x2).next hE y2 y1) x4) ?_
  rintro ex a2 w2 ⟨M2, z1, z2, z3, z4⟩
  split at h
  case h_2 => cases h
  rename_i st2 pend2 m2 u2 ps2 as2 bo2 d2 hget2
  have hm2 := Yt z1.pre hm1
  obtain ⟨L2, g1, g2, g3, _⟩ := Qr z2 hm2 hget2
  have xx := (x1.trans y2).trans z1
  cases e with
  | normal =>
    simp only [Xr] at z3; subst z3
    simp only [Option.some.injEq, TRes.call.injEq] at h; subst h
    obtain ⟨q1, q2⟩ := Zd9 z2 hm2 hget2 g1 (st' := .ready) (pend' := none) (cst := .ready) (cp := none) rfl rfl
    exact ⟨_, _, run_endRound none g1, _, _, M2, rfl, xx.trans q2, q1, rfl⟩
  | ret =>
    simp only [Xr] at z3; subst z3
    simp only [Option.some.injEq, TRes.call.injEq] at h; subst h
    obtain ⟨q1, q2⟩ := Zd9 z2 hm2 hget2 g1 (st' := .done) (pend' := some .ret) (cst := .done) (cp := some .ret) rfl rfl
    exact ⟨_, _, run_endRound (some .ret) g1, _, _, M2, rfl, xx.trans q2, q1, rfl⟩
  | exit i =>
    simp only [Xr] at z3; subst z3
    simp only [Option.some.injEq, TRes.call.injEq] at h; subst h
    obtain ⟨q1, q2⟩ := Zd9 z2 hm2 hget2 g1 (st' := .done) (pend' := some (.exit i)) (cst := .done) (cp := some (.exit i)) rfl rfl
    exact ⟨_, _, run_endRound (some (.exit i)) g1, _, _, M2, rfl, xx.trans q2, q1, rfl⟩
  | panic v => cases h
theorem Zs5 (hE : EnvOk E P I) (hs : Sound E P I ih) : Sound E P I (Vq E ih) where
  loop := by
    intro ro c fr H e fr' H' M w a h st hf
    simp only [Vq, Yu] at h
    refine Zbn ?_
    split at h
    · rename_i fr1 H1 hx
      refine wpIn_mono (Xd hE hs c fr H _ _ _ M w a hx st hf) ?_
      rintro ex a1 w1 ⟨M1, x1, x2, x3, x4⟩
      simp only [Xr] at x3; subst x3
      intro b k cs hro hb hr
      obtain ⟨e2, a2, w2, q, r⟩ := hs.loop ro c fr1 H1 e fr' H' M1 w1 a1 h (st.next hE x1 x2) x4 b k cs hro hb hr
      exact ⟨e2, a2, w2, q.after x1, r⟩
    · rename_i hne
      refine wpIn_mono (Xd hE hs c fr H e fr' H' M w a h st hf) fun ex a1 w1 hp => Zgx (fun he => hne fr' H' (by rw [h, he])) hp
  call := fun _ _ _ _ _ _ _ h st ha => Zxv hE hs h st ha
  dcall := fun _ _ _ _ _ _ _ _ _ _ h st ha hu => Zrw hE hs h st ha hu
  yield := fun _ _ _ _ _ _ _ _ h st ha hm => Zr3 hE hs h st ha hm
theorem Xv (hE : EnvOk E P I) : ∀ n, Sound E P I (run E n)
  | 0 => ⟨fun _ _ _ _ _ _ _ _ _ _ h => (by cases h), fun _ _ _ _ _ _ _ h => (by cases h), fun _ _ _ _ _ _ _ _ _ _ h => (by cases h), fun _ _ _ _ _ _ _ _ h => (by cases h)⟩
  | n + 1 => Zs5 hE (Xv hE n)
theorem Zmv (hE : EnvOk E P I) {n : Nat} {f : FuncId} {args : List AV} {H : AHeap} {r : CRes} (h : run E n (.call f args H) = some (.call r)) {M : List MEnt} {w : World} {cargs : List Value} (st : St E I M H w) (ha : Zq M args cargs) :
    Ku P f cargs M H w r := (Xv hE n).call f args H r M w cargs h st ha
end
end Go.Vai
end
section
namespace Go.Vai
def Ycp (P : Program) (t : Nat) : TypeDesc → AD
  | .int k => .int k
  | .bool => .bool
  | .string => .str
  | .pointer e => .ptr e
  | .slice e => .slice e
  | .array n e => .array n e
  | .struct fs => .struct (fs.toList.map fun f => (f.offset, f.type)) (fs.toList.all (fun f => f.name != "_") && (!(P.stoodInHeld t) && !(P.eqGuardType P.depth t)))
  | .func _ _ _ => .func
  | .interface _ => .iface
  | .unsafePointer => .uptr
  | .map k e => .map k e
  | _ => .other
def Zru (d : TypeDesc) (z : Value) : Bool :=
  bif Zny d then (match z with | .agg _ => true | _ => false) else z.oneCell'
def Zi4 (P : Program) : TypeDesc → Bool
  | .struct fs => fs.toList.all fun f => (P.info? f.type).isSome
  | _ => true
def Yc5 (P : Program) (t : Nat) : Option ATy :=
  match P.info? t, P.underlying t with
  | some i, some d => match i.zero with
    | some z => match Xa z.cells.toList with
      | some zs => bif Nat.beq z.cells.size i.size && (Zru d z && Zi4 P d) then
          some { d := Ycp P t d, size := i.size, bytes := i.bytes, zero := zs, agg := Zny d, cmp := i.comparable } else none
      | none => none
    | none => none
  | _, _ => none
def Z20 (n : Nat) : List Nat → Bool
  | [] => false
  | x :: xs => Nat.beq n x || Z20 n xs
def Ygc (P : Program) (skip : List Nat) (f : Nat) : Option AFunc :=
  match P.funcs[f]? with
  | some fn => match fn.body with
    | some c => bif Z20 f skip then none else some { ntmps := fn.ntmps, body := c, results := fn.results.toList }
    | none => none
  | none => none
def Ke (skip : List Nat) : List Func → Nat → Bool
  | [], _ => true
  | fn :: fs, i => (Z20 i skip || !(fn.name == "runtime.NumGoroutine")) && Ke skip fs (i + 1)
def V3 (P : Program) (ng : Nat) (skip : List Nat) (sm : Nat → List AV → AHeap → Option (AV × AHeap)) : Env := { ng, ra := fun e u n off k => liesAt P P.depth e (n / P.cellsOf e) off u k, ty := Yc5 P, fn := Ygc P skip, sm }
theorem Zze (P : Program) (t : Nat) (d : TypeDesc) : Xj P t (Ycp P t d) d := by
  cases d <;> simp only [Ycp, Xj]
  case struct fs =>
    refine ⟨fs, rfl, rfl, fun h => ?_⟩
    simp only [Bool.and_eq_true, Bool.not_eq_true', List.all_eq_true, bne_iff_ne, ne_eq] at h
    exact ⟨h.1, h.2.1, h.2.2⟩
  all_goals first | exact ⟨_, _, _, rfl⟩ | exact ⟨_, rfl⟩ | (intro ms h; cases h)
theorem Zpu (P : Program) (ng : Nat) (skip : List Nat) (sm : Nat → List AV → AHeap → Option (AV × AHeap)) : TysOk (V3 P ng skip sm) P := by
  have main : ∀ t ti, Yc5 P t = some ti → ∃ i d z, TyOk P t ti i d z ∧ Zi4 P d = true := by
    intro t ti h
    unfold Yc5 at h
    split at h
    case h_2 => cases h
    rename_i i d hi hd
    split at h
    case h_2 => cases h
    rename_i z hz
    split at h
    case h_2 => cases h
    rename_i zs hzs
    simp only [Bool.cond_eq_ite, Bool.and_eq_true, Nat.beq_eq] at h
    split at h
    case isFalse => cases h
    rename_i hc
    simp only [Option.some.injEq] at h
    subst h
    refine ⟨i, d, z, ⟨hi, hd, Zze P t d, rfl, rfl, hz, Zal [] _ _ hzs, hc.1, rfl, fun ha => ?_, fun ha => ?_, fun h => h⟩, hc.2.2⟩
    · have := hc.2.1
      simp only [Zru] at this
      simp only at ha
      rw [ha] at this
      simp only [cond_true] at this
      cases z <;> simp_all
    · have := hc.2.1
      simp only [Zru] at this
      simp only at ha
      rw [ha] at this
      simpa using this
  refine ⟨fun e u n off k h => h, fun t ti h => ?_, fun t ti F h hu f hf => ?_⟩
  · obtain ⟨i, d, z, r, _⟩ := main t ti h
    exact ⟨i, d, z, r⟩
  · obtain ⟨i, d, z, r, fo⟩ := main t ti h
    rw [r.und] at hu
    cases hu
    simp only [Zi4, List.all_eq_true] at fo
    exact Option.isSome_iff_exists.1 (fo f hf)
theorem Zss {skip : List Nat} : ∀ (fs : List Func) (i : Nat), Ke skip fs i = true → ∀ (k : Nat) (fn : Func), fs[k]? = some fn → Z20 (i + k) skip = false → (fn.name == "runtime.NumGoroutine") = false := by
  intro fs
  induction fs with
  | nil => intro i _ k fn h; simp at h
  | cons g fs ih =>
    intro i h k fn hk hm
    simp only [Ke, Bool.and_eq_true, Bool.or_eq_true, Bool.not_eq_true'] at h
    cases k with
    | zero =>
      simp at hk; subst hk
      rcases h.1 with h1 | h1
      · rw [Nat.add_zero] at hm; rw [hm] at h1; cases h1
      · exact h1
    | succ k => exact ih (i + 1) h.2 k fn (by simpa using hk) (by rw [← hm]; congr 1; omega)
theorem Zo2 {P : Program} {ng : Nat} {skip : List Nat} {sm : Nat → List AV → AHeap → Option (AV × AHeap)} (hN : Ke skip P.funcs.toList 0 = true) : ∀ f fn, (V3 P ng skip sm).fn f = some fn → ∃ Fn, FnOk P f fn Fn := by
  intro f fn h
  simp only [V3, Ygc] at h
  split at h
  case h_2 => cases h
  rename_i Fn hF
  split at h
  case h_2 => cases h
  rename_i c hc
  cases hm : Z20 f skip with
  | true => simp [hm] at h
  | false =>
    simp only [hm, cond_false, Option.some.injEq] at h
    subst h
    exact ⟨Fn, hF, hc, rfl, rfl, Zss _ 0 hN f Fn (by simpa using hF) (by simpa using hm)⟩
def Wq : Nat → Nat → List MEnt
  | 0, _ => []
  | n + 1, i => ⟨i, 0, 0, 0⟩ :: Wq n (i + 1)
theorem Vy : ∀ (n i : Nat), (Wq n i).length = n
  | 0, _ => rfl
  | n + 1, i => by simp [Wq, Vy n (i + 1)]
theorem Ko : ∀ (n i g : Nat), g < n → (Wq n i)[g]? = some ⟨i + g, 0, 0, 0⟩
  | 0, _, _, h => by omega
  | n + 1, i, 0, _ => by simp [Wq]
  | n + 1, i, g + 1, h => by
    simp only [Wq, List.getElem?_cons_succ]
    rw [Ko n (i + 1) g (by omega)]
    congr 2; omega
def bare (ng : Nat) : AHeap := { objs := .nil, next := ng }
theorem Zbu (E : Env) : Zh7 E (Wq E.ng 0) := fun g hg => ⟨_, Ko E.ng 0 g hg, by simp, rfl⟩
def TRes.isB (b : Bool) : Option TRes → Bool
  | some (.call (.ret (.bool c) _)) => b == c
  | _ => false
theorem TRes.isB_some {b : Bool} {r : Option TRes} (h : TRes.isB b r = true) : ∃ H, r = some (.call (.ret (.bool b) H)) := by
  unfold TRes.isB at h
  split at h
  · simp only [beq_iff_eq] at h; subst h; exact ⟨_, rfl⟩
  · cases h
structure Keeps (w w' : World) : Prop where
  size : w.heap.size ≤ w'.heap.size
  os : w'.os = w.os
  tape : w'.tape = w.tape
  output : w'.output = w.output
  old : ∀ b, b < w.heap.size → w'.heap[b]? = w.heap[b]?
theorem Ext.keeps {ng : Nat} {w w' : World} {M' : List MEnt} {H' : AHeap} (h : Ext (Wq ng 0) (bare ng) w M' H' w') : Keeps w w' :=
  ⟨h.size, h.os, h.tape, h.output, fun b hb => (h.old b hb (fun ⟨id, o, m, e, _⟩ => (by cases e))).1⟩
end Go.Vai
end
section
namespace Go.Vai
def Zf7 (c : Nat) : List UInt8 → Nat → Int
  | [], _ => .negSucc 0
  | a :: l, k => bif Nat.beq a.toNat c then .ofNat k else Zf7 c l (k + 1)
def Zwf (c : Nat) : List UInt8 → Nat → Nat
  | [], n => n
  | a :: l, n => bif Nat.beq a.toNat c then Zwf c l (n + 1) else Zwf c l n
theorem Yf2 (a : UInt8) {c : Nat} (h : c < 256) : Nat.beq a.toNat c = (a == c.toUInt8) := by
  rw [Bool.eq_iff_iff, Nat.beq_eq, beq_iff_eq]
  have e : c.toUInt8.toNat = c := by simp; omega
  constructor
  · intro h1; apply UInt8.toNat_inj.1; omega
  · intro h1; rw [h1, e]
theorem Z52 {c : Nat} (h : c < 256) : ∀ (l : List UInt8) (k : Nat), Zf7 c l k = if Lib.indexByte l c.toUInt8 = -1 then -1 else Lib.indexByte l c.toUInt8 + k := by
  intro l
  induction l with
  | nil => intro k; simp [Zf7, Lib.indexByte]
  | cons a l ih =>
    intro k
    simp only [Zf7, Lib.indexByte, Yf2 a h]
    by_cases hb : (a == c.toUInt8) = true
    · simp [hb]
    · have hb : (a == c.toUInt8) = false := by simpa using hb
      simp only [hb, cond_false, Bool.false_eq_true, if_false, ih]
      have := Lib.indexByte_ge l c.toUInt8
      by_cases h1 : Lib.indexByte l c.toUInt8 = -1
      · simp [h1]
      · have h2 : (Lib.indexByte l c.toUInt8 == -1) = false := by simpa using h1
        simp only [h1, h2, if_false, Bool.false_eq_true]
        rw [if_neg (by omega)]
        omega
theorem Zl4 {c : Nat} (h : c < 256) (l : List UInt8) : Zf7 c l 0 = Lib.indexByte l c.toUInt8 := by
  rw [Z52 h]
  split
  · rename_i h; rw [h]
  · simp
theorem Z57 {c : Nat} (h : c < 256) : ∀ (l : List UInt8) (n : Nat), Zwf c l n = n + Lib.countByte l c.toUInt8 := by
  intro l
  induction l with
  | nil => intro n; simp [Zwf, Lib.countByte]
  | cons a l ih =>
    intro n
    simp only [Zwf, Yf2 a h, Lib.countByte, List.count_cons]
    cases hb : (a == c.toUInt8)
    · simp [ih, Lib.countByte]
    · simp only [cond_true, ih, Lib.countByte, if_true]; omega
def Ztq : Nat → String
  | 1 => "internal/bytealg.IndexByteString"
  | 2 => "internal/bytealg.CountString"
  | 3 => "internal/abi.NoEscape"
  | 4 => "internal/bytealg.MakeNoZero"
  | 5 => "internal/bytealg.IndexByte"
  | _ => ""
noncomputable def Z4e (k e : Nat) (args : List AV) (H : AHeap) : Option (AV × AHeap) :=
  match k, args with
  | 1, [.str s, .int .u8 c] => match Qg (.int .u8 c) 255 with
    | some n => some (.int .i64 (Zf7 n s 0), H)
    | none => none
  | 2, [.str s, .int .u8 c] => match Qg (.int .u8 c) 255 with
    | some n => some (.int .i64 (.ofNat (Zwf n s 0)), H)
    | none => none
  | 3, [x] => some (x, H)
  | 4, [.int .i64 n] => match Qg (.int .i64 n) 281474976710656 with
    | some n => some (.sl H.next 0 n none, H.new (.cells n .nil e (some 1) 0 false false))
    | none => none
  | 5, [.sl id off len cap, .int .u8 c] => match Qg (.int .u8 c) 255, (Y5 H 1 len (.sl id off len cap)).bind Qn with
    | some n, some s => some (.int .i64 (Zf7 n s 0), H)
    | _, _ => none
  | 5, [.nils, .int .u8 c] => match Qg (.int .u8 c) 255 with
    | some _ => some (.int .i64 (.negSucc 0), H)
    | none => none
  | _, _ => none
noncomputable def Zh4 : List (Nat × Nat × Nat) → Nat → Option (Nat × Nat)
  | [], _ => none
  | (f, k, e) :: r, g => bif Nat.beq f g then some (k, e) else Zh4 r g
def Zy1 (P : Program) (x : Nat × Nat × Nat) : Bool :=
  match P.funcs[x.1]? with
  | some fn => (fn.body.isNone && (decide (fn.name = Ztq x.2.1) && (Extern.findNext fn).isNone)) &&
      (bif Nat.beq x.2.1 4 then (match fn.resultTypes.toList with
        | [t] => (match P.underlying t with | some (.slice e) => Nat.beq e x.2.2 | _ => false)
        | _ => false) else true)
  | none => false
def Zmi (P : Program) (l : List (Nat × Nat × Nat)) : Bool := l.all (Zy1 P)
theorem Zx8 : ∀ {l : List (Nat × Nat × Nat)} {g : Nat} {r : Nat × Nat}, Zh4 l g = some r → (g, r) ∈ l := by
  intro l
  induction l with
  | nil => intro g r h; cases h
  | cons x l ih =>
    intro g r h
    obtain ⟨f, k, e⟩ := x
    simp only [Zh4, Bool.cond_eq_ite, Nat.beq_eq] at h
    split at h
    · rename_i hf
      simp only [Option.some.injEq] at h; subst h; subst hf
      exact List.mem_cons_self
    · exact List.mem_cons_of_mem _ (ih h)
theorem Yf1 {fn : Func} (h : fn.name = "internal/bytealg.IndexByteString") : Extern.find fn = some Extern.BytealgIndexByte.indexByte := by
  have a : Extern.allGenericRows.lookup "internal/bytealg.IndexByteString" = none := by kernel_rfl
  have b : Extern.allTypedRows.lookup "internal/bytealg.IndexByteString" = none := by kernel_rfl
  have c : Extern.allRows.lookup "internal/bytealg.IndexByteString" = some Extern.BytealgIndexByte.indexByte := by kernel_rfl
  simp [Extern.find, h, a, b, c]
theorem Yhe {fn : Func} (h : fn.name = "internal/bytealg.CountString") : Extern.find fn = some Extern.BytealgCount.count := by
  have a : Extern.allGenericRows.lookup "internal/bytealg.CountString" = none := by kernel_rfl
  have b : Extern.allTypedRows.lookup "internal/bytealg.CountString" = none := by kernel_rfl
  have c : Extern.allRows.lookup "internal/bytealg.CountString" = some Extern.BytealgCount.count := by kernel_rfl
  simp [Extern.find, h, a, b, c]
theorem Yg4 {fn : Func} (h : fn.name = "internal/abi.NoEscape") : Extern.find fn = some Extern.AbiNoEscape.same := by
  have a : Extern.allGenericRows.lookup "internal/abi.NoEscape" = none := by kernel_rfl
  have b : Extern.allTypedRows.lookup "internal/abi.NoEscape" = none := by kernel_rfl
  have c : Extern.allRows.lookup "internal/abi.NoEscape" = some Extern.AbiNoEscape.same := by kernel_rfl
  simp [Extern.find, h, a, b, c]
theorem Ygk {fn : Func} (h : fn.name = "internal/bytealg.MakeNoZero") : Extern.find fn = some (Extern.BytealgMakeNoZero.makeNoZero fn.params fn.resultTypes) := by
  have a : Extern.allGenericRows.lookup "internal/bytealg.MakeNoZero" = none := by kernel_rfl
  have b : Extern.allTypedRows.lookup "internal/bytealg.MakeNoZero" = some Extern.BytealgMakeNoZero.makeNoZero := by kernel_rfl
  simp [Extern.find, h, a, b]
theorem Ya1 {fn : Func} (h : fn.name = "internal/bytealg.IndexByte") : Extern.find fn = some Extern.BytealgIndexByte.indexByte := by
  have a : Extern.allGenericRows.lookup "internal/bytealg.IndexByte" = none := by kernel_rfl
  have b : Extern.allTypedRows.lookup "internal/bytealg.IndexByte" = none := by kernel_rfl
  have c : Extern.allRows.lookup "internal/bytealg.IndexByte" = some Extern.BytealgIndexByte.indexByte := by kernel_rfl
  simp [Extern.find, h, a, b, c]
theorem Zbm {k : IntKind} {i : Int} {top n : Nat} (h : Qg (.int k i) top = some n) : i = n ∧ n ≤ top := by
  unfold Qg at h
  simp only [Bool.cond_eq_ite, Wj, decide_eq_true_eq, Nat.ble_eq] at h
  split at h
  · cases h
  · split at h
    · simp only [Option.some.injEq] at h; omega
    · cases h
theorem Zge (w : World) (o : Obj) : w.grownBy (w.drew.drew.alloc o) none := by
  refine ⟨rfl, rfl, rfl, ?_, fun k hk _ => ?_⟩
  · show w.heap.size ≤ (w.heap.push o).size
    simp
  · show (w.heap.push o)[k]? = _
    simp [Array.getElem?_push, Nat.ne_of_lt hk]
theorem Zp3 {M : List MEnt} {H : AHeap} {w : World} (hr : HRel M H w) {id off len : Nat} {cap : Option Nat} {cs : List AV} {s : List UInt8} {m : MEnt} (hm : M[id]? = some m) (h : Y5 H 1 len (.sl id off len cap) = some cs) (hs : Qn cs = some s) :
    ∃ ns : List Int, ns.length = len ∧ s = Lib.bytesOf ns ∧ ∀ i, i < len → w.cell? ⟨m.block, m.base + off + i, none⟩ = some (.int .u8 (ns.getD i 0)) := by
  simp only [Y5] at h
  split at h
  case h_2 => cases h
  rename_i n c e g fz ro mk hget
  rw [Nat.mul_one] at h
  obtain ⟨hlen, hget'⟩ := Tr.getAll_spec _ h
  obtain ⟨cur, e', lo, hi, g1, g2, g3, g4, g5, g6, g7⟩ := hr.blk hget hm
  have hrel : Zq M cs ((List.range len).map fun j => (cur[m.base + (off + j)]?).getD undef) := by
    refine Zq.of (by simp [hlen]) fun j a v ha hv => ?_
    have hj : j < len := by rw [← hlen]; exact (List.getElem?_eq_some_iff.1 ha).1
    obtain ⟨_, cv, h1, h2⟩ := g7 (off + j) a (by rw [hget' j hj]; exact ha)
    have : v = cv := by
      rw [List.getElem?_map, List.getElem?_range hj] at hv
      simp only [Option.map_some, h1, Option.getD_some, Option.some.injEq] at hv
      exact hv.symm
    rw [this]; exact h2
  obtain ⟨ns, e1, e2⟩ := Ze6 hs hrel
  have hnl : ns.length = len := by
    have := congrArg List.length e1
    simpa using this.symm
  refine ⟨ns, hnl, e2, fun i hi => ?_⟩
  have h1 : (List.map (Value.int .u8) ns)[i]? = some ((cur[m.base + (off + i)]?).getD undef) := by
    rw [← e1, List.getElem?_map, List.getElem?_range hi]; rfl
  obtain ⟨x, hx⟩ : ∃ x, ns[i]? = some x := ⟨ns[i]'(by omega), List.getElem?_eq_getElem _⟩
  rw [List.getElem?_map, hx] at h1
  simp only [Option.map_some, Option.some.injEq] at h1
  obtain ⟨_, cv, h2, _⟩ := g7 (off + i) (cs[i]'(by omega)) (by rw [hget' i hi]; exact List.getElem?_eq_getElem _)
  rw [h2, Option.getD_some] at h1
  simp only [World.cell?, g1]
  rw [show m.base + off + i = m.base + (off + i) by omega]
  simp [h2, ← h1, hx, List.getD_eq_getElem?_getD]
theorem Zma {P : Program} {l : List (Nat × Nat × Nat)} (hl : Zmi P l = true) {f k e : Nat} (hf : Zh4 l f = some (k, e)) {args : List AV} {H : AHeap} {v : AV} {H' : AHeap} {M : List MEnt} {w : World} {cargs : List Value}
    (h : Z4e k e args H = some (v, H')) (hr : HRel M H w) (ha : Zq M args cargs) : Ku P f cargs M H w (.ret v H') := by
  have hm := List.all_eq_true.1 hl _ (Zx8 hf)
  unfold Zy1 at hm
  split at hm
  case h_2 => cases hm
  rename_i fn hfn
  simp only [Bool.and_eq_true, decide_eq_true_eq] at hm
  obtain ⟨⟨hb, hn, hx⟩, ht⟩ := hm
  have hx' : Extern.findNext fn = none := by simpa using hx
  have nn : (fn.name == "runtime.NumGoroutine") = false := by
    rw [hn]
    have : k ≤ 5 := by
      unfold Z4e at h
      split at h <;> first | omega | cases h
    match k, this with
    | 0, _ | 1, _ | 2, _ | 3, _ | 4, _ | 5, _ => simp [Ztq]
  have go : ∀ (en : Array Value → Sem Value) (cv : Value) (w' : World) (M' : List MEnt), Extern.find fn = some en → (en cargs.toArray).run P w = .ok cv w' → Ext M H w M' H' w' → HRel M' H' w' → Zj M' v cv → Ku P f cargs M H w (.ret v H') := by
    intro en cv w' M' hen hrun x1 x2 x3
    refine .inl ⟨cv, w', ?_, v, H', M', rfl, x1, x2, x3⟩
    rw [run_callFunc_extern hfn nn hb hx' hen, hrun]
    rfl
  unfold Z4e at h
  split at h
  · rename_i s c
    split at h
    case h_2 => cases h
    rename_i n hbn
    obtain ⟨rfl, hn5⟩ := Zbm hbn
    simp only [Option.some.injEq, Prod.mk.injEq] at h
    obtain ⟨rfl, rfl⟩ := h
    match cargs, ha with
    | [c1, c2], ⟨h1, h2, _⟩ =>
      simp only [Zj] at h1 h2
      subst h1; subst h2
      refine go _ _ w M (Yf1 hn) (Lib.run_indexByteString ⟨⟨s⟩⟩ _ w) (Ext.refl _ _ _) hr ?_
      simp only [Zj, Int.toNat_natCast]
      rw [Zl4 (by omega)]
  · rename_i s c
    split at h
    case h_2 => cases h
    rename_i n hbn
    obtain ⟨rfl, hn5⟩ := Zbm hbn
    simp only [Option.some.injEq, Prod.mk.injEq] at h
    obtain ⟨rfl, rfl⟩ := h
    match cargs, ha with
    | [c1, c2], ⟨h1, h2, _⟩ =>
      simp only [Zj] at h1 h2
      subst h1; subst h2
      refine go _ _ w M (Yhe hn) (Lib.run_countString ⟨⟨s⟩⟩ _ w) (Ext.refl _ _ _) hr ?_
      simp only [Zj, Int.toNat_natCast]
      rw [Z57 (by omega), Nat.zero_add]
      rfl
  · rename_i x
    simp only [Option.some.injEq, Prod.mk.injEq] at h
    obtain ⟨rfl, rfl⟩ := h
    match cargs, ha with
    | [c1], ⟨h1, _⟩ => exact go _ c1 w M (Yg4 hn) rfl (Ext.refl _ _ _) hr h1
  · rename_i n
    split at h
    case h_2 => cases h
    rename_i m hbn
    obtain ⟨rfl, hn5⟩ := Zbm hbn
    simp only [Option.some.injEq, Prod.mk.injEq] at h
    obtain ⟨rfl, rfl⟩ := h
    match cargs, ha with
    | [c1], ⟨h1, _⟩ =>
      simp only [Zj] at h1
      subst h1
      simp only [show Nat.beq 4 4 = true from rfl, cond_true] at ht
      split at ht
      case h_2 => cases ht
      rename_i t hrt
      have hrt : fn.resultTypes = #[t] := by apply Array.ext'; rw [hrt]
      split at ht
      case h_2 => cases ht
      rename_i e' hu
      simp only [Nat.beq_eq] at ht; subst ht
      obtain ⟨cs, hrun, hsz, _⟩ := Lib.run_makeNoZero w fn.params t e' hu m hn5
      obtain ⟨n1, n2⟩ := hr.new (Zge w (.cells cs e')) (.cells m .nil e' (some 1) 0 false false) ⟨w.heap.size, 0, cs.size, 1⟩ (Nat.le_refl _)
        ⟨cs, e', 0, 0, by show (w.heap.push _)[w.heap.size]? = _; simp, fun _ => ⟨rfl, rfl⟩, by simpa using hsz, fun gs eg => ⟨by cases eg; rfl, rfl, rfl⟩, fun _ i a b c => by omega, fun _ _ => ⟨Nat.zero_le _, Nat.le_refl _⟩, fun i v hv => by simp [Tr.get_nil] at hv⟩
      refine go _ _ _ _ (Ygk hn) (by rw [hrt]; exact hrun) n2 n1 ⟨_, cs.size, newAt hr _, rfl, (fun _ e => by cases e), fun _ => ⟨hsz, by simp, Nat.one_pos⟩⟩
  · rename_i id off len cap c
    split at h
    case h_2 => cases h
    rename_i n s hbn hsc
    obtain ⟨rfl, hn5⟩ := Zbm hbn
    simp only [Option.some.injEq, Prod.mk.injEq] at h
    obtain ⟨rfl, rfl⟩ := h
    match cargs, ha with
    | [c1, c2], ⟨h1, h2, _⟩ =>
      simp only [Zj] at h2
      subst h2
      obtain ⟨m, cc, hmm, rfl, _, _⟩ := h1
      cases hcs : Y5 H 1 len (.sl id off len cap) with
      | none => rw [hcs] at hsc; cases hsc
      | some cs =>
        rw [hcs] at hsc
        simp only [Option.bind_some] at hsc
        obtain ⟨ns, q1, q2, q3⟩ := Zp3 hr hmm hcs hsc
        subst q2
        refine go _ _ w M (Ya1 hn) (Lib.run_indexByteSlice w m.block (m.base + off) len cc ns q1 q3 _) (Ext.refl _ _ _) hr ?_
        simp only [Zj, Int.toNat_natCast]
        rw [Zl4 (by omega)]
  · rename_i c
    split at h
    case h_2 => cases h
    rename_i n hbn
    obtain ⟨rfl, hn5⟩ := Zbm hbn
    simp only [Option.some.injEq, Prod.mk.injEq] at h
    obtain ⟨rfl, rfl⟩ := h
    match cargs, ha with
    | [c1, c2], ⟨h1, h2, _⟩ =>
      simp only [Zj] at h1 h2
      subst h1; subst h2
      refine go _ (.int .i64 (-1)) w M (Ya1 hn) ?_ (Ext.refl _ _ _) hr (by simp [Zj])
      change Sem.run P (do
        let b ← Extern.Bytes.bytesOf (.slice none 0 0)
        let c' ← Extern.Bytes.asByte (.int .u8 (n : Int))
        match (List.range b.size).find? fun i => b[i]! == c' with
        | some i => pure (goInt i)
        | none => pure (goInt (-1))) w = _
      simp [Extern.Bytes.bytesOf, Extern.Bytes.asByte, goInt]
  · cases h
end Go.Vai
end
section
namespace Go.Vai
def Zul : List (Nat × Bool) → Nat → Option Bool
  | [], _ => none
  | (f, b) :: r, g => bif Nat.beq f g then some b else Zul r g
theorem Zwz : ∀ {l : List (Nat × Bool)} {g : Nat} {b : Bool}, Zul l g = some b → (g, b) ∈ l := by
  intro l
  induction l with
  | nil => intro g r h; cases h
  | cons x l ih =>
    intro g r h
    obtain ⟨f, b⟩ := x
    simp only [Zul, Bool.cond_eq_ite, Nat.beq_eq] at h
    split at h
    · rename_i hf
      simp only [Option.some.injEq] at h; subst h; subst hf
      exact List.mem_cons_self
    · exact List.mem_cons_of_mem _ (ih h)
noncomputable def Zr7 (kinds : List (Nat × Nat × Nat)) (rets : List (Nat × Bool)) : Nat → List AV → AHeap → Option (AV × AHeap) := fun f args H =>
  match Zh4 kinds f with
  | some (k, e) => Z4e k e args H
  | none => match args, Zul rets f with
    | [], some b => some (.bool b, H)
    | _, _ => none
noncomputable def Xf (ng : Nat) : List (Nat × List AV) → AHeap
  | [] => bare ng
  | (g, av) :: r => (Xf ng r).put g (.cells av.length (Tr.nil.putAll 0 av) 0 none 0 true false)
theorem Zj5 (ng : Nat) : ∀ l, (Xf ng l).next = ng
  | [] => rfl
  | (_, _) :: r => Zj5 ng r
theorem J3 (ng : Nat) : ∀ l id o, (Xf ng l).get id = some o → o.isRo = true
  | [], _, _, h => by cases h
  | (_, _) :: r, id, o, h => by
    rcases AHeap.get_put h with ⟨_, rfl⟩ | ⟨_, h⟩
    · rfl
    · exact J3 ng r id o h
theorem Zbx {w : World} {ng : Nat} : ∀ {l : List (Nat × List AV)} {M : List MEnt}, M.length = ng → (∀ g av, (g, av) ∈ l → g < ng ∧ M[g]? = some ⟨g, 0, 0, 0⟩ ∧ ∃ cs e lo hi, w.heap[g]? = some (.cells cs e (lo, hi)) ∧ Zq [] av cs.toList) → HRel M (Xf ng l) w
  | [], M, hl, _ => ⟨hl, fun id o h => (by cases h), fun i j o p m k h => (by cases h)⟩
  | (g, av) :: r, M, hl, h => by
    have ih := Zbx (l := r) hl fun g av hm => h g av (List.mem_cons_of_mem _ hm)
    obtain ⟨hg, hM, cs, e, lo, hi, hc, hv⟩ := h g av List.mem_cons_self
    refine ⟨ih.len, fun id o ho => ?_, fun i j o p m k hi hj _ _ _ _ => ⟨J3 ng _ i o hi, J3 ng _ j p hj⟩⟩
    rcases AHeap.get_put ho with ⟨rfl, rfl⟩ | ⟨_, ho⟩
    · refine ⟨_, hM, cs, e, lo, hi, hc, (fun e => by cases e), by have := hv.length; simp at this ⊢; omega, (fun gs e => by cases e), (fun e => by cases e), (fun e => by cases e), fun i v hv' => ?_⟩
      rcases Tr.get_putAll _ hv' with ⟨q, rfl, hq⟩ | ⟨_, hu⟩
      · obtain ⟨x, hx, rr⟩ := hv.get q v hq
        exact ⟨by simpa using (List.getElem?_eq_some_iff.1 hq).1, x, by simpa using hx, rr.mono (List.nil_prefix)⟩
      · simp [Tr.get_nil] at hu
    · exact ih.obj id o ho
def Yf (gl : List (Nat × List AV)) (w : World) : Prop := ∀ g av, (g, av) ∈ gl → ∃ cs e lo hi, w.heap[g]? = some (.cells cs e (lo, hi)) ∧ Zq [] av cs.toList
theorem Yf.ext {gl : List (Nat × List AV)} {w0 w : World} (h : Yf gl w0) {M0 M : List MEnt} {n : Nat} {H : AHeap} (x : Ext M0 (Xf n gl) w0 M H w) : Yf gl w := fun g av hm => by
  obtain ⟨cs, e, lo, hi, h1, h2⟩ := h g av hm
  have hlt : g < w0.heap.size := (Array.getElem?_eq_some_iff.1 h1).1
  exact ⟨cs, e, lo, hi, by rw [(x.old g hlt (fun ⟨id, o, m, e, r, _⟩ => by rw [J3 n gl id o e] at r; cases r)).1]; exact h1, h2⟩
def Znd (P : Program) (gl : List (Nat × List AV)) (rets : List (Nat × Bool)) : Prop := ∀ f b, (f, b) ∈ rets → ∀ w, Yf gl w → (callFunc f #[]).run P w = .ok (.enter f #[]) w ∧ Calls P f #[] w fun e w' => e = .returned (.bool b) ∧ Keeps w w'
theorem Keeps.ext {w w' : World} (k : Keeps w w') {M : List MEnt} {H : AHeap} (hr : HRel M H w) : Ext M H w M H w' ∧ HRel M H w' :=
  ⟨⟨List.prefix_refl _, k.size, k.os, k.tape, k.output, fun b hb hn => ⟨k.old b hb, hn⟩, fun _ _ h => h⟩,
   ⟨hr.len, fun id o e => by
      obtain ⟨m, hm, r⟩ := hr.obj id o e
      exact ⟨m, hm, r.carry (List.prefix_refl _) (k.old _ r.lt)⟩, hr.inj⟩⟩
theorem Z1s {P : Program} {ng : Nat} {skip : List Nat} {kinds : List (Nat × Nat × Nat)} {gl : List (Nat × List AV)} {rets : List (Nat × Bool)} {I : List MEnt → AHeap → World → Prop} (hN : Ke skip P.funcs.toList 0 = true) (hK : Zmi P kinds = true) (hR : Znd P gl rets) (hM : P.follows .mixedOrders = true)
    (hX : ∀ M H w, I M H w → Yf gl w) (hI : ∀ M H w M' H' w', I M H w → Ext M H w M' H' w' → I M' H' w') : EnvOk (V3 P ng skip (Zr7 kinds rets)) P I where
  tys := Zpu P ng skip _
  fns := Zo2 hN
  carry := hI
  mixed := hM
  sm := by
    intro f args H v H' M w cargs _ h st ha
    simp only [V3, Zr7] at h
    split at h
    · rename_i k e hk
      exact Zma hK hk h st.hr ha
    · split at h
      · rename_i b hb
        simp only [Option.some.injEq, Prod.mk.injEq] at h
        obtain ⟨rfl, rfl⟩ := h
        obtain ⟨h1, h2⟩ := hR _ _ (Zwz hb) w (hX _ _ _ st.i)
        match cargs, ha with
        | [], _ =>
          refine .inr ⟨h1, callsIn_wide.2 (h2.mono fun e w' ⟨he, hk⟩ => ?_)⟩
          subst he
          obtain ⟨x1, x2⟩ := hk.ext st.hr
          exact ⟨_, _, M, rfl, x1, x2, rfl⟩
      · cases h
theorem Zvq {P : Program} {E : Env} {M0 : List MEnt} {H0 : AHeap} {w : World} (hE : EnvOk E P (fun M H w' => Ext M0 H0 w M H w')) (hr : HRel M0 H0 w) (hg : Zh7 E M0) (hro : ∀ id o, H0.get id = some o → o.isRo = true)
    {n : Nat} {f : FuncId} {args : List AV} {cargs : List Value} (ha : Zq M0 args cargs) {b : Bool} (hf : (E.fn f).isSome = true) (h : TRes.isB b (run E n (.call f args H0)) = true) :
    (callFunc f cargs.toArray).run P w = .ok (.enter f cargs.toArray) w ∧ Calls P f cargs.toArray w fun e w' => e = .returned (.bool b) ∧ Keeps w w' := by
  obtain ⟨H', hrun⟩ := TRes.isB_some h
  obtain ⟨fn, hfn⟩ := Option.isSome_iff_exists.1 hf
  have st : St E (fun M H w' => Ext M0 H0 w M H w') M0 H0 w := ⟨hr, hg, Ext.refl _ _ _⟩
  have := Za3 hE hfn (Zmv hE hrun st ha)
  refine ⟨this.1, Calls.mono (callsIn_wide.1 this.2) ?_⟩
  intro e w' hp
  cases e with
  | outgrown => exact hp.elim
  | panicked ch => obtain ⟨_, _, _, _, e, _⟩ := hp; cases e
  | returned cv =>
    obtain ⟨v, H2, M', e, x1, x2, x3⟩ := hp
    cases e
    simp only [Zj] at x3; subst x3
    exact ⟨rfl, x1.size, x1.os, x1.tape, x1.output, fun k hk => (x1.old k hk (fun ⟨id, o, m, e, r, _⟩ => by rw [hro id o e] at r; cases r)).1⟩
theorem Z3p {P : Program} {ng : Nat} {skip : List Nat} {kinds : List (Nat × Nat × Nat)} {gl : List (Nat × List AV)} {rets : List (Nat × Bool)} (hN : Ke skip P.funcs.toList 0 = true) (hK : Zmi P kinds = true) (hR : Znd P gl rets) (hM : P.follows .mixedOrders = true)
    (hgl : (gl.all fun x => Nat.blt x.1 ng) = true) {w : World} (hw : Yf gl w) (ex : List MEnt) {args : List AV} {cargs : List Value} (ha : Zq (Wq ng 0 ++ ex) args cargs) {n f : Nat} {b : Bool} (hf : ((V3 P ng skip (Zr7 kinds rets)).fn f).isSome = true)
    (h : TRes.isB b (run (V3 P ng skip (Zr7 kinds rets)) n (.call f args (Xf (ng + ex.length) gl))) = true) :
    (callFunc f cargs.toArray).run P w = .ok (.enter f cargs.toArray) w ∧ Calls P f cargs.toArray w fun e w' => e = .returned (.bool b) ∧ Keeps w w' := by
  refine Zvq (M0 := Wq ng 0 ++ ex) (Z1s hN hK hR hM (fun _ _ _ x => hw.ext x) fun _ _ _ _ _ _ a b => a.trans b) (Zbx (by simp [Vy]) fun g av hm => ?_) ((Zbu _).mono (List.prefix_append _ _)) (J3 _ _) ha hf h
  have hg : g < ng := by
    have := List.all_eq_true.1 hgl _ hm
    simpa using this
  refine ⟨by omega, ?_, hw g av hm⟩
  rw [List.getElem?_append_left (by rw [Vy]; exact hg), Ko ng 0 g hg]
  simp
theorem Yb1 {P : Program} {ng : Nat} {skip : List Nat} {kinds : List (Nat × Nat × Nat)} {gl : List (Nat × List AV)} {rets : List (Nat × Bool)} (hN : Ke skip P.funcs.toList 0 = true) (hK : Zmi P kinds = true) (hR : Znd P gl rets) (hM : P.follows .mixedOrders = true)
    (hgl : (gl.all fun x => Nat.blt x.1 ng) = true) {n f : Nat} {b : Bool} (hf : ((V3 P ng skip (Zr7 kinds rets)).fn f).isSome = true) (h : TRes.isB b (run (V3 P ng skip (Zr7 kinds rets)) n (.call f [] (Xf ng gl))) = true) :
    ∀ w, Yf gl w → (callFunc f #[]).run P w = .ok (.enter f #[]) w ∧ Calls P f #[] w fun e w' => e = .returned (.bool b) ∧ Keeps w w' := fun _w hw =>
  Z3p hN hK hR hM hgl hw [] (args := []) (cargs := []) trivial hf h
theorem Z3f {P : Program} {gl : List (Nat × List AV)} : Znd P gl [] := fun _ _ h => by cases h
end Go.Vai
end
section
namespace Go.Vai
open Go.RowKit
inductive CK where
  | int (k : IntKind) | str | bool
def CK.is : CK → AV → Prop
  | .int k, a => ∃ n, a = .int k n ∧ (Lit.int k n).wf = true
  | .str, a => ∃ s, a = .str s ∧ s.length ≤ maxLen
  | .bool, a => ∃ b, a = .bool b
def Zha : List CK → List AV → Prop
  | [], [] => True
  | k :: ks, a :: asz => k.is a ∧ Zha ks asz
  | _, _ => False
theorem Zha.append : ∀ {ks ls : List CK} {asz bs : List AV}, Zha ks asz → Zha ls bs → Zha (ks ++ ls) (asz ++ bs)
  | [], _, [], _, _, h => h
  | _ :: _, _, _ :: _, _, h, g => ⟨h.1, Zha.append h.2 g⟩
section
variable {H : Type} {enc : TypeId × Value → H} {P : Program} {w : World} {base : Nat} {spare : Nat → Bool} {held : Bool}
theorem Zj8 (hl : laidOutB P = true) {W W' : World} (hb : Below W.heap.size W W') : ∀ {ts : List TypeId} {vs : List Value} {ds : List (DataW H)} {ps : List MemPlace}, (ts.all fun t => P.readableRec t && decide (t < P.types.size)) = true →
    DataW.TrodAll enc P W 0 (fun _ => true) true ts vs ds ps → (∀ x ∈ ps, x.block < W.heap.size) → DataW.TrodAll enc P W' 0 (fun b => decide (b < W.heap.size)) true ts vs ds ps
  | [], [], [], _, _, h, _ => h
  | [], [], _ :: _, _, _, h, _ => h.elim
  | [], _ :: _, _, _, _, h, _ => h.elim
  | _ :: _, [], _, _, _, h, _ => h.elim
  | _ :: _, _ :: _, [], _, _, h, _ => h.elim
  | t :: ts, v :: vs, d :: ds, ps, ha, h, hlt => by
    obtain ⟨p, q, h1, h2, e⟩ := h
    simp only [List.all_cons, Bool.and_eq_true, decide_eq_true_eq] at ha
    subst e
    exact ⟨p, q, Below.trod hl ha.1.1 ha.1.2 h1 hb (fun x hx => hlt x (List.mem_append_left _ hx)), Zj8 hl hb ha.2 h2 (fun x hx => hlt x (List.mem_append_right _ hx)), rfl⟩
theorem Keeps.below {w w' : World} (k : Keeps w w') : Below w.heap.size w w' := ⟨k.os, k.tape, k.output, k.size, k.old⟩
theorem Z3s {f : Func} {s : ChangeSpec} (hl : laidOutB P = true) (hts : (f.params.toList.all fun t => P.readableRec t && decide (t < P.types.size)) = true) {tb : TypeId} (hr : f.resultTypes = #[tb]) (htb : P.underlying tb = some .bool)
    {W W' : World} {args : Array Value} {ds gs : List (DataW H)} {before : List MemPlace} (hvars : s.vars = []) (hfn : (s.fn H (ds ++ gs)).results = [.lit (.bool true)] ∧ (s.fn H (ds ++ gs)).args = ds ∧ (s.fn H (ds ++ gs)).vars = [])
    (hW : DataW.Whole enc P f.params.toList s.vars false W args.toList ds gs before) (hb : Below W.heap.size W W') : s.post enc P f false true false false W args (.bool true) W' := by
  have hW' := hW
  obtain ⟨p, q, hA, hV, rfl, _, _⟩ := hW
  rw [hvars] at hV
  obtain ⟨rfl, rfl⟩ := ChangeShapes.trodVars_none hV
  have hlt : ∀ x ∈ p, x.block < W.heap.size := fun x hx => hW'.lt x (by simp [hx])
  refine ⟨_, _, _, [], p, [], hW', ?_, ?_, ?_, hb.frame _, fun h => by cases h⟩
  · rw [hr, hfn.1]
    exact ChangeShapes.trodAll_mk1 (shut_bool htb _)
  · rw [hfn.2.1]
    exact Zj8 hl hb hts hA hlt
  · rw [hvars, hfn.2.2]; exact rfl
end
end Go.Vai
end
section
namespace Go.Vai
section
variable {enc : TypeId × Value → Unit} {P : Program} {w : World} {base : Nat} {spare : Nat → Bool} {held : Bool}
end
end Go.Vai
end
