/- Control: a piece of code, by its make.
Control: ways out of a function, calls, deferred calls, rounds; and the whole: what the interpreter answers for a call, the program does.
The interpreter's tables, read off a program; they are what the interpreter asks them to be; a closed call.
Functions of the library that the model stands in for, as summaries of the interpreter.
The interpreter over a program, with the library's stand-ins and closed calls as summaries; a law's call from what is known of memory.
Arguments and listed variables of plain data, opened for the interpreter; a law's reading behind the call.
Listed package-level variables of plain data, av rows that may be read. -/
import Derived.Test.YthlcgkebfodnmaaGreatDoorVaiD
import Derived.Lib.BytesEntry
import Derived.Lib.MakeNoZero
import Derived.Carry
import Derived.ChangeArms
import Derived.OpenShut
import Derived.Lib.LaidIn
import Derived.Lib.LaidU8
import Derived.MakeChecks
section
namespace Go.Vai
section
variable {E : Env} {P : Program} {I : List MEnt → AHeap → World → Prop} {ih : Task → Option TRes} {ro : Option Nat}
theorem getLoop_rel {M : List MEnt} {H : AHeap} {w : World} (hr : HRel M H w) {id : Nat} {m : MEnt} (hm : M[id]? = some m) {st : LSt} {pend : Option AExit} {n : Nat} {t : Tr AV} {ps : List Nat} {asz bo : Code} {d : Nat}
    (h : H.get id = some (.loop st pend n t ps asz bo d)) :
    ∃ L : Loop, w.heap[m.block]? = some (.loop L) ∧ L.state = lstOf st ∧ PRel pend L.pending ∧ L.params.toList = ps ∧ L.assign = asz ∧ L.body = bo ∧ L.tmps.size = n ∧ TRel M t L.tmps ∧ ∃ d', M[d]? = some d' ∧ L.defers = d'.block :=
  hr.blk h hm
theorem grown_putObj (w : World) (b : Nat) (o : Obj) : w.grownBy (w.putObj b o) (some b) :=
  ⟨rfl, rfl, rfl, by simp, fun k _ hne => World.putObj_heap_other (by intro e; subst e; exact hne rfl)⟩
theorem putLoop {M : List MEnt} {H : AHeap} {w : World} (hr : HRel M H w) {id : Nat} {m : MEnt} (hm : M[id]? = some m) {st : LSt} {pend : Option AExit} {n : Nat} {t : Tr AV} {ps : List Nat} {asz bo : Code} {d : Nat}
    (h : H.get id = some (.loop st pend n t ps asz bo d)) {L : Loop} (hL : w.heap[m.block]? = some (.loop L)) {st' : LSt} {pend' : Option AExit} {cst : LoopState} {cp : Option Code} (h1 : cst = lstOf st') (h2 : PRel pend' cp) :
    HRel M (H.put id (.loop st' pend' n t ps asz bo d)) (w.putObj m.block (.loop { L with state := cst, pending := cp })) ∧
    Ext M H w M (H.put id (.loop st' pend' n t ps asz bo d)) (w.putObj m.block (.loop { L with state := cst, pending := cp })) := by
  obtain ⟨L', e1, e2, e3, e4, e5, e6, e7, e8, d', e9, e10⟩ := getLoop_rel hr hm h
  rw [hL] at e1; cases e1
  have hlt : m.block < w.heap.size := (Array.getElem?_eq_some_iff.1 hL).1
  exact hr.put h rfl hm (grown_putObj _ _ _) _ ⟨_, World.putObj_heap_same hlt, h1, h2, e4, e5, e6, e7, e8, d', e9, e10⟩
theorem loopWp_loop {F : Fence} {P : Program} {c : Code} {Q : Exit → Act → World → Prop} {a : Act} {w : World} (h : LoopWp F P c Q a w) : (Code.loop c).wpIn F 0 P Q a w := by
  intro b k cs hro hb hr
  obtain ⟨e, a', w', q, r⟩ := h b k cs hro hb hr
  exact ⟨e, a', w', q, .of_steps (.one (fenced_calm hb hr rfl) stepR_loop) r⟩
theorem loopWp_of {F : Fence} {P : Program} {c : Code} {Q : Exit → Act → World → Prop} {a : Act} {w : World} (h : c.wpIn F 0 P (Exit.then (LoopWp F P c Q) Q) a w) : LoopWp F P c Q a w := by
  intro b k cs hro hb hr
  obtain ⟨e, a₁, w₁, hq, harr⟩ := h b (.inLoop c :: k) cs hro hb hr
  cases e with
  | normal =>
    obtain ⟨e₂, a₂, w₂, hq₂, harr₂⟩ := hq b k cs hro hb hr
    exact ⟨e₂, a₂, w₂, hq₂, .of_steps (StepsIn.trans harr (.one (fenced_calm hb hr rfl) stepR_inLoop)) harr₂⟩
  | exit id => exact ⟨_, a₁, w₁, hq, .pass (x := .inLoop c) rfl (fun _ _ => .inl (by simp)) harr⟩
  | goto l => exact ⟨_, a₁, w₁, hq, .pass (x := .inLoop c) rfl (fun _ _ => .inl (by simp)) harr⟩
  | ret => exact ⟨_, a₁, w₁, hq, .pass (x := .inLoop c) rfl (fun _ _ => .inl (by simp)) harr⟩
  | panic ch => exact ⟨_, a₁, w₁, hq, .pass (x := .inLoop c) rfl (fun _ _ => .inl (by simp)) harr⟩
  | outgrown => exact ⟨_, a₁, w₁, hq, .pass (x := .inLoop c) rfl (fun _ _ => .inl (by simp)) harr⟩
theorem post_then {ro : Option Nat} {M : List MEnt} {H : AHeap} {w : World} {e : AExit} {fr' : AFr} {H' : AHeap} {x : Exit} {a : Act} {w' : World} {K : Act → World → Prop} (he : e ≠ .normal) (h : CPost ro M H w e fr' H' x a w') :
    Exit.then K (CPost ro M H w e fr' H') x a w' := by
  have h' := h
  obtain ⟨M', _, _, h3, _⟩ := h'
  cases e with
  | normal => exact absurd rfl he
  | exit i => simp only [ERel] at h3; subst h3; exact h
  | ret => simp only [ERel] at h3; subst h3; exact h
  | panic v => obtain ⟨cv, rfl, _⟩ := h3; exact h
theorem codeA_sound (hE : EnvOk E P I) (hs : Sound E P I ih) : ∀ (c : Code) (fr : AFr) (H : AHeap) (e : AExit) (fr' : AFr) (H' : AHeap) (M : List MEnt) (w : World) (a : Act),
    codeA E ih c fr H = some (.code e fr' H') → St E I M H w → FRel ro M fr a → c.wpIn (FF ro) 0 P (CPost ro M H w e fr' H') a w := by
  intro c
  induction c with
  | skip =>
    intro fr H e fr' H' M w a h st hf
    simp only [codeA, Option.some.injEq, TRes.code.injEq] at h
    obtain ⟨rfl, rfl, rfl⟩ := h
    exact wpIn_skip ⟨M, Ext.refl _ _ _, st.hr, rfl, hf⟩
  | label l =>
    intro fr H e fr' H' M w a h st hf
    simp only [codeA, Option.some.injEq, TRes.code.injEq] at h
    obtain ⟨rfl, rfl, rfl⟩ := h
    exact wpIn_label ⟨M, Ext.refl _ _ _, st.hr, rfl, hf⟩
  | ret =>
    intro fr H e fr' H' M w a h st hf
    simp only [codeA, Option.some.injEq, TRes.code.injEq] at h
    obtain ⟨rfl, rfl, rfl⟩ := h
    exact wpIn_ret ⟨M, Ext.refl _ _ _, st.hr, rfl, hf⟩
  | exit id =>
    intro fr H e fr' H' M w a h st hf
    simp only [codeA, Option.some.injEq, TRes.code.injEq] at h
    obtain ⟨rfl, rfl, rfl⟩ := h
    exact wpIn_exit ⟨M, Ext.refl _ _ _, st.hr, rfl, hf⟩
  | seq x y ihx ihy =>
    intro fr H e fr' H' M w a h st hf
    simp only [codeA] at h
    refine wpIn_seq ?_
    split at h
    · rename_i fr1 H1 hx
      refine wpIn_mono (ihx fr H _ _ _ M w a hx st hf) ?_
      rintro ex a1 w1 ⟨M1, x1, x2, x3, x4⟩
      simp only [ERel] at x3; subst x3
      exact wpIn_mono (ihy fr1 H1 e fr' H' M1 w1 a1 h (st.next hE x1 x2) x4) fun ex a2 w2 hp => hp.after x1
    · rename_i hne
      refine wpIn_mono (ihx fr H e fr' H' M w a h st hf) fun ex a1 w1 hp => post_then (fun he => hne fr' H' (by rw [h, he])) hp
  | cond c x y ihx ihy =>
    intro fr H e fr' H' M w a h st hf
    simp only [codeA] at h
    split at h
    · rename_i hc
      have := opd_rel st.g hf.t hc
      simp only [VRel] at this
      exact wpIn_cond_true this (ihx fr H e fr' H' M w a h st hf)
    · rename_i hc
      have := opd_rel st.g hf.t hc
      simp only [VRel] at this
      exact wpIn_cond_false this (ihy fr H e fr' H' M w a h st hf)
    · cases h
  | block id c ihc =>
    intro fr H e fr' H' M w a h st hf
    simp only [codeA] at h
    refine wpIn_block ?_
    split at h
    · rename_i i fr1 H1 hx
      refine wpIn_mono (ihc fr H _ _ _ M w a hx st hf) ?_
      rintro ex a1 w1 ⟨M1, x1, x2, x3, x4⟩
      simp only [ERel] at x3; subst x3
      simp only [Bool.cond_eq_ite, Nat.beq_eq] at h
      simp only [Exit.inBlock]
      split
      · rename_i hi
        rw [if_pos hi] at h
        simp only [Option.some.injEq, TRes.code.injEq] at h
        obtain ⟨rfl, rfl, rfl⟩ := h
        exact ⟨M1, x1, x2, rfl, x4⟩
      · rename_i hi
        rw [if_neg hi] at h
        simp only [Option.some.injEq, TRes.code.injEq] at h
        obtain ⟨rfl, rfl, rfl⟩ := h
        exact ⟨M1, x1, x2, rfl, x4⟩
    · rename_i hne
      refine wpIn_mono (ihc fr H e fr' H' M w a h st hf) ?_
      intro ex a1 w1 hp
      have hp' := hp
      obtain ⟨M1, x1, x2, x3, x4⟩ := hp'
      cases e with
      | exit i => exact absurd h (hne i fr' H')
      | normal => simp only [ERel] at x3; subst x3; exact hp
      | ret => simp only [ERel] at x3; subst x3; exact hp
      | panic v => obtain ⟨cv, rfl, _⟩ := x3; exact hp
  | loop c ihc =>
    intro fr H e fr' H' M w a h st hf
    simp only [codeA] at h
    refine loopWp_loop (loopWp_of ?_)
    split at h
    · rename_i fr1 H1 hx
      refine wpIn_mono (ihc fr H _ _ _ M w a hx st hf) ?_
      rintro ex a1 w1 ⟨M1, x1, x2, x3, x4⟩
      simp only [ERel] at x3; subst x3
      intro b k cs hro hb hr
      obtain ⟨e2, a2, w2, q, r⟩ := hs.loop ro c fr1 H1 e fr' H' M1 w1 a1 h (st.next hE x1 x2) x4 b k cs hro hb hr
      exact ⟨e2, a2, w2, q.after x1, r⟩
    · rename_i hne
      refine wpIn_mono (ihc fr H e fr' H' M w a h st hf) fun ex a1 w1 hp => post_then (fun he => hne fr' H' (by rw [h, he])) hp
  | region id ops draw =>
    intro fr H e fr' H' M w a h st hf
    simp only [codeA, regionA] at h
    cases draw with
    | false =>
      simp only [cond_false] at h
      refine wpIn_region ?_
      have := opsA_sound (ro := ro) hE hs ops.toList 0 fr H M w a rfl h (Ext.refl _ _ _) st hf
      rw [List.range_eq_range']
      exact this
    | true =>
      simp only [cond_true] at h
      split at h
      · cases h
      rename_i an han
      simp only [Bool.cond_eq_ite, Bool.and_eq_true, Nat.ble_eq] at h
      split at h
      case isFalse => cases h
      rename_i hall
      exact draw_sound hE hs han hall.1 hall.2.1 hall.2.2 h st hf
  | rangeFunc f ps assign body _ _ =>
    intro fr H e fr' H' M w a h st hf
    simp only [codeA] at h
    cases hrd : fr.rd with
    | true => simp [hrd] at h
    | false =>
    simp only [hrd, cond_false] at h
    have hro : ro = none := by
      have := hf.rd
      rw [hrd] at this
      cases ro with
      | none => rfl
      | some _ => cases this
    subst hro
    split at h
    case h_2 => cases h
    rename_i g first cap hop
    split at h
    · cases h
    rename_i fn hfn
    obtain ⟨fs, cs, hev, r1, r2⟩ := opd_rel st.g hf.t hop
    split at h
    case h_2 => cases h
    rename_i v H1 hcall
    refine wpIn_rangeFunc fun fnr _ => ?_
    obtain ⟨n1, n2⟩ := st.hr.new (World.grownBy_alloc w (.deferred (some [])) none) .dfr ⟨w.heap.size, 0, 0, 0⟩ (Nat.le_refl _) (World.alloc_heap_new w _)
    have sz : (w.alloc (.deferred (some []))).heap.size = w.heap.size + 1 := by rw [World.size_alloc]
    have at1 : (M ++ [(⟨w.heap.size, 0, 0, 0⟩ : MEnt)])[H.next]? = some ⟨w.heap.size, 0, 0, 0⟩ := by rw [← st.hr.len]; simp
    have l1 : (M ++ [(⟨w.heap.size, 0, 0, 0⟩ : MEnt)]).length = H.next + 1 := by simp [st.hr.len]
    have at1' : (M ++ [(⟨w.heap.size, 0, 0, 0⟩ : MEnt)] ++ [(⟨w.heap.size + 1, 0, 0, 0⟩ : MEnt)])[H.next]? = some ⟨w.heap.size, 0, 0, 0⟩ := pre_get (List.prefix_append _ _) at1
    have at2 : (M ++ [(⟨w.heap.size, 0, 0, 0⟩ : MEnt)] ++ [(⟨w.heap.size + 1, 0, 0, 0⟩ : MEnt)])[H.next + 1]? = some ⟨w.heap.size + 1, 0, 0, 0⟩ := by
      rw [List.getElem?_append_right (by omega), l1]; simp
    have heapL := World.alloc_heap_new (w.alloc (.deferred (some []))) (.loop { state := .ready, pending := none, fn := fnr, tmps := a.tmps, params := ps, assign, body, defers := w.heap.size })
    obtain ⟨n3, n4⟩ := n1.new (World.grownBy_alloc (w.alloc (.deferred (some []))) (.loop { state := .ready, pending := none, fn := fnr, tmps := a.tmps, params := ps, assign, body, defers := w.heap.size }) none)
      (.loop .ready none fr.n fr.t ps.toList assign body H.next) ⟨w.heap.size + 1, 0, 0, 0⟩ (by rw [sz]; exact Nat.le_refl _)
      ⟨{ state := .ready, pending := none, fn := fnr, tmps := a.tmps, params := ps, assign, body, defers := w.heap.size }, by rw [sz] at heapL; exact heapL, rfl, rfl, rfl, rfl, rfl, hf.n, hf.t.mono ((List.prefix_append _ _).trans (List.prefix_append _ _)), _, at1', rfl⟩
    have x12 := n2.trans n4
    have pre : M <+: M ++ [(⟨w.heap.size, 0, 0, 0⟩ : MEnt)] ++ [(⟨w.heap.size + 1, 0, 0, 0⟩ : MEnt)] := x12.pre
    have hargs : VRels (M ++ [(⟨w.heap.size, 0, 0, 0⟩ : MEnt)] ++ [(⟨w.heap.size + 1, 0, 0, 0⟩ : MEnt)]) (first ++ (.yld (H.next + 1) :: cap)) (fs ++ (.func (.yield (w.heap.size + 1)) #[] #[] :: cs)) :=
      (r1.mono pre).append ⟨⟨_, at2, rfl⟩, r2.mono pre⟩
    obtain ⟨hrun, hcalls⟩ := callsA_enters hE hfn (hs.call _ _ _ _ _ _ _ hcall (st.next hE x12 n3) hargs)
    refine ⟨w.heap.size + 1, [{ target := .collected w.heap.size, args := #[] }], _, { target := .fn (.func g) cs.toArray, args := (fs ++ [Value.func (.yield (w.heap.size + 1)) #[] #[]]).toArray }, ((w.alloc (.deferred (some []))).alloc (.loop { state := .ready, pending := none, fn := fnr, tmps := a.tmps, params := ps, assign, body, defers := w.heap.size })), g, (fs ++ (Value.func (.yield (w.heap.size + 1)) #[] #[] :: cs)).toArray, ((w.alloc (.deferred (some []))).alloc (.loop { state := .ready, pending := none, fn := fnr, tmps := a.tmps, params := ps, assign, body, defers := w.heap.size })), run_enterLoop_outer _ _ _ _ _, ?_, fun _ _ => trivial, ?_, fun h => (by cases h), ?_⟩
    · have hk : ∀ v, a.eval (.const v) = v := fun _ => rfl
      simp [resolve, hev, Deferred.ofValue, hk]
    · simp only [invoke]
      have : (fs ++ [Value.func (.yield (w.heap.size + 1)) #[] #[]]).toArray ++ cs.toArray = (fs ++ (Value.func (.yield (w.heap.size + 1)) #[] #[] :: cs)).toArray := by simp
      rw [this]
      exact hrun
    · refine CallsIn.mono (F := FF none) hcalls ?_
      intro en w3 hp
      cases en with
      | outgrown => exact hp.elim
      | panicked ch => obtain ⟨_, _, _, _, e, _⟩ := hp; cases e
      | returned cv =>
        obtain ⟨v', H2, M3, e3, x3, x4, x5⟩ := hp
        cases e3
        have a1 := pre_get x3.pre at1'
        have a2 := pre_get x3.pre at2
        have ff : FRel none M3 { fr with df := .mark H.next :: fr.df } { a with defers := { target := .collected w.heap.size, args := #[] } :: a.defers } :=
          ⟨hf.rd, hf.n, hf.t.mono (pre.trans x3.pre), .cons ⟨_, a1, rfl⟩ (hf.df.mono (pre.trans x3.pre))⟩
        have key : ∀ st' pend n t p a' b d, st' ≠ LSt.busy → H1.get (H.next + 1) = some (.loop st' pend n t p a' b d) → ∃ jump w4, (Instr.endLoop (w.heap.size + 1)).run P w3 = .ok jump w4 ∧ PRel pend jump ∧
            ∃ M4, Ext M H w M4 (H1.put (H.next + 1) (.loop .exhausted pend n t p a' b d)) w4 ∧ HRel M4 (H1.put (H.next + 1) (.loop .exhausted pend n t p a' b d)) w4 ∧ FRel none M4 { fr with df := .mark H.next :: fr.df } { a with defers := { target := .collected w.heap.size, args := #[] } :: a.defers } := by
          intro st' pend n t p a' b d hst hget
          obtain ⟨L, e1, e2, e3, _⟩ := getLoop_rel x4 a2 hget
          obtain ⟨y1, y2⟩ := putLoop x4 a2 hget e1 (st' := .exhausted) (pend' := pend) (cst := .exhausted) (cp := L.pending) rfl e3
          refine ⟨L.pending, _, run_endLoop e1 (by rw [e2]; cases st' <;> simp_all [lstOf]), e3, M3, (x12.trans x3).trans y2, y1, ff⟩
        have hrd' : ∀ x : AFr, x = { n := fr.n, t := fr.t, df := .mark H.next :: fr.df, rd := false } → x = { fr with df := .mark H.next :: fr.df } := by
          intro x hx; rw [hx, ← hrd]
        split at h
        · cases h
        · rename_i st' n t p a' b d hne hget
          simp only [Option.some.injEq, TRes.code.injEq] at h
          obtain ⟨rfl, hfr, rfl⟩ := h
          have := hrd' _ hfr.symm
          subst this
          obtain ⟨jump, w4, k1, k2, M4, k3, k4, k5⟩ := key st' _ n t p a' b d hne hget
          simp only [PRel] at k2; subst k2
          exact ⟨none, w4, k1, ⟨M4, k3, k4, rfl, k5⟩⟩
        · rename_i st' n t p a' b d hne hget
          simp only [Option.some.injEq, TRes.code.injEq] at h
          obtain ⟨rfl, hfr, rfl⟩ := h
          have := hrd' _ hfr.symm
          subst this
          obtain ⟨jump, w4, k1, k2, M4, k3, k4, k5⟩ := key st' _ n t p a' b d hne hget
          simp only [PRel] at k2; subst k2
          exact ⟨some .ret, w4, k1, wpIn_ret ⟨M4, k3, k4, rfl, k5⟩⟩
        · rename_i st' i n t p a' b d hne hget
          simp only [Option.some.injEq, TRes.code.injEq] at h
          obtain ⟨rfl, hfr, rfl⟩ := h
          have := hrd' _ hfr.symm
          subst this
          obtain ⟨jump, w4, k1, k2, M4, k3, k4, k5⟩ := key st' _ n t p a' b d hne hget
          simp only [PRel] at k2; subst k2
          exact ⟨some (.exit i), w4, k1, wpIn_exit ⟨M4, k3, k4, rfl, k5⟩⟩
        · cases h
  | scope c _ => intro fr H e fr' H' M w a h; simp [codeA] at h
  | refuse _ => intro fr H e fr' H' M w a h; simp [codeA] at h
  | goto l => intro fr H e fr' H' M w a h; simp [codeA] at h
end
end Go.Vai
end
section
namespace Go.Vai
section
variable {E : Env} {P : Program} {I : List MEnt → AHeap → World → Prop} {ih : Task → Option TRes}
def resOne (tmps : Array Value) : ResultVar → Sem Value
  | .tmp t => pure (tmps.getD t undef)
  | .cell a t => do loadVar t (← asAddr (tmps.getD a undef))
theorem resList (hE : TysOk E P) {M : List MEnt} {H : AHeap} {w : World} (hr : HRel M H w) {t : Tr AV} {tmps : Array Value} (ht : TRel M t tmps) : ∀ (rs : List ResultVar) (l : List AV), resA E t H rs = some l →
    ∃ vs, (rs.mapM (resOne tmps)).run P w = .ok vs w ∧ VRels M l vs := by
  intro rs
  induction rs with
  | nil =>
    intro l h
    simp only [resA, Option.some.injEq] at h; subst h
    exact ⟨[], by simp, trivial⟩
  | cons r rs ihr =>
    intro l h
    cases r with
    | tmp i =>
      simp only [resA] at h
      split at h
      · cases h
      rename_i v hv
      split at h
      case h_2 => cases h
      rename_i l' hl
      simp only [Option.some.injEq] at h; subst h
      obtain ⟨cv, h1, h2⟩ := ht _ _ hv
      obtain ⟨vs, h3, h4⟩ := ihr _ hl
      refine ⟨cv :: vs, ?_, h2, h4⟩
      rw [List.mapM_cons]
      have e : (resOne tmps (.tmp i)).run P w = .ok cv w := by simp [resOne, Array.getD_eq_getD_getElem?, h1]
      simp only [Sem.run_bind, Sem.run_pure, e, Result.andThen_ok, h3]
    | cell a i =>
      simp only [resA] at h
      split at h
      · cases h
      rename_i p hp
      split at h
      · cases h
      rename_i v hv
      split at h
      case h_2 => cases h
      rename_i l' hl
      simp only [Option.some.injEq] at h; subst h
      obtain ⟨cp, h1, h2⟩ := ht _ _ hp
      obtain ⟨ad, cv, h5, h6, h7⟩ := loadVar_sound hE hr h2 hv
      obtain ⟨vs, h3, h4⟩ := ihr _ hl
      refine ⟨cv :: vs, ?_, h7, h4⟩
      rw [List.mapM_cons]
      have e : (resOne tmps (.cell a i)).run P w = .ok cv w := by simp [resOne, Array.getD_eq_getD_getElem?, h1, h5, asAddr, h6]
      simp only [Sem.run_bind, Sem.run_pure, e, Result.andThen_ok, h3]
theorem results_sound (hE : TysOk E P) {M : List MEnt} {H : AHeap} {w : World} (hr : HRel M H w) {t : Tr AV} {tmps : Array Value} (ht : TRel M t tmps) {Fn : Func} {l : List AV} (h : resA E t H Fn.results.toList = some l) :
    ∃ cv, (results Fn tmps).run P w = .ok cv w ∧ VRel M (resV l) cv := by
  obtain ⟨vs, h1, h2⟩ := resList hE hr ht _ _ h
  refine ⟨if h : vs.toArray.size = 1 then vs.toArray[0] else .tuple vs.toArray, ?_, ?_⟩
  · show (do let vs ← Fn.results.mapM (resOne tmps); pure (if h : vs.size = 1 then vs[0] else Value.tuple vs) : Sem Value).run P w = _
    rw [Sem.run_bind, Array.mapM_eq_mapM_toList, Sem.run_map]
    rw [h1]
    rfl
  · match l, vs, h2 with
    | [], [], _ => exact ⟨[], rfl, trivial⟩
    | [v], [cv], ⟨h, _⟩ => exact h
    | a :: b :: l, x :: y :: vs, h => exact ⟨x :: y :: vs, by simp, h⟩
theorem HRel.shut {M : List MEnt} {H : AHeap} {w w' : World} (h : HRel M H w) {id : Nat} {o : AObj} {m : MEnt} (e : H.get id = some o) (hro : o.isRo = false) (hm : M[id]? = some m) (hg : w.grownBy w' (some m.block)) :
    HRel M (H.kill id) w' ∧ Ext M H w M (H.kill id) w' := by
  have ne : ∀ j p k, H.get j = some p → M[j]? = some k → j ≠ id → k.block ≠ m.block := fun j p k ej ek hj hb => by
    have := (h.inj j id p o k m ej e ek hm hj hb).2
    rw [hro] at this; cases this
  refine ⟨⟨h.len, fun j p ej => ?_, fun i j p q k l ei ej => h.inj i j p q k l (AHeap.get_kill ei).2 (AHeap.get_kill ej).2⟩, ⟨List.prefix_refl _, hg.size, hg.os, hg.tape, hg.output, fun b hb hn => ⟨hg.block b hb ?_, fun ⟨j, p, k, ej, r⟩ => hn ⟨j, p, k, (AHeap.get_kill ej).2, r⟩⟩, fun _ _ hn ⟨j, p, k, ej, r⟩ => hn ⟨j, p, k, (AHeap.get_kill ej).2, r⟩⟩⟩
  · obtain ⟨hj, ej⟩ := AHeap.get_kill ej
    obtain ⟨k, hk, r⟩ := h.obj j p ej
    exact ⟨k, hk, r.carry (List.prefix_refl _) (hg.block _ r.lt (by have := ne j p k ej hk hj; simp [this]))⟩
  · intro he
    simp only [Option.some.injEq] at he
    exact hn ⟨id, o, m, e, hro, hm, he.symm⟩
theorem URel.mono {M M' : List MEnt} (h : M <+: M') : ∀ {p : Option AV} {u : FrameMode}, URel M p u → URel M' p u
  | none, _, r => r
  | some _, _, ⟨cv, e, r⟩ => ⟨cv, e, r.mono h⟩
theorem URel.ne {M : List MEnt} : ∀ {p : Option AV} {u : FrameMode}, URel M p u → u ≠ .run
  | none, _, r => by simp only [URel] at r; subst r; simp
  | some _, _, ⟨cv, e, r⟩ => by subst e; simp
theorem leaveA_sound (hE : EnvOk E P I) (hs : Sound E P I ih) {f : FuncId} {fn : AFunc} {Fn : Func} (hF : FnOk P f fn Fn) {t : Tr AV} {tmps : Array Value} {M0 : List MEnt} {H0 : AHeap} {w0 : World} {r : CRes} :
    ∀ (ds : List ADf) (p : Option AV) (H : AHeap) (M : List MEnt) (w : World) (cds : List Deferred) (u : FrameMode), leaveA E ih fn.results t ds p H = some (.call r) → Ext M0 H0 w0 M H w → St E I M H w → TRel M t tmps → DfRels M ds cds → URel M p u →
      LeavesInM Fence.wide 0 P Fn tmps (CallPost M0 H0 w0 r) cds u w := by
  intro ds
  induction ds with
  | nil =>
    intro p H M w cds u h x st ht hd hu
    cases hd
    cases p with
    | none =>
      simp only [URel] at hu; subst hu
      simp only [leaveA] at h
      split at h
      case h_2 => cases h
      rename_i l hl
      simp only [Option.some.injEq, TRes.call.injEq] at h; subst h
      rw [← hF.res] at hl
      obtain ⟨cv, h1, h2⟩ := results_sound hE.tys st.hr ht hl
      exact ⟨cv, h1, _, _, M, rfl, x, st.hr, h2⟩
    | some v =>
      obtain ⟨cv, rfl, hv⟩ := hu
      simp only [leaveA, Option.some.injEq, TRes.call.injEq] at h; subst h
      exact ⟨v, H, M, cv, rfl, rfl, x, st.hr, hv⟩
  | cons y ds ihd =>
    intro p H M w cds u h x st ht hd hu
    cases hd with
    | cons hy hds =>
    rename_i d cds
    cases y with
    | mark id =>
      simp only [leaveA] at h
      split at h
      case h_2 => cases h
      rename_i hget
      obtain ⟨m, hm, rfl⟩ := hy
      have hblk : w.heap[m.block]? = some (.deferred (some [])) := st.hr.blk hget hm
      obtain ⟨s1, s2⟩ := st.hr.shut hget rfl hm (grown_putObj w m.block (.deferred none))
      exact ⟨hu.ne, .inl ⟨m.block, _, rfl, run_takeDeferred hblk, ihd p _ M _ _ u h (x.trans s2) (st.next hE s2 s1) ht hds hu⟩⟩
    | call g args =>
      simp only [leaveA] at h
      split at h
      case h_2 => cases h
      rename_i taken H1 hc
      obtain ⟨cap, asz, fs, rfl, rfl, hargs⟩ := hy
      obtain ⟨hrun, hcall⟩ := hs.dcall g args p H taken H1 M w _ u hc st hargs hu
      refine ⟨hu.ne, .inr ⟨fun h => (by cases h), .func g, cap.toArray, g, (asz ++ cap).toArray, rfl, ?_, fun _ _ => trivial, ?_⟩⟩
      · show (callFunc g (asz.toArray ++ cap.toArray)).run P w = _
        have : asz.toArray ++ cap.toArray = (asz ++ cap).toArray := by simp
        rw [this]; exact hrun
      · refine CallsDIn.mono hcall ?_
        intro en u' w' hp
        cases en with
        | panicked ch => exact hp.elim
        | outgrown => exact hp.elim
        | returned cv =>
          obtain ⟨⟨M', x1, x2⟩, hset⟩ := hp
          show LeavesInM Fence.wide 0 P Fn tmps _ cds (settle u') w'
          rw [hset]
          refine ihd _ _ M' w' cds _ h (x.trans x1) (st.next hE x1 x2) (ht.mono x1.pre) (hds.mono x1.pre) ?_
          cases taken with
          | true => rfl
          | false => exact hu.mono x1.pre
theorem newFr_rel {M : List MEnt} {f : FuncId} {fn : AFunc} {Fn : Func} (hF : FnOk P f fn Fn) {args : List AV} {cargs : List Value} (h : VRels M args cargs) :
    FRel none M (newFr fn args) { tmps := cargs.toArray ++ Array.replicate (Fn.ntmps - cargs.toArray.size) undef, defers := [] } := by
  refine ⟨rfl, by simp [newFr, hF.nt, h.length], fun i v hi => ?_, .nil⟩
  rcases Tr.get_putAll args hi with ⟨j, h1, h2⟩ | ⟨_, h2⟩
  · obtain ⟨cv, h3, h4⟩ := h.get _ _ h2
    have hij : j = i := by rw [h1, Nat.zero_add]
    rw [hij] at h3
    refine ⟨cv, ?_, h4⟩
    have hlt : i < cargs.length := (List.getElem?_eq_some_iff.1 h3).1
    rw [Array.getElem?_append_left (by simpa using hlt)]
    simpa using h3
  · cases h2
theorem df_nil {M : List MEnt} {ds : List Deferred} (h : DfRels M [] ds) : ds = [] := by cases h; rfl
theorem call_step (hE : EnvOk E P I) (hs : Sound E P I ih) {f : FuncId} {args : List AV} {H : AHeap} {r : CRes} {M : List MEnt} {w : World} {cargs : List Value}
    (h : stepA E ih (.call f args H) = some (.call r)) (st : St E I M H w) (ha : VRels M args cargs) : CallsA P f cargs M H w r := by
  simp only [stepA] at h
  split at h
  · rename_i fn hfn
    obtain ⟨Fn, hF⟩ := hE.fns f fn hfn
    refine .inr ⟨enter_run hF _, callsIn_of_wp_marks hF.at_ hF.body trivial ?_⟩
    have hfr := newFr_rel hF ha
    split at h
    · rename_i fr1 H1 hc
      refine wpIn_mono (codeA_sound hE hs _ _ _ _ _ _ M w _ hc st hfr) ?_
      rintro ex a1 w1 ⟨M1, x1, x2, x3, x4⟩
      simp only [ERel] at x3; subst x3
      exact leaveA_sound hE hs hF _ _ _ M1 w1 _ _ h x1 (st.next hE x1 x2) x4.t x4.df rfl
    · rename_i fr1 H1 hc
      refine wpIn_mono (codeA_sound hE hs _ _ _ _ _ _ M w _ hc st hfr) ?_
      rintro ex a1 w1 ⟨M1, x1, x2, x3, x4⟩
      simp only [ERel] at x3; subst x3
      exact leaveA_sound hE hs hF _ _ _ M1 w1 _ _ h x1 (st.next hE x1 x2) x4.t x4.df rfl
    · rename_i v fr1 H1 hc
      refine wpIn_mono (codeA_sound hE hs _ _ _ _ _ _ M w _ hc st hfr) ?_
      rintro ex a1 w1 ⟨M1, x1, x2, ⟨cv, rfl, x3⟩, x4⟩
      exact leaveA_sound hE hs hF _ _ _ M1 w1 _ _ h x1 (st.next hE x1 x2) x4.t x4.df ⟨cv, rfl, x3⟩
    · cases h
  · rename_i hfn
    split at h
    · rename_i v H' hsm
      simp only [Option.some.injEq, TRes.call.injEq] at h; subst h
      exact hE.sm f args H v H' M w cargs hfn hsm st ha
    · cases h
theorem endD_some {rs : List ResultVar} {taken t' : Bool} {x : Option TRes} {H' : AHeap} (h : endD E rs taken x = some (.dcall (.back t' H'))) :
    t' = taken ∧ ∃ e n t rd l, (e = .normal ∨ e = .ret) ∧ x = some (.code e ⟨n, t, [], rd⟩ H') ∧ resA E t H' rs = some l := by
  unfold endD at h
  split at h
  · rename_i n t rd H1
    split at h
    · rename_i l hl
      simp only [Option.some.injEq, TRes.dcall.injEq, DRes.back.injEq] at h
      obtain ⟨rfl, rfl⟩ := h
      exact ⟨rfl, _, n, t, rd, l, .inl rfl, rfl, hl⟩
    · cases h
  · rename_i n t rd H1
    split at h
    · rename_i l hl
      simp only [Option.some.injEq, TRes.dcall.injEq, DRes.back.injEq] at h
      obtain ⟨rfl, rfl⟩ := h
      exact ⟨rfl, _, n, t, rd, l, .inr rfl, rfl, hl⟩
    · cases h
  · cases h
theorem recFirst_some {c : Code} {o : Oper} {rest : Code} (h : recFirst c = some (o, rest)) : ∃ id ops, c = .seq (.region id ops false) rest ∧ ops.toList = [o] ∧ o.guard = none ∧ ∃ k, o.op = .call k ∧ k.callee = .builtin .recover := by
  unfold recFirst at h
  split at h
  case h_2 => cases h
  rename_i id ops rest'
  split at h
  case h_2 => cases h
  rename_i o' ho
  cases hr : isRecover o' with
  | false => simp [hr] at h
  | true =>
    simp only [hr, cond_true, Option.some.injEq, Prod.mk.injEq] at h
    obtain ⟨rfl, rfl⟩ := h
    refine ⟨id, ops, rfl, ho, ?_⟩
    unfold isRecover at hr
    split at hr
    · rename_i k hk
      simp only [Bool.and_eq_true] at hr
      refine ⟨?_, k, hk, ?_⟩
      · have := hr.2
        split at this
        · assumption
        · cases this
      · have := hr.1
        split at this
        · assumption
        · cases this
    · cases hr
theorem dcall_step (hE : EnvOk E P I) (hs : Sound E P I ih) {f : FuncId} {args : List AV} {pan : Option AV} {H H' : AHeap} {taken : Bool} {M : List MEnt} {w : World} {cargs : List Value} {u : FrameMode}
    (h : stepA E ih (.dcall f args pan H) = some (.dcall (.back taken H'))) (st : St E I M H w) (ha : VRels M args cargs) (hu : URel M pan u) :
    (callFunc f cargs.toArray).run P w = .ok (.enter f cargs.toArray) w ∧ CallsDIn Fence.wide 0 P f cargs.toArray u w (DPost M H w taken H' u) := by
  simp only [stepA] at h
  split at h
  case h_2 => cases h
  rename_i fn hfn
  obtain ⟨Fn, hF⟩ := hE.fns f fn hfn
  have hfr := newFr_rel hF ha
  refine ⟨enter_run hF _, ?_⟩
  split at h
  · rename_i o rest hrec
    obtain ⟨htk, e, n, t, rd, l, he, hc, hl⟩ := endD_some h
    obtain ⟨id, ops, hbody, hops, hg, k, hk, hk2⟩ := recFirst_some hrec
    have hops' : ops = #[o] := by apply Array.ext'; simpa using hops
    subst hops'
    refine callsDIn_of_wpSIn hF.at_ (hF.body.trans (by rw [hbody])) trivial fun c₀ cs hc0 => ?_
    refine wpSIn_seq (wpSIn_region ?_)
    have hrun : ∀ a : Act, (execOp a.eval o).run P w = .ok .recover w := by
      intro a
      unfold execOp
      rw [hk]
      simp [resolve, hk2, invoke, builtin]
    have fin : ∀ (a' : Act) (cs' : List Frame) (cv : Value) (u' : FrameMode), VRel M (recOf pan) cv → cs' = { c₀ with mode := u' } :: cs → settle u' = (if taken then .returning else u) →
        a' = Act.put { tmps := cargs.toArray ++ Array.replicate (Fn.ntmps - cargs.toArray.size) undef, defers := [] } o.dst cv →
        wpOpsSIn Fence.wide 0 P #[o] (Exit.thenS (rest.wpSIn Fence.wide 0 P (bodyPostS P Fn c₀ cs (DPost M H w taken H' u))) (bodyPostS P Fn c₀ cs (DPost M H w taken H' u))) [] a' cs' w := by
      intro a' cs' cv u' hcv hcs hset ha'
      subst ha'
      refine wpSIn_of_wpIn rfl (wpIn_mono (codeA_sound (ro := none) hE hs _ _ _ _ _ _ M w _ hc st (hfr.put hcv o.dst)) ?_)
      rintro ex a1 w1 ⟨M1, x1, x2, x3, x4⟩
      rw [← hF.res] at hl
      obtain ⟨cv', r1, r2⟩ := results_sound hE.tys x2 x4.t hl
      rcases he with rfl | rfl
      · simp only [ERel] at x3; subst x3
        exact ⟨df_nil x4.df, u', hcs, cv', r1, ⟨M1, x1, x2⟩, hset⟩
      · simp only [ERel] at x3; subst x3
        exact ⟨df_nil x4.df, u', hcs, cv', r1, ⟨M1, x1, x2⟩, hset⟩
    simp only [List.size_toArray, List.length_cons, List.length_nil, Nat.zero_add, List.range_one, wpOpsSIn, List.getElem?_toArray, List.getElem?_cons_zero]
    refine ⟨fun _ _ => trivial, ?_⟩
    have hw : ∀ y, Region.wanted o y = true := by intro y; simp [Region.wanted, hg]
    rw [hw]
    simp only [if_true, hrun]
    cases pan with
    | none =>
      simp only [URel] at hu; subst hu
      have : recoverD (c₀ :: cs) = none := by simp [recoverD, hc0]
      rw [this]
      exact fin _ _ .nilIface .returning rfl (by rw [← hc0]) (by subst htk; rfl) rfl
    | some v =>
      obtain ⟨cv, rfl, hv⟩ := hu
      have : recoverD (c₀ :: cs) = some (cv, { c₀ with mode := .panicking [{ v := cv, recovered := true }] } :: cs) := by simp [recoverD, hc0]
      rw [this]
      exact fin _ _ cv _ hv rfl (by subst htk; rfl) rfl
  · obtain ⟨htk, e, n, t, rd, l, he, hc, hl⟩ := endD_some h
    refine CallsDIn.mono (callsDIn_of_wp hF.at_ hF.body trivial (R := fun en w' => ∃ cv M', en = .returned cv ∧ Ext M H w M' H' w' ∧ HRel M' H' w') ?_) ?_
    · refine wpIn_mono (codeA_sound (ro := none) hE hs _ _ _ _ _ _ M w _ hc st hfr) ?_
      rintro ex a1 w1 ⟨M1, x1, x2, x3, x4⟩
      rw [← hF.res] at hl
      obtain ⟨cv', r1, r2⟩ := results_sound hE.tys x2 x4.t hl
      rcases he with rfl | rfl
      · simp only [ERel] at x3; subst x3
        exact ⟨df_nil x4.df, cv', r1, cv', M1, rfl, x1, x2⟩
      · simp only [ERel] at x3; subst x3
        exact ⟨df_nil x4.df, cv', r1, cv', M1, rfl, x1, x2⟩
    · rintro en u' w' ⟨rfl, cv, M', rfl, x1, x2⟩
      refine ⟨⟨M', x1, x2⟩, ?_⟩
      subst htk
      cases pan with
      | none => simp only [URel] at hu; subst hu; rfl
      | some v => obtain ⟨cv, rfl, hv⟩ := hu; rfl
theorem setParams_rel {M : List MEnt} : ∀ (ps : List Nat) (args : List AV) (cargs : List Value) (t t' : Tr AV) (tmps : Array Value), setParams tmps.size ps args t = some t' → VRels M args cargs → TRel M t tmps →
    ps.length = cargs.length ∧ ((ps.zip cargs).foldl (fun (tmps : Array Value) (x : Nat × Value) => tmps.setIfInBounds x.1 x.2) tmps).size = tmps.size ∧ TRel M t' ((ps.zip cargs).foldl (fun (tmps : Array Value) (x : Nat × Value) => tmps.setIfInBounds x.1 x.2) tmps) := by
  intro ps
  induction ps with
  | nil =>
    intro args cargs t t' tmps h ha ht
    cases args with
    | nil =>
      simp only [setParams, Option.some.injEq] at h; subst h
      match cargs, ha with
      | [], _ => exact ⟨rfl, rfl, ht⟩
    | cons a asz => simp [setParams] at h
  | cons p ps ihp =>
    intro args cargs t t' tmps h ha ht
    cases args with
    | nil => simp [setParams] at h
    | cons a asz =>
      match cargs, ha with
      | c :: cs, ⟨h1, h2⟩ =>
        simp only [setParams, Bool.cond_eq_ite, Nat.blt_eq] at h
        split at h
        case isFalse => cases h
        rename_i hp
        have ht' : TRel M (t.set p a) (tmps.setIfInBounds p c) := by
          intro i v hi
          rcases Tr.get_set hi with ⟨rfl, rfl⟩ | ⟨hne, hi⟩
          · exact ⟨c, by simp [hp], h1⟩
          · obtain ⟨cv, hc, hv⟩ := ht i v hi
            exact ⟨cv, by simp only [Array.getElem?_setIfInBounds_ne (Ne.symm hne), hc], hv⟩
        have sz : (tmps.setIfInBounds p c).size = tmps.size := by simp
        rw [← sz] at h
        obtain ⟨k1, k2, k3⟩ := ihp asz cs (t.set p a) t' (tmps.setIfInBounds p c) h h2 ht'
        exact ⟨by simp [k1], by simpa using k2, by simpa using k3⟩
theorem zip_fold (ps : Array Nat) (cs : List Value) (tmps : Array Value) :
    (ps.zip cs.toArray).foldl (fun (tmps : Array Value) (x : Nat × Value) => tmps.setIfInBounds x.1 x.2) tmps = (ps.toList.zip cs).foldl (fun (tmps : Array Value) (x : Nat × Value) => tmps.setIfInBounds x.1 x.2) tmps := by
  rw [← Array.foldl_toList, Array.toList_zip]
theorem yield_step (hE : EnvOk E P I) (hs : Sound E P I ih) {id : Nat} {args : List AV} {H : AHeap} {r : CRes} {M : List MEnt} {w : World} {cargs : List Value} {m : MEnt}
    (h : stepA E ih (.yield id args H) = some (.call r)) (st : St E I M H w) (ha : VRels M args cargs) (hm : M[id]? = some m) :
    ∃ f tmps assign body, (Instr.yield m.block cargs.toArray).run P w = .ok (.round m.block f tmps assign body) w ∧ RoundIn Fence.wide 0 P m.block f tmps assign body w (CallPost M H w r) := by
  simp only [stepA] at h
  split at h
  case h_2 => cases h
  rename_i pend n t ps assign body d hget
  split at h
  · cases h
  rename_i t' ht'
  obtain ⟨L, e1, e2, e3, e4, e5, e6, e7, e8, e9⟩ := getLoop_rel st.hr hm hget
  subst e7
  obtain ⟨k1, k2, k3⟩ := setParams_rel ps args cargs t t' L.tmps ht' ha e8
  have hsz : cargs.toArray.size = L.params.size := by rw [show L.params.size = L.params.toList.length from Array.length_toList.symm, e4, k1]; simp
  have hy := run_yield (P := P) (args := cargs.toArray) e1 hsz
  rw [e5, e6] at hy
  refine ⟨_, _, _, _, hy, roundIn_of_wpIn trivial ?_⟩
  rw [show (L.params.zip cargs.toArray).foldl (fun tmps x => match x with | (t, a) => tmps.setIfInBounds t a) L.tmps = (ps.zip cargs).foldl (fun (tmps : Array Value) (x : Nat × Value) => tmps.setIfInBounds x.1 x.2) L.tmps by rw [← e4]; exact zip_fold _ _ _]
  split at h
  case h_2 => cases h
  rename_i fr1 H1 hc1
  refine wpIn_mono (F := FF (some m.block)) (codeA_sound (ro := some m.block) hE hs _ _ _ _ _ _ M w _ hc1 st ⟨rfl, k2, k3, .nil⟩) ?_
  rintro ex a1 w1 ⟨M1, x1, x2, x3, x4⟩
  simp only [ERel] at x3; subst x3
  split at h
  case h_2 => cases h
  rename_i pend1 m1 u1 ps1 as1 bo1 d1 hget1
  have hm1 := pre_get x1.pre hm
  obtain ⟨L1, f1, f2, f3, _⟩ := getLoop_rel x2 hm1 hget1
  obtain ⟨y1, y2⟩ := putLoop x2 hm1 hget1 f1 (st' := .busy) (pend' := pend1) (cst := .busy) (cp := L1.pending) rfl f3
  refine ⟨_, run_beginRound f1 f2, ?_⟩
  split at h
  case h_2 => cases h
  rename_i e fr2 H2 hc2
  refine wpIn_mono (F := FF (some m.block)) (codeA_sound (ro := some m.block) hE hs _ _ _ _ _ _ M1 _ _ hc2 ((st.next hE x1 x2).next hE y2 y1) x4) ?_
  rintro ex a2 w2 ⟨M2, z1, z2, z3, z4⟩
  split at h
  case h_2 => cases h
  rename_i st2 pend2 m2 u2 ps2 as2 bo2 d2 hget2
  have hm2 := pre_get z1.pre hm1
  obtain ⟨L2, g1, g2, g3, _⟩ := getLoop_rel z2 hm2 hget2
  have xx := (x1.trans y2).trans z1
  cases e with
  | normal =>
    simp only [ERel] at z3; subst z3
    simp only [Option.some.injEq, TRes.call.injEq] at h; subst h
    obtain ⟨q1, q2⟩ := putLoop z2 hm2 hget2 g1 (st' := .ready) (pend' := none) (cst := .ready) (cp := none) rfl rfl
    exact ⟨_, _, run_endRound none g1, _, _, M2, rfl, xx.trans q2, q1, rfl⟩
  | ret =>
    simp only [ERel] at z3; subst z3
    simp only [Option.some.injEq, TRes.call.injEq] at h; subst h
    obtain ⟨q1, q2⟩ := putLoop z2 hm2 hget2 g1 (st' := .done) (pend' := some .ret) (cst := .done) (cp := some .ret) rfl rfl
    exact ⟨_, _, run_endRound (some .ret) g1, _, _, M2, rfl, xx.trans q2, q1, rfl⟩
  | exit i =>
    simp only [ERel] at z3; subst z3
    simp only [Option.some.injEq, TRes.call.injEq] at h; subst h
    obtain ⟨q1, q2⟩ := putLoop z2 hm2 hget2 g1 (st' := .done) (pend' := some (.exit i)) (cst := .done) (cp := some (.exit i)) rfl rfl
    exact ⟨_, _, run_endRound (some (.exit i)) g1, _, _, M2, rfl, xx.trans q2, q1, rfl⟩
  | panic v => cases h
theorem sound_step (hE : EnvOk E P I) (hs : Sound E P I ih) : Sound E P I (stepA E ih) where
  loop := by
    intro ro c fr H e fr' H' M w a h st hf
    simp only [stepA, codeA] at h
    refine loopWp_of ?_
    split at h
    · rename_i fr1 H1 hx
      refine wpIn_mono (codeA_sound hE hs c fr H _ _ _ M w a hx st hf) ?_
      rintro ex a1 w1 ⟨M1, x1, x2, x3, x4⟩
      simp only [ERel] at x3; subst x3
      intro b k cs hro hb hr
      obtain ⟨e2, a2, w2, q, r⟩ := hs.loop ro c fr1 H1 e fr' H' M1 w1 a1 h (st.next hE x1 x2) x4 b k cs hro hb hr
      exact ⟨e2, a2, w2, q.after x1, r⟩
    · rename_i hne
      refine wpIn_mono (codeA_sound hE hs c fr H e fr' H' M w a h st hf) fun ex a1 w1 hp => post_then (fun he => hne fr' H' (by rw [h, he])) hp
  call := fun _ _ _ _ _ _ _ h st ha => call_step hE hs h st ha
  dcall := fun _ _ _ _ _ _ _ _ _ _ h st ha hu => dcall_step hE hs h st ha hu
  yield := fun _ _ _ _ _ _ _ _ h st ha hm => yield_step hE hs h st ha hm
theorem sound_run (hE : EnvOk E P I) : ∀ n, Sound E P I (run E n)
  | 0 => ⟨fun _ _ _ _ _ _ _ _ _ _ h => (by cases h), fun _ _ _ _ _ _ _ h => (by cases h), fun _ _ _ _ _ _ _ _ _ _ h => (by cases h), fun _ _ _ _ _ _ _ _ h => (by cases h)⟩
  | n + 1 => sound_step hE (sound_run hE n)
theorem run_sound (hE : EnvOk E P I) {n : Nat} {f : FuncId} {args : List AV} {H : AHeap} {r : CRes} (h : run E n (.call f args H) = some (.call r)) {M : List MEnt} {w : World} {cargs : List Value} (st : St E I M H w) (ha : VRels M args cargs) :
    CallsA P f cargs M H w r := (sound_run hE n).call f args H r M w cargs h st ha
end
end Go.Vai
end
section
namespace Go.Vai
def adOf (P : Program) (t : Nat) : TypeDesc → AD
  | .int k => .int k
  | .bool => .bool
  | .string => .str
  | .pointer e => .ptr e
  | .slice e => .slice e
  | .array n e => .array n e
  | .struct fs => .struct (fs.toList.map fun f => (f.offset, f.type)) (fs.toList.all (fun f => f.name != "_") && (!(P.stoodInHeld t) && !(P.eqGuardType P.depth t)))
  | .func _ _ _ => .func
  | .interface _ => .iface
  | .unsafePointer => .uptr
  | .map k e => .map k e
  | _ => .other
def zeroOk (d : TypeDesc) (z : Value) : Bool :=
  bif isAggD d then (match z with | .agg _ => true | _ => false) else z.oneCell'
def fieldsOk (P : Program) : TypeDesc → Bool
  | .struct fs => fs.toList.all fun f => (P.info? f.type).isSome
  | _ => true
def tyOf (P : Program) (t : Nat) : Option ATy :=
  match P.info? t, P.underlying t with
  | some i, some d => match i.zero with
    | some z => match ofCells z.cells.toList with
      | some zs => bif Nat.beq z.cells.size i.size && (zeroOk d z && fieldsOk P d) then
          some { d := adOf P t d, size := i.size, bytes := i.bytes, zero := zs, agg := isAggD d, cmp := i.comparable } else none
      | none => none
    | none => none
  | _, _ => none
def memN (n : Nat) : List Nat → Bool
  | [] => false
  | x :: xs => Nat.beq n x || memN n xs
def fnOf (P : Program) (skip : List Nat) (f : Nat) : Option AFunc :=
  match P.funcs[f]? with
  | some fn => match fn.body with
    | some c => bif memN f skip then none else some { ntmps := fn.ntmps, body := c, results := fn.results.toList }
    | none => none
  | none => none
def namesOk (skip : List Nat) : List Func → Nat → Bool
  | [], _ => true
  | fn :: fs, i => (memN i skip || !(fn.name == "runtime.NumGoroutine")) && namesOk skip fs (i + 1)
def envOf (P : Program) (ng : Nat) (skip : List Nat) (sm : Nat → List AV → AHeap → Option (AV × AHeap)) : Env := { ng, ra := fun e u n off k => liesAt P P.depth e (n / P.cellsOf e) off u k, ty := tyOf P, fn := fnOf P skip, sm }
theorem adOf_rel (P : Program) (t : Nat) (d : TypeDesc) : DRel P t (adOf P t d) d := by
  cases d <;> simp only [adOf, DRel]
  case struct fs =>
    refine ⟨fs, rfl, rfl, fun h => ?_⟩
    simp only [Bool.and_eq_true, Bool.not_eq_true', List.all_eq_true, bne_iff_ne, ne_eq] at h
    exact ⟨h.1, h.2.1, h.2.2⟩
  all_goals first | exact ⟨_, _, _, rfl⟩ | exact ⟨_, rfl⟩ | (intro ms h; cases h)
theorem tysOk_of (P : Program) (ng : Nat) (skip : List Nat) (sm : Nat → List AV → AHeap → Option (AV × AHeap)) : TysOk (envOf P ng skip sm) P := by
  have main : ∀ t ti, tyOf P t = some ti → ∃ i d z, TyOk P t ti i d z ∧ fieldsOk P d = true := by
    intro t ti h
    unfold tyOf at h
    split at h
    case h_2 => cases h
    rename_i i d hi hd
    split at h
    case h_2 => cases h
    rename_i z hz
    split at h
    case h_2 => cases h
    rename_i zs hzs
    simp only [Bool.cond_eq_ite, Bool.and_eq_true, Nat.beq_eq] at h
    split at h
    case isFalse => cases h
    rename_i hc
    simp only [Option.some.injEq] at h
    subst h
    refine ⟨i, d, z, ⟨hi, hd, adOf_rel P t d, rfl, rfl, hz, ofCells_rel [] _ _ hzs, hc.1, rfl, fun ha => ?_, fun ha => ?_, fun h => h⟩, hc.2.2⟩
    · have := hc.2.1
      simp only [zeroOk] at this
      simp only at ha
      rw [ha] at this
      simp only [cond_true] at this
      cases z <;> simp_all
    · have := hc.2.1
      simp only [zeroOk] at this
      simp only at ha
      rw [ha] at this
      simpa using this
  refine ⟨fun e u n off k h => h, fun t ti h => ?_, fun t ti F h hu f hf => ?_⟩
  · obtain ⟨i, d, z, r, _⟩ := main t ti h
    exact ⟨i, d, z, r⟩
  · obtain ⟨i, d, z, r, fo⟩ := main t ti h
    rw [r.und] at hu
    cases hu
    simp only [fieldsOk, List.all_eq_true] at fo
    exact Option.isSome_iff_exists.1 (fo f hf)
theorem namesOk_at {skip : List Nat} : ∀ (fs : List Func) (i : Nat), namesOk skip fs i = true → ∀ (k : Nat) (fn : Func), fs[k]? = some fn → memN (i + k) skip = false → (fn.name == "runtime.NumGoroutine") = false := by
  intro fs
  induction fs with
  | nil => intro i _ k fn h; simp at h
  | cons g fs ih =>
    intro i h k fn hk hm
    simp only [namesOk, Bool.and_eq_true, Bool.or_eq_true, Bool.not_eq_true'] at h
    cases k with
    | zero =>
      simp at hk; subst hk
      rcases h.1 with h1 | h1
      · rw [Nat.add_zero] at hm; rw [hm] at h1; cases h1
      · exact h1
    | succ k => exact ih (i + 1) h.2 k fn (by simpa using hk) (by rw [← hm]; congr 1; omega)
theorem fnsOk_of {P : Program} {ng : Nat} {skip : List Nat} {sm : Nat → List AV → AHeap → Option (AV × AHeap)} (hN : namesOk skip P.funcs.toList 0 = true) : ∀ f fn, (envOf P ng skip sm).fn f = some fn → ∃ Fn, FnOk P f fn Fn := by
  intro f fn h
  simp only [envOf, fnOf] at h
  split at h
  case h_2 => cases h
  rename_i Fn hF
  split at h
  case h_2 => cases h
  rename_i c hc
  cases hm : memN f skip with
  | true => simp [hm] at h
  | false =>
    simp only [hm, cond_false, Option.some.injEq] at h
    subst h
    exact ⟨Fn, hF, hc, rfl, rfl, namesOk_at _ 0 hN f Fn (by simpa using hF) (by simpa using hm)⟩
def mGlob : Nat → Nat → List MEnt
  | 0, _ => []
  | n + 1, i => ⟨i, 0, 0, 0⟩ :: mGlob n (i + 1)
theorem mGlob_len : ∀ (n i : Nat), (mGlob n i).length = n
  | 0, _ => rfl
  | n + 1, i => by simp [mGlob, mGlob_len n (i + 1)]
theorem mGlob_get : ∀ (n i g : Nat), g < n → (mGlob n i)[g]? = some ⟨i + g, 0, 0, 0⟩
  | 0, _, _, h => by omega
  | n + 1, i, 0, _ => by simp [mGlob]
  | n + 1, i, g + 1, h => by
    simp only [mGlob, List.getElem?_cons_succ]
    rw [mGlob_get n (i + 1) g (by omega)]
    congr 2; omega
def bare (ng : Nat) : AHeap := { objs := .nil, next := ng }
theorem grel_glob (E : Env) : GRel E (mGlob E.ng 0) := fun g hg => ⟨_, mGlob_get E.ng 0 g hg, by simp, rfl⟩
def TRes.isB (b : Bool) : Option TRes → Bool
  | some (.call (.ret (.bool c) _)) => b == c
  | _ => false
theorem TRes.isB_some {b : Bool} {r : Option TRes} (h : TRes.isB b r = true) : ∃ H, r = some (.call (.ret (.bool b) H)) := by
  unfold TRes.isB at h
  split at h
  · simp only [beq_iff_eq] at h; subst h; exact ⟨_, rfl⟩
  · cases h
structure Keeps (w w' : World) : Prop where
  size : w.heap.size ≤ w'.heap.size
  os : w'.os = w.os
  tape : w'.tape = w.tape
  output : w'.output = w.output
  old : ∀ b, b < w.heap.size → w'.heap[b]? = w.heap[b]?
theorem Ext.keeps {ng : Nat} {w w' : World} {M' : List MEnt} {H' : AHeap} (h : Ext (mGlob ng 0) (bare ng) w M' H' w') : Keeps w w' :=
  ⟨h.size, h.os, h.tape, h.output, fun b hb => (h.old b hb (fun ⟨id, o, m, e, _⟩ => (by cases e))).1⟩
end Go.Vai
end
section
namespace Go.Vai
def idxI (c : Nat) : List UInt8 → Nat → Int
  | [], _ => .negSucc 0
  | a :: l, k => bif Nat.beq a.toNat c then .ofNat k else idxI c l (k + 1)
def cntI (c : Nat) : List UInt8 → Nat → Nat
  | [], n => n
  | a :: l, n => bif Nat.beq a.toNat c then cntI c l (n + 1) else cntI c l n
theorem beq8 (a : UInt8) {c : Nat} (h : c < 256) : Nat.beq a.toNat c = (a == c.toUInt8) := by
  rw [Bool.eq_iff_iff, Nat.beq_eq, beq_iff_eq]
  have e : c.toUInt8.toNat = c := by simp; omega
  constructor
  · intro h1; apply UInt8.toNat_inj.1; omega
  · intro h1; rw [h1, e]
theorem idxI_eq {c : Nat} (h : c < 256) : ∀ (l : List UInt8) (k : Nat), idxI c l k = if Lib.indexByte l c.toUInt8 = -1 then -1 else Lib.indexByte l c.toUInt8 + k := by
  intro l
  induction l with
  | nil => intro k; simp [idxI, Lib.indexByte]
  | cons a l ih =>
    intro k
    simp only [idxI, Lib.indexByte, beq8 a h]
    by_cases hb : (a == c.toUInt8) = true
    · simp [hb]
    · have hb : (a == c.toUInt8) = false := by simpa using hb
      simp only [hb, cond_false, Bool.false_eq_true, if_false, ih]
      have := Lib.indexByte_ge l c.toUInt8
      by_cases h1 : Lib.indexByte l c.toUInt8 = -1
      · simp [h1]
      · have h2 : (Lib.indexByte l c.toUInt8 == -1) = false := by simpa using h1
        simp only [h1, h2, if_false, Bool.false_eq_true]
        rw [if_neg (by omega)]
        omega
theorem idxI_zero {c : Nat} (h : c < 256) (l : List UInt8) : idxI c l 0 = Lib.indexByte l c.toUInt8 := by
  rw [idxI_eq h]
  split
  · rename_i h; rw [h]
  · simp
theorem cntI_eq {c : Nat} (h : c < 256) : ∀ (l : List UInt8) (n : Nat), cntI c l n = n + Lib.countByte l c.toUInt8 := by
  intro l
  induction l with
  | nil => intro n; simp [cntI, Lib.countByte]
  | cons a l ih =>
    intro n
    simp only [cntI, beq8 a h, Lib.countByte, List.count_cons]
    cases hb : (a == c.toUInt8)
    · simp [ih, Lib.countByte]
    · simp only [cond_true, ih, Lib.countByte, if_true]; omega
def extName : Nat → String
  | 1 => "internal/bytealg.IndexByteString"
  | 2 => "internal/bytealg.CountString"
  | 3 => "internal/abi.NoEscape"
  | 4 => "internal/bytealg.MakeNoZero"
  | 5 => "internal/bytealg.IndexByte"
  | _ => ""
noncomputable def extA (k e : Nat) (args : List AV) (H : AHeap) : Option (AV × AHeap) :=
  match k, args with
  | 1, [.str s, .int .u8 c] => match bndV (.int .u8 c) 255 with
    | some n => some (.int .i64 (idxI n s 0), H)
    | none => none
  | 2, [.str s, .int .u8 c] => match bndV (.int .u8 c) 255 with
    | some n => some (.int .i64 (.ofNat (cntI n s 0)), H)
    | none => none
  | 3, [x] => some (x, H)
  | 4, [.int .i64 n] => match bndV (.int .i64 n) 281474976710656 with
    | some n => some (.sl H.next 0 n none, H.new (.cells n .nil e (some 1) 0 false false))
    | none => none
  | 5, [.sl id off len cap, .int .u8 c] => match bndV (.int .u8 c) 255, (sliceCells H 1 len (.sl id off len cap)).bind bytesA with
    | some n, some s => some (.int .i64 (idxI n s 0), H)
    | _, _ => none
  | 5, [.nils, .int .u8 c] => match bndV (.int .u8 c) 255 with
    | some _ => some (.int .i64 (.negSucc 0), H)
    | none => none
  | _, _ => none
noncomputable def extAt : List (Nat × Nat × Nat) → Nat → Option (Nat × Nat)
  | [], _ => none
  | (f, k, e) :: r, g => bif Nat.beq f g then some (k, e) else extAt r g
def extOk1 (P : Program) (x : Nat × Nat × Nat) : Bool :=
  match P.funcs[x.1]? with
  | some fn => (fn.body.isNone && (decide (fn.name = extName x.2.1) && (Extern.findNext fn).isNone)) &&
      (bif Nat.beq x.2.1 4 then (match fn.resultTypes.toList with
        | [t] => (match P.underlying t with | some (.slice e) => Nat.beq e x.2.2 | _ => false)
        | _ => false) else true)
  | none => false
def extOk (P : Program) (l : List (Nat × Nat × Nat)) : Bool := l.all (extOk1 P)
theorem extAt_mem : ∀ {l : List (Nat × Nat × Nat)} {g : Nat} {r : Nat × Nat}, extAt l g = some r → (g, r) ∈ l := by
  intro l
  induction l with
  | nil => intro g r h; cases h
  | cons x l ih =>
    intro g r h
    obtain ⟨f, k, e⟩ := x
    simp only [extAt, Bool.cond_eq_ite, Nat.beq_eq] at h
    split at h
    · rename_i hf
      simp only [Option.some.injEq] at h; subst h; subst hf
      exact List.mem_cons_self
    · exact List.mem_cons_of_mem _ (ih h)
theorem find1 {fn : Func} (h : fn.name = "internal/bytealg.IndexByteString") : Extern.find fn = some Extern.BytealgIndexByte.indexByte := by
  have a : Extern.allGenericRows.lookup "internal/bytealg.IndexByteString" = none := by kernel_rfl
  have b : Extern.allTypedRows.lookup "internal/bytealg.IndexByteString" = none := by kernel_rfl
  have c : Extern.allRows.lookup "internal/bytealg.IndexByteString" = some Extern.BytealgIndexByte.indexByte := by kernel_rfl
  simp [Extern.find, h, a, b, c]
theorem find2 {fn : Func} (h : fn.name = "internal/bytealg.CountString") : Extern.find fn = some Extern.BytealgCount.count := by
  have a : Extern.allGenericRows.lookup "internal/bytealg.CountString" = none := by kernel_rfl
  have b : Extern.allTypedRows.lookup "internal/bytealg.CountString" = none := by kernel_rfl
  have c : Extern.allRows.lookup "internal/bytealg.CountString" = some Extern.BytealgCount.count := by kernel_rfl
  simp [Extern.find, h, a, b, c]
theorem find3 {fn : Func} (h : fn.name = "internal/abi.NoEscape") : Extern.find fn = some Extern.AbiNoEscape.same := by
  have a : Extern.allGenericRows.lookup "internal/abi.NoEscape" = none := by kernel_rfl
  have b : Extern.allTypedRows.lookup "internal/abi.NoEscape" = none := by kernel_rfl
  have c : Extern.allRows.lookup "internal/abi.NoEscape" = some Extern.AbiNoEscape.same := by kernel_rfl
  simp [Extern.find, h, a, b, c]
theorem find4 {fn : Func} (h : fn.name = "internal/bytealg.MakeNoZero") : Extern.find fn = some (Extern.BytealgMakeNoZero.makeNoZero fn.params fn.resultTypes) := by
  have a : Extern.allGenericRows.lookup "internal/bytealg.MakeNoZero" = none := by kernel_rfl
  have b : Extern.allTypedRows.lookup "internal/bytealg.MakeNoZero" = some Extern.BytealgMakeNoZero.makeNoZero := by kernel_rfl
  simp [Extern.find, h, a, b]
theorem find5 {fn : Func} (h : fn.name = "internal/bytealg.IndexByte") : Extern.find fn = some Extern.BytealgIndexByte.indexByte := by
  have a : Extern.allGenericRows.lookup "internal/bytealg.IndexByte" = none := by kernel_rfl
  have b : Extern.allTypedRows.lookup "internal/bytealg.IndexByte" = none := by kernel_rfl
  have c : Extern.allRows.lookup "internal/bytealg.IndexByte" = some Extern.BytealgIndexByte.indexByte := by kernel_rfl
  simp [Extern.find, h, a, b, c]
theorem bndV_some {k : IntKind} {i : Int} {top n : Nat} (h : bndV (.int k i) top = some n) : i = n ∧ n ≤ top := by
  unfold bndV at h
  simp only [Bool.cond_eq_ite, ilt_iff, decide_eq_true_eq, Nat.ble_eq] at h
  split at h
  · cases h
  · split at h
    · simp only [Option.some.injEq] at h; omega
    · cases h
theorem grown_drew2_alloc (w : World) (o : Obj) : w.grownBy (w.drew.drew.alloc o) none := by
  refine ⟨rfl, rfl, rfl, ?_, fun k hk _ => ?_⟩
  · show w.heap.size ≤ (w.heap.push o).size
    simp
  · show (w.heap.push o)[k]? = _
    simp [Array.getElem?_push, Nat.ne_of_lt hk]
theorem slice_bytes {M : List MEnt} {H : AHeap} {w : World} (hr : HRel M H w) {id off len : Nat} {cap : Option Nat} {cs : List AV} {s : List UInt8} {m : MEnt} (hm : M[id]? = some m) (h : sliceCells H 1 len (.sl id off len cap) = some cs) (hs : bytesA cs = some s) :
    ∃ ns : List Int, ns.length = len ∧ s = Lib.bytesOf ns ∧ ∀ i, i < len → w.cell? ⟨m.block, m.base + off + i, none⟩ = some (.int .u8 (ns.getD i 0)) := by
  simp only [sliceCells] at h
  split at h
  case h_2 => cases h
  rename_i n c e g fz ro mk hget
  rw [Nat.mul_one] at h
  obtain ⟨hlen, hget'⟩ := Tr.getAll_spec _ h
  obtain ⟨cur, e', lo, hi, g1, g2, g3, g4, g5, g6, g7⟩ := hr.blk hget hm
  have hrel : VRels M cs ((List.range len).map fun j => (cur[m.base + (off + j)]?).getD undef) := by
    refine VRels.of (by simp [hlen]) fun j a v ha hv => ?_
    have hj : j < len := by rw [← hlen]; exact (List.getElem?_eq_some_iff.1 ha).1
    obtain ⟨_, cv, h1, h2⟩ := g7 (off + j) a (by rw [hget' j hj]; exact ha)
    have : v = cv := by
      rw [List.getElem?_map, List.getElem?_range hj] at hv
      simp only [Option.map_some, h1, Option.getD_some, Option.some.injEq] at hv
      exact hv.symm
    rw [this]; exact h2
  obtain ⟨ns, e1, e2⟩ := bytesA_rel hs hrel
  have hnl : ns.length = len := by
    have := congrArg List.length e1
    simpa using this.symm
  refine ⟨ns, hnl, e2, fun i hi => ?_⟩
  have h1 : (List.map (Value.int .u8) ns)[i]? = some ((cur[m.base + (off + i)]?).getD undef) := by
    rw [← e1, List.getElem?_map, List.getElem?_range hi]; rfl
  obtain ⟨x, hx⟩ : ∃ x, ns[i]? = some x := ⟨ns[i]'(by omega), List.getElem?_eq_getElem _⟩
  rw [List.getElem?_map, hx] at h1
  simp only [Option.map_some, Option.some.injEq] at h1
  obtain ⟨_, cv, h2, _⟩ := g7 (off + i) (cs[i]'(by omega)) (by rw [hget' i hi]; exact List.getElem?_eq_getElem _)
  rw [h2, Option.getD_some] at h1
  simp only [World.cell?, g1]
  rw [show m.base + off + i = m.base + (off + i) by omega]
  simp [h2, ← h1, hx, List.getD_eq_getElem?_getD]
theorem ext_sound {P : Program} {l : List (Nat × Nat × Nat)} (hl : extOk P l = true) {f k e : Nat} (hf : extAt l f = some (k, e)) {args : List AV} {H : AHeap} {v : AV} {H' : AHeap} {M : List MEnt} {w : World} {cargs : List Value}
    (h : extA k e args H = some (v, H')) (hr : HRel M H w) (ha : VRels M args cargs) : CallsA P f cargs M H w (.ret v H') := by
  have hm := List.all_eq_true.1 hl _ (extAt_mem hf)
  unfold extOk1 at hm
  split at hm
  case h_2 => cases hm
  rename_i fn hfn
  simp only [Bool.and_eq_true, decide_eq_true_eq] at hm
  obtain ⟨⟨hb, hn, hx⟩, ht⟩ := hm
  have hx' : Extern.findNext fn = none := by simpa using hx
  have nn : (fn.name == "runtime.NumGoroutine") = false := by
    rw [hn]
    have : k ≤ 5 := by
      unfold extA at h
      split at h <;> first | omega | cases h
    match k, this with
    | 0, _ | 1, _ | 2, _ | 3, _ | 4, _ | 5, _ => simp [extName]
  have go : ∀ (en : Array Value → Sem Value) (cv : Value) (w' : World) (M' : List MEnt), Extern.find fn = some en → (en cargs.toArray).run P w = .ok cv w' → Ext M H w M' H' w' → HRel M' H' w' → VRel M' v cv → CallsA P f cargs M H w (.ret v H') := by
    intro en cv w' M' hen hrun x1 x2 x3
    refine .inl ⟨cv, w', ?_, v, H', M', rfl, x1, x2, x3⟩
    rw [run_callFunc_extern hfn nn hb hx' hen, hrun]
    rfl
  unfold extA at h
  split at h
  · rename_i s c
    split at h
    case h_2 => cases h
    rename_i n hbn
    obtain ⟨rfl, hn5⟩ := bndV_some hbn
    simp only [Option.some.injEq, Prod.mk.injEq] at h
    obtain ⟨rfl, rfl⟩ := h
    match cargs, ha with
    | [c1, c2], ⟨h1, h2, _⟩ =>
      simp only [VRel] at h1 h2
      subst h1; subst h2
      refine go _ _ w M (find1 hn) (Lib.run_indexByteString ⟨⟨s⟩⟩ _ w) (Ext.refl _ _ _) hr ?_
      simp only [VRel, Int.toNat_natCast]
      rw [idxI_zero (by omega)]
  · rename_i s c
    split at h
    case h_2 => cases h
    rename_i n hbn
    obtain ⟨rfl, hn5⟩ := bndV_some hbn
    simp only [Option.some.injEq, Prod.mk.injEq] at h
    obtain ⟨rfl, rfl⟩ := h
    match cargs, ha with
    | [c1, c2], ⟨h1, h2, _⟩ =>
      simp only [VRel] at h1 h2
      subst h1; subst h2
      refine go _ _ w M (find2 hn) (Lib.run_countString ⟨⟨s⟩⟩ _ w) (Ext.refl _ _ _) hr ?_
      simp only [VRel, Int.toNat_natCast]
      rw [cntI_eq (by omega), Nat.zero_add]
      rfl
  · rename_i x
    simp only [Option.some.injEq, Prod.mk.injEq] at h
    obtain ⟨rfl, rfl⟩ := h
    match cargs, ha with
    | [c1], ⟨h1, _⟩ => exact go _ c1 w M (find3 hn) rfl (Ext.refl _ _ _) hr h1
  · rename_i n
    split at h
    case h_2 => cases h
    rename_i m hbn
    obtain ⟨rfl, hn5⟩ := bndV_some hbn
    simp only [Option.some.injEq, Prod.mk.injEq] at h
    obtain ⟨rfl, rfl⟩ := h
    match cargs, ha with
    | [c1], ⟨h1, _⟩ =>
      simp only [VRel] at h1
      subst h1
      simp only [show Nat.beq 4 4 = true from rfl, cond_true] at ht
      split at ht
      case h_2 => cases ht
      rename_i t hrt
      have hrt : fn.resultTypes = #[t] := by apply Array.ext'; rw [hrt]
      split at ht
      case h_2 => cases ht
      rename_i e' hu
      simp only [Nat.beq_eq] at ht; subst ht
      obtain ⟨cs, hrun, hsz, _⟩ := Lib.run_makeNoZero w fn.params t e' hu m hn5
      obtain ⟨n1, n2⟩ := hr.new (grown_drew2_alloc w (.cells cs e')) (.cells m .nil e' (some 1) 0 false false) ⟨w.heap.size, 0, cs.size, 1⟩ (Nat.le_refl _)
        ⟨cs, e', 0, 0, by show (w.heap.push _)[w.heap.size]? = _; simp, fun _ => ⟨rfl, rfl⟩, by simpa using hsz, fun gs eg => ⟨by cases eg; rfl, rfl, rfl⟩, fun _ i a b c => by omega, fun _ _ => ⟨Nat.zero_le _, Nat.le_refl _⟩, fun i v hv => by simp [Tr.get_nil] at hv⟩
      refine go _ _ _ _ (find4 hn) (by rw [hrt]; exact hrun) n2 n1 ⟨_, cs.size, newAt hr _, rfl, (fun _ e => by cases e), fun _ => ⟨hsz, by simp, Nat.one_pos⟩⟩
  · rename_i id off len cap c
    split at h
    case h_2 => cases h
    rename_i n s hbn hsc
    obtain ⟨rfl, hn5⟩ := bndV_some hbn
    simp only [Option.some.injEq, Prod.mk.injEq] at h
    obtain ⟨rfl, rfl⟩ := h
    match cargs, ha with
    | [c1, c2], ⟨h1, h2, _⟩ =>
      simp only [VRel] at h2
      subst h2
      obtain ⟨m, cc, hmm, rfl, _, _⟩ := h1
      cases hcs : sliceCells H 1 len (.sl id off len cap) with
      | none => rw [hcs] at hsc; cases hsc
      | some cs =>
        rw [hcs] at hsc
        simp only [Option.bind_some] at hsc
        obtain ⟨ns, q1, q2, q3⟩ := slice_bytes hr hmm hcs hsc
        subst q2
        refine go _ _ w M (find5 hn) (Lib.run_indexByteSlice w m.block (m.base + off) len cc ns q1 q3 _) (Ext.refl _ _ _) hr ?_
        simp only [VRel, Int.toNat_natCast]
        rw [idxI_zero (by omega)]
  · rename_i c
    split at h
    case h_2 => cases h
    rename_i n hbn
    obtain ⟨rfl, hn5⟩ := bndV_some hbn
    simp only [Option.some.injEq, Prod.mk.injEq] at h
    obtain ⟨rfl, rfl⟩ := h
    match cargs, ha with
    | [c1, c2], ⟨h1, h2, _⟩ =>
      simp only [VRel] at h1 h2
      subst h1; subst h2
      refine go _ (.int .i64 (-1)) w M (find5 hn) ?_ (Ext.refl _ _ _) hr (by simp [VRel])
      change Sem.run P (do
        let b ← Extern.Bytes.bytesOf (.slice none 0 0)
        let c' ← Extern.Bytes.asByte (.int .u8 (n : Int))
        match (List.range b.size).find? fun i => b[i]! == c' with
        | some i => pure (goInt i)
        | none => pure (goInt (-1))) w = _
      simp [Extern.Bytes.bytesOf, Extern.Bytes.asByte, goInt]
  · cases h
end Go.Vai
end
section
namespace Go.Vai
noncomputable def gHeap (ng : Nat) : List (Nat × List AV) → AHeap
  | [] => bare ng
  | (g, av) :: r => (gHeap ng r).put g (.cells av.length (Tr.nil.putAll 0 av) 0 none 0 true false)
theorem gHeap_next (ng : Nat) : ∀ l, (gHeap ng l).next = ng
  | [] => rfl
  | (_, _) :: r => gHeap_next ng r
theorem gHeap_ro (ng : Nat) : ∀ l id o, (gHeap ng l).get id = some o → o.isRo = true
  | [], _, _, h => by cases h
  | (_, _) :: r, id, o, h => by
    rcases AHeap.get_put h with ⟨_, rfl⟩ | ⟨_, h⟩
    · rfl
    · exact gHeap_ro ng r id o h
theorem gHeap_rel {w : World} {ng : Nat} : ∀ {l : List (Nat × List AV)} {M : List MEnt}, M.length = ng → (∀ g av, (g, av) ∈ l → g < ng ∧ M[g]? = some ⟨g, 0, 0, 0⟩ ∧ ∃ cs e lo hi, w.heap[g]? = some (.cells cs e (lo, hi)) ∧ VRels [] av cs.toList) → HRel M (gHeap ng l) w
  | [], M, hl, _ => ⟨hl, fun id o h => (by cases h), fun i j o p m k h => (by cases h)⟩
  | (g, av) :: r, M, hl, h => by
    have ih := gHeap_rel (l := r) hl fun g av hm => h g av (List.mem_cons_of_mem _ hm)
    obtain ⟨hg, hM, cs, e, lo, hi, hc, hv⟩ := h g av List.mem_cons_self
    refine ⟨ih.len, fun id o ho => ?_, fun i j o p m k hi hj _ _ _ _ => ⟨gHeap_ro ng _ i o hi, gHeap_ro ng _ j p hj⟩⟩
    rcases AHeap.get_put ho with ⟨rfl, rfl⟩ | ⟨_, ho⟩
    · refine ⟨_, hM, cs, e, lo, hi, hc, (fun e => by cases e), by have := hv.length; simp at this ⊢; omega, (fun gs e => by cases e), (fun e => by cases e), (fun e => by cases e), fun i v hv' => ?_⟩
      rcases Tr.get_putAll _ hv' with ⟨q, rfl, hq⟩ | ⟨_, hu⟩
      · obtain ⟨x, hx, rr⟩ := hv.get q v hq
        exact ⟨by simpa using (List.getElem?_eq_some_iff.1 hq).1, x, by simpa using hx, rr.mono (List.nil_prefix)⟩
      · simp [Tr.get_nil] at hu
    · exact ih.obj id o ho
def GlobOk (gl : List (Nat × List AV)) (w : World) : Prop := ∀ g av, (g, av) ∈ gl → ∃ cs e lo hi, w.heap[g]? = some (.cells cs e (lo, hi)) ∧ VRels [] av cs.toList
theorem GlobOk.ext {gl : List (Nat × List AV)} {w0 w : World} (h : GlobOk gl w0) {M0 M : List MEnt} {n : Nat} {H : AHeap} (x : Ext M0 (gHeap n gl) w0 M H w) : GlobOk gl w := fun g av hm => by
  obtain ⟨cs, e, lo, hi, h1, h2⟩ := h g av hm
  have hlt : g < w0.heap.size := (Array.getElem?_eq_some_iff.1 h1).1
  exact ⟨cs, e, lo, hi, by rw [(x.old g hlt (fun ⟨id, o, m, e, r, _⟩ => by rw [gHeap_ro n gl id o e] at r; cases r)).1]; exact h1, h2⟩
theorem Keeps.ext {w w' : World} (k : Keeps w w') {M : List MEnt} {H : AHeap} (hr : HRel M H w) : Ext M H w M H w' ∧ HRel M H w' :=
  ⟨⟨List.prefix_refl _, k.size, k.os, k.tape, k.output, fun b hb hn => ⟨k.old b hb, hn⟩, fun _ _ h => h⟩,
   ⟨hr.len, fun id o e => by
      obtain ⟨m, hm, r⟩ := hr.obj id o e
      exact ⟨m, hm, r.carry (List.prefix_refl _) (k.old _ r.lt)⟩, hr.inj⟩⟩
end Go.Vai
end
section
namespace Go.Vai
open Go.RowKit
inductive CK where
  | int (k : IntKind) | str | bool
def CK.is : CK → AV → Prop
  | .int k, a => ∃ n, a = .int k n ∧ (Lit.int k n).wf = true
  | .str, a => ∃ s, a = .str s ∧ s.length ≤ maxLen
  | .bool, a => ∃ b, a = .bool b
def Shapes : List CK → List AV → Prop
  | [], [] => True
  | k :: ks, a :: asz => k.is a ∧ Shapes ks asz
  | _, _ => False
theorem Shapes.append : ∀ {ks ls : List CK} {asz bs : List AV}, Shapes ks asz → Shapes ls bs → Shapes (ks ++ ls) (asz ++ bs)
  | [], _, [], _, _, h => h
  | _ :: _, _, _ :: _, _, h, g => ⟨h.1, Shapes.append h.2 g⟩
section
variable {H : Type} {enc : TypeId × Value → H} {P : Program} {w : World} {base : Nat} {spare : Nat → Bool} {held : Bool}
theorem args_below (hl : laidOutB P = true) {W W' : World} (hb : Below W.heap.size W W') : ∀ {ts : List TypeId} {vs : List Value} {ds : List (DataW H)} {ps : List MemPlace}, (ts.all fun t => P.readableRec t && decide (t < P.types.size)) = true →
    DataW.TrodAll enc P W 0 (fun _ => true) true ts vs ds ps → (∀ x ∈ ps, x.block < W.heap.size) → DataW.TrodAll enc P W' 0 (fun b => decide (b < W.heap.size)) true ts vs ds ps
  | [], [], [], _, _, h, _ => h
  | [], [], _ :: _, _, _, h, _ => h.elim
  | [], _ :: _, _, _, _, h, _ => h.elim
  | _ :: _, [], _, _, _, h, _ => h.elim
  | _ :: _, _ :: _, [], _, _, h, _ => h.elim
  | t :: ts, v :: vs, d :: ds, ps, ha, h, hlt => by
    obtain ⟨p, q, h1, h2, e⟩ := h
    simp only [List.all_cons, Bool.and_eq_true, decide_eq_true_eq] at ha
    subst e
    exact ⟨p, q, Below.trod hl ha.1.1 ha.1.2 h1 hb (fun x hx => hlt x (List.mem_append_left _ hx)), args_below hl hb ha.2 h2 (fun x hx => hlt x (List.mem_append_right _ hx)), rfl⟩
theorem Keeps.below {w w' : World} (k : Keeps w w') : Below w.heap.size w w' := ⟨k.os, k.tape, k.output, k.size, k.old⟩
theorem law_post {f : Func} {s : ChangeSpec} (hl : laidOutB P = true) (hts : (f.params.toList.all fun t => P.readableRec t && decide (t < P.types.size)) = true) {tb : TypeId} (hr : f.resultTypes = #[tb]) (htb : P.underlying tb = some .bool)
    {W W' : World} {args : Array Value} {ds gs : List (DataW H)} {before : List MemPlace} (hvars : s.vars = []) (hfn : (s.fn H (ds ++ gs)).results = [.lit (.bool true)] ∧ (s.fn H (ds ++ gs)).args = ds ∧ (s.fn H (ds ++ gs)).vars = [])
    (hW : DataW.Whole enc P f.params.toList s.vars false W args.toList ds gs before) (hb : Below W.heap.size W W') : s.post enc P f false true false false W args (.bool true) W' := by
  have hW' := hW
  obtain ⟨p, q, hA, hV, rfl, _, _⟩ := hW
  rw [hvars] at hV
  obtain ⟨rfl, rfl⟩ := ChangeShapes.trodVars_none hV
  have hlt : ∀ x ∈ p, x.block < W.heap.size := fun x hx => hW'.lt x (by simp [hx])
  refine ⟨_, _, _, [], p, [], hW', ?_, ?_, ?_, hb.frame _, fun h => by cases h⟩
  · rw [hr, hfn.1]
    exact ChangeShapes.trodAll_mk1 (shut_bool htb _)
  · rw [hfn.2.1]
    exact args_below hl hb hts hA hlt
  · rw [hvars, hfn.2.2]; exact rfl
end
end Go.Vai
end
section
namespace Go.Vai
def catD (P : Program) (rec : TypeId → DataW Unit → Option (List AV)) : List (TypeId × DataW Unit) → Option (List AV)
  | [] => some []
  | (t, d) :: r => match rec t d with
    | some av => bif Nat.beq av.length (P.cellsOf t) then (match catD P rec r with
        | some bs => some (av ++ bs)
        | none => none) else none
    | none => none
def zipD : List (TypeId × Nat) → List (DataW Unit) → Nat → (TypeId → Nat) → Option (List (TypeId × DataW Unit))
  | [], [], _, _ => some []
  | (t, o) :: fs, d :: ds, at_, c => bif Nat.beq o at_ then (match zipD fs ds (at_ + c t) c with
      | some r => some ((t, d) :: r)
      | none => none) else none
  | _, _, _, _ => none
def cellsD (P : Program) : Nat → TypeId → DataW Unit → Option (List AV)
  | 0, _, _ => none
  | f + 1, t, d => match P.underlying t, d with
    | some (.int k), .lit (.int k' n) => bif sameKind k k' then some [.int k n] else none
    | some .bool, .lit (.bool b) => some [.bool b]
    | some .string, .lit (.string s) => some [.str s]
    | some (.array n e), .agg ps => bif Nat.beq ps.length n && Nat.beq (P.cellsOf t) (n * P.cellsOf e) then catD P (cellsD P f) (ps.map fun d => (e, d)) else none
    | some (.struct fs), .agg ps => match zipD (fs.toList.map fun x => (x.type, x.offset)) ps 0 P.cellsOf with
      | some l => bif Nat.beq (P.cellsOf t) (l.map fun y => P.cellsOf y.1).sum then catD P (cellsD P f) l else none
      | none => none
    | _, _ => none
section
variable {enc : TypeId × Value → Unit} {P : Program} {w : World} {base : Nat} {spare : Nat → Bool} {held : Bool}
theorem catD_open {rec : TypeId → DataW Unit → Option (List AV)} {n : Nat} (ih : ∀ t d av cs p, rec t d = some av → DataW.trod enc P w base spare held n t cs = some (d, p) → VRels [] av cs) :
    ∀ (l : List (TypeId × DataW Unit)) (o : Nat) (av : List AV) (cs : List Value), catD P rec l = some av → (∀ (i : Nat) x, l[i]? = some x → ∃ p, DataW.trod enc P w base spare held n x.1 ((cs.drop (o + ((l.take i).map fun y => P.cellsOf y.1).sum)).take (P.cellsOf x.1)) = some (x.2, p)) →
      cs.length = o + (l.map fun y => P.cellsOf y.1).sum → VRels [] av (cs.drop o) := by
  intro l
  induction l with
  | nil =>
    intro o av cs h _ hl
    simp only [catD, Option.some.injEq] at h; subst h
    simp at hl
    rw [List.drop_of_length_le (by omega)]; trivial
  | cons x l ihl =>
    intro o av cs h hf hl
    obtain ⟨t, d⟩ := x
    simp only [catD] at h
    split at h
    case h_2 => cases h
    rename_i a1 ha1
    simp only [Bool.cond_eq_ite, Nat.beq_eq] at h
    split at h
    case isFalse => cases h
    split at h
    case h_2 => cases h
    rename_i r hr
    simp only [Option.some.injEq] at h; subst h
    simp only [List.map_cons, List.sum_cons] at hl
    obtain ⟨p, hp⟩ := hf 0 (t, d) rfl
    simp only [List.take_zero, List.map_nil, List.sum_nil, Nat.add_zero] at hp
    have h1 := ih t d a1 _ p ha1 hp
    have h2 := ihl (o + P.cellsOf t) r cs hr (fun i y hy => by
      obtain ⟨q, hq⟩ := hf (i + 1) y (by simpa using hy)
      refine ⟨q, ?_⟩
      rw [← hq]
      simp only [List.take_succ_cons, List.map_cons, List.sum_cons]
      rw [Nat.add_assoc]) (by omega)
    have : cs.drop o = (cs.drop o).take (P.cellsOf t) ++ cs.drop (o + P.cellsOf t) := by
      rw [← List.drop_drop, List.take_append_drop]
    rw [this]
    exact h1.append h2
theorem zipD_spec {c : TypeId → Nat} : ∀ {fs : List (TypeId × Nat)} {ds : List (DataW Unit)} {at_ : Nat} {l : List (TypeId × DataW Unit)}, zipD fs ds at_ c = some l →
    l.length = fs.length ∧ l.length = ds.length ∧ ∀ (i : Nat) x, l[i]? = some x → fs[i]? = some (x.1, at_ + ((l.take i).map fun y => c y.1).sum) ∧ ds[i]? = some x.2
  | [], [], at_, l, h => by
    simp only [zipD, Option.some.injEq] at h; subst h
    exact ⟨rfl, rfl, fun i x hx => by simp at hx⟩
  | [], _ :: _, _, _, h => by simp [zipD] at h
  | _ :: _, [], _, _, h => by simp [zipD] at h
  | (t, o) :: fs, d :: ds, at_, l, h => by
    simp only [zipD, Bool.cond_eq_ite, Nat.beq_eq] at h
    split at h
    case isFalse => cases h
    rename_i ho
    split at h
    case h_2 => cases h
    rename_i r hr
    simp only [Option.some.injEq] at h; subst h; subst ho
    obtain ⟨a, b, e⟩ := zipD_spec hr
    refine ⟨by simp [a], by simp [b], fun i x hx => ?_⟩
    cases i with
    | zero => simp at hx; subst hx; simp
    | succ i =>
      obtain ⟨p, q⟩ := e i x (by simpa using hx)
      refine ⟨?_, by simpa using q⟩
      simp only [List.getElem?_cons_succ, p, List.take_succ_cons, List.map_cons, List.sum_cons]
      rw [Nat.add_assoc]
theorem sum_const (n c : Nat) : (List.map (fun _ : Nat => c) (List.range n)).sum = n * c := by
  induction n with
  | zero => simp
  | succ n ih => rw [List.range_succ, List.map_append, List.sum_append, ih]; simp [Nat.succ_mul]
theorem cellsD_open : ∀ (f n : Nat) (t : TypeId) (d : DataW Unit) (av : List AV) (cs : List Value) (p : List MemPlace), cellsD P f t d = some av → DataW.trod enc P w base spare held n t cs = some (d, p) → VRels [] av cs := by
  intro f
  induction f with
  | zero => intro n t d av cs p h; simp [cellsD] at h
  | succ f ih =>
    intro n t d av cs p h hx
    simp only [cellsD] at h
    split at h
    · rename_i k k' m hu
      simp only [Bool.cond_eq_ite, sameKind_iff] at h
      split at h
      case isFalse => cases h
      simp only [Option.some.injEq] at h; subst h
      obtain ⟨m', rfl, e, _⟩ := DataW.trod_int hu hx
      simp only [Prod.mk.injEq, DataW.lit.injEq, Lit.int.injEq] at e
      obtain ⟨⟨_, rfl⟩, _⟩ := e
      exact ⟨rfl, trivial⟩
    · rename_i b hu
      simp only [Option.some.injEq] at h; subst h
      obtain ⟨b', rfl, e⟩ := DataW.trod_bool hu hx
      simp only [Prod.mk.injEq, DataW.lit.injEq, Lit.bool.injEq] at e
      obtain ⟨rfl, _⟩ := e
      exact ⟨rfl, trivial⟩
    · rename_i s hu
      simp only [Option.some.injEq] at h; subst h
      obtain ⟨s', rfl, e, _⟩ := DataW.trod_string hu hx
      simp only [Prod.mk.injEq, DataW.lit.injEq, Lit.string.injEq] at e
      obtain ⟨rfl, _⟩ := e
      exact ⟨by simp [VRel], trivial⟩
    · rename_i k e ps hu
      simp only [Bool.cond_eq_ite, Bool.and_eq_true, Nat.beq_eq] at h
      split at h
      case isFalse => cases h
      rename_i hlen
      obtain ⟨hlen, hct⟩ := hlen
      obtain ⟨xs, m, rfl, hx1, hcl, hxl, hel⟩ := DataW.trod_array hu hx
      simp only [Prod.mk.injEq, DataW.agg.injEq] at hx1
      obtain ⟨rfl, _⟩ := hx1
      have sm : ∀ i, i ≤ k → ((((xs.map (·.1)).map fun d => (e, d)).take i).map fun y => P.cellsOf y.1).sum = i * P.cellsOf e := fun i hi => by
        have : ((((xs.map (·.1)).map fun d => (e, d)).take i).map fun y => P.cellsOf y.1) = List.map (fun _ : Nat => P.cellsOf e) (List.range i) := by
          apply List.ext_getElem
          · simp; omega
          · intro j h1 h2; simp
        rw [this, sum_const]
      have key := catD_open (rec := cellsD P f) (n := m) (fun t d av cs p a b => ih m t d av cs p a b) _ 0 av cs h (fun i x hi => by
        simp only [List.getElem?_map, Option.map_eq_some_iff] at hi
        obtain ⟨g, ⟨y, hy, rfl⟩, rfl⟩ := hi
        have hik : i < k := by rw [← hxl]; exact (List.getElem?_eq_some_iff.1 hy).1
        refine ⟨y.2, ?_⟩
        rw [sm i (by omega), Nat.zero_add, hel i hik, hy]) (by
        have := sm k (Nat.le_refl _)
        rw [List.take_of_length_le (by simp; omega)] at this
        rw [Nat.zero_add, this, hcl, hct])
      simpa using key
    · rename_i fs ps hu
      split at h
      case h_2 => cases h
      rename_i l hl
      simp only [Bool.cond_eq_ite, Nat.beq_eq] at h
      split at h
      case isFalse => cases h
      rename_i hct
      obtain ⟨z1, z2, z3⟩ := zipD_spec hl
      obtain ⟨xs, m, rfl, hx1, hcl, hxl, hf⟩ := DataW.trod_struct hu hx
      simp only [Prod.mk.injEq, DataW.agg.injEq] at hx1
      obtain ⟨rfl, _⟩ := hx1
      have key := catD_open (rec := cellsD P f) (n := m) (fun t d av cs p a b => ih m t d av cs p a b) l 0 av cs h (fun i x hi => by
        obtain ⟨q1, q2⟩ := z3 i x hi
        simp only [List.getElem?_map, Option.map_eq_some_iff] at q1 q2
        obtain ⟨fl, hfl, e1⟩ := q1
        obtain ⟨y, hy, e2⟩ := q2
        simp only [Prod.mk.injEq] at e1
        obtain ⟨e3, e4⟩ := e1
        have := hf i fl (by simpa using hfl)
        rw [hy] at this
        refine ⟨y.2, ?_⟩
        rw [← e3, ← e4, this, ← e2]) (by rw [hcl, hct, Nat.zero_add])
      simpa using key
    · cases h
theorem laid_cells {laid : List (String × DataW Unit)} (h : laidMetH P laid w) (hp : (laid.all fun x => x.2.handleName?.isNone) = true) {name : String} {d : DataW Unit} (hm : (name, d) ∈ laid) {g t : Nat} (hg : P.globalNamed name = some g) (ht : (P.globals[g]?).map (·.type) = some t)
    {f : Nat} {av : List AV} (hc : cellsD P f t d = some av) : ∃ cs e lo hi, w.heap[g]? = some (.cells cs e (lo, hi)) ∧ VRels [] av cs.toList := by
  rw [MakeChecks.laidMetH_plain _ _ _ hp] at h
  obtain ⟨g', t', cs, fuel, p, h1, h2, h3, h4⟩ := Lib.laidMet.reads h hm
  rw [hg] at h1; cases h1
  rw [ht] at h2; cases h2
  have := cellsD_open f fuel t d av cs.toList p hc h4
  unfold World.var? at h3
  rw [hg] at h3
  simp only [Option.bind_some] at h3
  cases hh : w.heap[g]? with
  | none => rw [hh] at h3; cases h3
  | some o =>
    rw [hh] at h3
    cases o with
    | cells cur e fz =>
      simp only [Option.some.injEq] at h3
      subst h3
      obtain ⟨lo, hi⟩ := fz
      exact ⟨_, e, lo, hi, rfl, this⟩
    | _ => simp at h3
end
end Go.Vai
end
