/- Control: a piece of code, by its make. -/
import Derived.Test.YtopjbfgikglncaaGreatDoorVaiDraw3
namespace Go.Vai
section
variable {E : Env} {P : Program} {I : List MEnt → AHeap → World → Prop} {ih : Task → Option TRes} {ro : Option Nat}

theorem getLoop_rel {M : List MEnt} {H : AHeap} {w : World} (hr : HRel M H w) {id : Nat} {m : MEnt} (hm : M[id]? = some m) {st : LSt} {pend : Option AExit} {n : Nat} {t : Tr AV} {ps : List Nat} {as bo : Code} {d : Nat}
    (h : H.get id = some (.loop st pend n t ps as bo d)) :
    ∃ L : Loop, w.heap[m.block]? = some (.loop L) ∧ L.state = lstOf st ∧ PRel pend L.pending ∧ L.params.toList = ps ∧ L.assign = as ∧ L.body = bo ∧ L.tmps.size = n ∧ TRel M t L.tmps ∧ ∃ d', M[d]? = some d' ∧ L.defers = d'.block :=
  hr.blk h hm

theorem grown_putObj (w : World) (b : Nat) (o : Obj) : w.grownBy (w.putObj b o) (some b) :=
  ⟨rfl, rfl, rfl, by simp, fun k _ hne => World.putObj_heap_other (by intro e; subst e; exact hne rfl)⟩

/-- The record is rewritten. -/
theorem putLoop {M : List MEnt} {H : AHeap} {w : World} (hr : HRel M H w) {id : Nat} {m : MEnt} (hm : M[id]? = some m) {st : LSt} {pend : Option AExit} {n : Nat} {t : Tr AV} {ps : List Nat} {as bo : Code} {d : Nat}
    (h : H.get id = some (.loop st pend n t ps as bo d)) {L : Loop} (hL : w.heap[m.block]? = some (.loop L)) {st' : LSt} {pend' : Option AExit} {cst : LoopState} {cp : Option Code} (h1 : cst = lstOf st') (h2 : PRel pend' cp) :
    HRel M (H.put id (.loop st' pend' n t ps as bo d)) (w.putObj m.block (.loop { L with state := cst, pending := cp })) ∧
    Ext M H w M (H.put id (.loop st' pend' n t ps as bo d)) (w.putObj m.block (.loop { L with state := cst, pending := cp })) := by
  obtain ⟨L', e1, e2, e3, e4, e5, e6, e7, e8, d', e9, e10⟩ := getLoop_rel hr hm h
  rw [hL] at e1; cases e1
  have hlt : m.block < w.heap.size := (Array.getElem?_eq_some_iff.1 hL).1
  exact hr.put h rfl hm (grown_putObj _ _ _) _ ⟨_, World.putObj_heap_same hlt, h1, h2, e4, e5, e6, e7, e8, d', e9, e10⟩

theorem loopWp_loop {F : Fence} {P : Program} {c : Code} {Q : Exit → Act → World → Prop} {a : Act} {w : World} (h : LoopWp F P c Q a w) : (Code.loop c).wpIn F 0 P Q a w := by
  intro b k cs hro hb hr
  obtain ⟨e, a', w', q, r⟩ := h b k cs hro hb hr
  exact ⟨e, a', w', q, .of_steps (.one (fenced_calm hb hr rfl) stepR_loop) r⟩
theorem loopWp_of {F : Fence} {P : Program} {c : Code} {Q : Exit → Act → World → Prop} {a : Act} {w : World} (h : c.wpIn F 0 P (Exit.then (LoopWp F P c Q) Q) a w) : LoopWp F P c Q a w := by
  intro b k cs hro hb hr
  obtain ⟨e, a₁, w₁, hq, harr⟩ := h b (.inLoop c :: k) cs hro hb hr
  cases e with
  | normal =>
    obtain ⟨e₂, a₂, w₂, hq₂, harr₂⟩ := hq b k cs hro hb hr
    exact ⟨e₂, a₂, w₂, hq₂, .of_steps (StepsIn.trans harr (.one (fenced_calm hb hr rfl) stepR_inLoop)) harr₂⟩
  | exit id => exact ⟨_, a₁, w₁, hq, .pass (x := .inLoop c) rfl (fun _ _ => .inl (by simp)) harr⟩
  | goto l => exact ⟨_, a₁, w₁, hq, .pass (x := .inLoop c) rfl (fun _ _ => .inl (by simp)) harr⟩
  | ret => exact ⟨_, a₁, w₁, hq, .pass (x := .inLoop c) rfl (fun _ _ => .inl (by simp)) harr⟩
  | panic ch => exact ⟨_, a₁, w₁, hq, .pass (x := .inLoop c) rfl (fun _ _ => .inl (by simp)) harr⟩
  | outgrown => exact ⟨_, a₁, w₁, hq, .pass (x := .inLoop c) rfl (fun _ _ => .inl (by simp)) harr⟩

/-- The way an exit e of the first of two pieces is handed on, when e is not the normal one. -/
theorem post_then {ro : Option Nat} {M : List MEnt} {H : AHeap} {w : World} {e : AExit} {fr' : AFr} {H' : AHeap} {x : Exit} {a : Act} {w' : World} {K : Act → World → Prop} (he : e ≠ .normal) (h : CPost ro M H w e fr' H' x a w') :
    Exit.then K (CPost ro M H w e fr' H') x a w' := by
  have h' := h
  obtain ⟨M', _, _, h3, _⟩ := h'
  cases e with
  | normal => exact absurd rfl he
  | exit i => simp only [ERel] at h3; subst h3; exact h
  | ret => simp only [ERel] at h3; subst h3; exact h
  | panic v => obtain ⟨cv, rfl, _⟩ := h3; exact h

theorem codeA_sound (hE : EnvOk E P I) (hs : Sound E P I ih) : ∀ (c : Code) (fr : AFr) (H : AHeap) (e : AExit) (fr' : AFr) (H' : AHeap) (M : List MEnt) (w : World) (a : Act),
    codeA E ih c fr H = some (.code e fr' H') → St E I M H w → FRel ro M fr a → c.wpIn (FF ro) 0 P (CPost ro M H w e fr' H') a w := by
  intro c
  induction c with
  | skip =>
    intro fr H e fr' H' M w a h st hf
    simp only [codeA, Option.some.injEq, TRes.code.injEq] at h
    obtain ⟨rfl, rfl, rfl⟩ := h
    exact wpIn_skip ⟨M, Ext.refl _ _ _, st.hr, rfl, hf⟩
  | label l =>
    intro fr H e fr' H' M w a h st hf
    simp only [codeA, Option.some.injEq, TRes.code.injEq] at h
    obtain ⟨rfl, rfl, rfl⟩ := h
    exact wpIn_label ⟨M, Ext.refl _ _ _, st.hr, rfl, hf⟩
  | ret =>
    intro fr H e fr' H' M w a h st hf
    simp only [codeA, Option.some.injEq, TRes.code.injEq] at h
    obtain ⟨rfl, rfl, rfl⟩ := h
    exact wpIn_ret ⟨M, Ext.refl _ _ _, st.hr, rfl, hf⟩
  | exit id =>
    intro fr H e fr' H' M w a h st hf
    simp only [codeA, Option.some.injEq, TRes.code.injEq] at h
    obtain ⟨rfl, rfl, rfl⟩ := h
    exact wpIn_exit ⟨M, Ext.refl _ _ _, st.hr, rfl, hf⟩
  | seq x y ihx ihy =>
    intro fr H e fr' H' M w a h st hf
    simp only [codeA] at h
    refine wpIn_seq ?_
    split at h
    · rename_i fr1 H1 hx
      refine wpIn_mono (ihx fr H _ _ _ M w a hx st hf) ?_
      rintro ex a1 w1 ⟨M1, x1, x2, x3, x4⟩
      simp only [ERel] at x3; subst x3
      exact wpIn_mono (ihy fr1 H1 e fr' H' M1 w1 a1 h (st.next hE x1 x2) x4) fun ex a2 w2 hp => hp.after x1
    · rename_i hne
      refine wpIn_mono (ihx fr H e fr' H' M w a h st hf) fun ex a1 w1 hp => post_then (fun he => hne fr' H' (by rw [h, he])) hp
  | cond c x y ihx ihy =>
    intro fr H e fr' H' M w a h st hf
    simp only [codeA] at h
    split at h
    · rename_i hc
      have := opd_rel st.g hf.t hc
      simp only [VRel] at this
      exact wpIn_cond_true this (ihx fr H e fr' H' M w a h st hf)
    · rename_i hc
      have := opd_rel st.g hf.t hc
      simp only [VRel] at this
      exact wpIn_cond_false this (ihy fr H e fr' H' M w a h st hf)
    · cases h
  | block id c ihc =>
    intro fr H e fr' H' M w a h st hf
    simp only [codeA] at h
    refine wpIn_block ?_
    split at h
    · rename_i i fr1 H1 hx
      refine wpIn_mono (ihc fr H _ _ _ M w a hx st hf) ?_
      rintro ex a1 w1 ⟨M1, x1, x2, x3, x4⟩
      simp only [ERel] at x3; subst x3
      simp only [Bool.cond_eq_ite, Nat.beq_eq] at h
      simp only [Exit.inBlock]
      split
      · rename_i hi
        rw [if_pos hi] at h
        simp only [Option.some.injEq, TRes.code.injEq] at h
        obtain ⟨rfl, rfl, rfl⟩ := h
        exact ⟨M1, x1, x2, rfl, x4⟩
      · rename_i hi
        rw [if_neg hi] at h
        simp only [Option.some.injEq, TRes.code.injEq] at h
        obtain ⟨rfl, rfl, rfl⟩ := h
        exact ⟨M1, x1, x2, rfl, x4⟩
    · rename_i hne
      refine wpIn_mono (ihc fr H e fr' H' M w a h st hf) ?_
      intro ex a1 w1 hp
      have hp' := hp
      obtain ⟨M1, x1, x2, x3, x4⟩ := hp'
      cases e with
      | exit i => exact absurd h (hne i fr' H')
      | normal => simp only [ERel] at x3; subst x3; exact hp
      | ret => simp only [ERel] at x3; subst x3; exact hp
      | panic v => obtain ⟨cv, rfl, _⟩ := x3; exact hp
  | loop c ihc =>
    intro fr H e fr' H' M w a h st hf
    simp only [codeA] at h
    refine loopWp_loop (loopWp_of ?_)
    split at h
    · rename_i fr1 H1 hx
      refine wpIn_mono (ihc fr H _ _ _ M w a hx st hf) ?_
      rintro ex a1 w1 ⟨M1, x1, x2, x3, x4⟩
      simp only [ERel] at x3; subst x3
      intro b k cs hro hb hr
      obtain ⟨e2, a2, w2, q, r⟩ := hs.loop ro c fr1 H1 e fr' H' M1 w1 a1 h (st.next hE x1 x2) x4 b k cs hro hb hr
      exact ⟨e2, a2, w2, q.after x1, r⟩
    · rename_i hne
      refine wpIn_mono (ihc fr H e fr' H' M w a h st hf) fun ex a1 w1 hp => post_then (fun he => hne fr' H' (by rw [h, he])) hp
  | region id ops draw =>
    intro fr H e fr' H' M w a h st hf
    simp only [codeA, regionA] at h
    cases draw with
    | false =>
      simp only [cond_false] at h
      refine wpIn_region ?_
      have := opsA_sound (ro := ro) hE hs ops.toList 0 fr H M w a rfl h (Ext.refl _ _ _) st hf
      rw [List.range_eq_range']
      exact this
    | true =>
      simp only [cond_true] at h
      split at h
      · cases h
      rename_i an han
      simp only [Bool.cond_eq_ite, Bool.and_eq_true, Nat.ble_eq] at h
      split at h
      case isFalse => cases h
      rename_i hall
      exact draw_sound hE hs han hall.1 hall.2.1 hall.2.2 h st hf
  | rangeFunc f ps assign body _ _ =>
    intro fr H e fr' H' M w a h st hf
    simp only [codeA] at h
    cases hrd : fr.rd with
    | true => simp [hrd] at h
    | false =>
    simp only [hrd, cond_false] at h
    have hro : ro = none := by
      have := hf.rd
      rw [hrd] at this
      cases ro with
      | none => rfl
      | some _ => cases this
    subst hro
    split at h
    case h_2 => cases h
    rename_i g first cap hop
    split at h
    · cases h
    rename_i fn hfn
    obtain ⟨fs, cs, hev, r1, r2⟩ := opd_rel st.g hf.t hop
    split at h
    case h_2 => cases h
    rename_i v H1 hcall
    refine wpIn_rangeFunc fun fnr _ => ?_
    -- the two blocks
    obtain ⟨n1, n2⟩ := st.hr.new (World.grownBy_alloc w (.deferred (some [])) none) .dfr ⟨w.heap.size, 0, 0, 0⟩ (Nat.le_refl _) (World.alloc_heap_new w _)
    have sz : (w.alloc (.deferred (some []))).heap.size = w.heap.size + 1 := by rw [World.size_alloc]
    have at1 : (M ++ [(⟨w.heap.size, 0, 0, 0⟩ : MEnt)])[H.next]? = some ⟨w.heap.size, 0, 0, 0⟩ := by rw [← st.hr.len]; simp
    have l1 : (M ++ [(⟨w.heap.size, 0, 0, 0⟩ : MEnt)]).length = H.next + 1 := by simp [st.hr.len]
    have at1' : (M ++ [(⟨w.heap.size, 0, 0, 0⟩ : MEnt)] ++ [(⟨w.heap.size + 1, 0, 0, 0⟩ : MEnt)])[H.next]? = some ⟨w.heap.size, 0, 0, 0⟩ := pre_get (List.prefix_append _ _) at1
    have at2 : (M ++ [(⟨w.heap.size, 0, 0, 0⟩ : MEnt)] ++ [(⟨w.heap.size + 1, 0, 0, 0⟩ : MEnt)])[H.next + 1]? = some ⟨w.heap.size + 1, 0, 0, 0⟩ := by
      rw [List.getElem?_append_right (by omega), l1]; simp
    have heapL := World.alloc_heap_new (w.alloc (.deferred (some []))) (.loop { state := .ready, pending := none, fn := fnr, tmps := a.tmps, params := ps, assign, body, defers := w.heap.size })
    obtain ⟨n3, n4⟩ := n1.new (World.grownBy_alloc (w.alloc (.deferred (some []))) (.loop { state := .ready, pending := none, fn := fnr, tmps := a.tmps, params := ps, assign, body, defers := w.heap.size }) none)
      (.loop .ready none fr.n fr.t ps.toList assign body H.next) ⟨w.heap.size + 1, 0, 0, 0⟩ (by rw [sz]; exact Nat.le_refl _)
      ⟨{ state := .ready, pending := none, fn := fnr, tmps := a.tmps, params := ps, assign, body, defers := w.heap.size }, by rw [sz] at heapL; exact heapL, rfl, rfl, rfl, rfl, rfl, hf.n, hf.t.mono ((List.prefix_append _ _).trans (List.prefix_append _ _)), _, at1', rfl⟩
    have x12 := n2.trans n4
    have pre : M <+: M ++ [(⟨w.heap.size, 0, 0, 0⟩ : MEnt)] ++ [(⟨w.heap.size + 1, 0, 0, 0⟩ : MEnt)] := x12.pre
    have hargs : VRels (M ++ [(⟨w.heap.size, 0, 0, 0⟩ : MEnt)] ++ [(⟨w.heap.size + 1, 0, 0, 0⟩ : MEnt)]) (first ++ (.yld (H.next + 1) :: cap)) (fs ++ (.func (.yield (w.heap.size + 1)) #[] #[] :: cs)) :=
      (r1.mono pre).append ⟨⟨_, at2, rfl⟩, r2.mono pre⟩
    obtain ⟨hrun, hcalls⟩ := callsA_enters hE hfn (hs.call _ _ _ _ _ _ _ hcall (st.next hE x12 n3) hargs)
    refine ⟨w.heap.size + 1, [{ target := .collected w.heap.size, args := #[] }], _, { target := .fn (.func g) cs.toArray, args := (fs ++ [Value.func (.yield (w.heap.size + 1)) #[] #[]]).toArray }, ((w.alloc (.deferred (some []))).alloc (.loop { state := .ready, pending := none, fn := fnr, tmps := a.tmps, params := ps, assign, body, defers := w.heap.size })), g, (fs ++ (Value.func (.yield (w.heap.size + 1)) #[] #[] :: cs)).toArray, ((w.alloc (.deferred (some []))).alloc (.loop { state := .ready, pending := none, fn := fnr, tmps := a.tmps, params := ps, assign, body, defers := w.heap.size })), run_enterLoop_outer _ _ _ _ _, ?_, fun _ _ => trivial, ?_, fun h => (by cases h), ?_⟩
    · have hk : ∀ v, a.eval (.const v) = v := fun _ => rfl
      simp [resolve, hev, Deferred.ofValue, hk]
    · simp only [invoke]
      have : (fs ++ [Value.func (.yield (w.heap.size + 1)) #[] #[]]).toArray ++ cs.toArray = (fs ++ (Value.func (.yield (w.heap.size + 1)) #[] #[] :: cs)).toArray := by simp
      rw [this]
      exact hrun
    · refine CallsIn.mono (F := FF none) hcalls ?_
      intro en w3 hp
      cases en with
      | outgrown => exact hp.elim
      | panicked ch => obtain ⟨_, _, _, _, e, _⟩ := hp; cases e
      | returned cv =>
        obtain ⟨v', H2, M3, e3, x3, x4, x5⟩ := hp
        cases e3
        have a1 := pre_get x3.pre at1'
        have a2 := pre_get x3.pre at2
        have ff : FRel none M3 { fr with df := .mark H.next :: fr.df } { a with defers := { target := .collected w.heap.size, args := #[] } :: a.defers } :=
          ⟨hf.rd, hf.n, hf.t.mono (pre.trans x3.pre), .cons ⟨_, a1, rfl⟩ (hf.df.mono (pre.trans x3.pre))⟩
        have key : ∀ st' pend n t p a' b d, st' ≠ LSt.busy → H1.get (H.next + 1) = some (.loop st' pend n t p a' b d) → ∃ jump w4, (Instr.endLoop (w.heap.size + 1)).run P w3 = .ok jump w4 ∧ PRel pend jump ∧
            ∃ M4, Ext M H w M4 (H1.put (H.next + 1) (.loop .exhausted pend n t p a' b d)) w4 ∧ HRel M4 (H1.put (H.next + 1) (.loop .exhausted pend n t p a' b d)) w4 ∧ FRel none M4 { fr with df := .mark H.next :: fr.df } { a with defers := { target := .collected w.heap.size, args := #[] } :: a.defers } := by
          intro st' pend n t p a' b d hst hget
          obtain ⟨L, e1, e2, e3, _⟩ := getLoop_rel x4 a2 hget
          obtain ⟨y1, y2⟩ := putLoop x4 a2 hget e1 (st' := .exhausted) (pend' := pend) (cst := .exhausted) (cp := L.pending) rfl e3
          refine ⟨L.pending, _, run_endLoop e1 (by rw [e2]; cases st' <;> simp_all [lstOf]), e3, M3, (x12.trans x3).trans y2, y1, ff⟩
        have hrd' : ∀ x : AFr, x = { n := fr.n, t := fr.t, df := .mark H.next :: fr.df, rd := false } → x = { fr with df := .mark H.next :: fr.df } := by
          intro x hx; rw [hx, ← hrd]
        split at h
        · cases h
        · rename_i st' n t p a' b d hne hget
          simp only [Option.some.injEq, TRes.code.injEq] at h
          obtain ⟨rfl, hfr, rfl⟩ := h
          have := hrd' _ hfr.symm
          subst this
          obtain ⟨jump, w4, k1, k2, M4, k3, k4, k5⟩ := key st' _ n t p a' b d hne hget
          simp only [PRel] at k2; subst k2
          exact ⟨none, w4, k1, ⟨M4, k3, k4, rfl, k5⟩⟩
        · rename_i st' n t p a' b d hne hget
          simp only [Option.some.injEq, TRes.code.injEq] at h
          obtain ⟨rfl, hfr, rfl⟩ := h
          have := hrd' _ hfr.symm
          subst this
          obtain ⟨jump, w4, k1, k2, M4, k3, k4, k5⟩ := key st' _ n t p a' b d hne hget
          simp only [PRel] at k2; subst k2
          exact ⟨some .ret, w4, k1, wpIn_ret ⟨M4, k3, k4, rfl, k5⟩⟩
        · rename_i st' i n t p a' b d hne hget
          simp only [Option.some.injEq, TRes.code.injEq] at h
          obtain ⟨rfl, hfr, rfl⟩ := h
          have := hrd' _ hfr.symm
          subst this
          obtain ⟨jump, w4, k1, k2, M4, k3, k4, k5⟩ := key st' _ n t p a' b d hne hget
          simp only [PRel] at k2; subst k2
          exact ⟨some (.exit i), w4, k1, wpIn_exit ⟨M4, k3, k4, rfl, k5⟩⟩
        · cases h
  | scope c _ => intro fr H e fr' H' M w a h; simp [codeA] at h
  | refuse _ => intro fr H e fr' H' M w a h; simp [codeA] at h
  | goto l => intro fr H e fr' H' M w a h; simp [codeA] at h
end
end Go.Vai
