/- Control: ways out of a function, calls, deferred calls, rounds; and the whole: what the interpreter answers for a call, the program does. -/
import Derived.Test.YtopjbfgikglncaaGreatDoorVaiCode
namespace Go.Vai
section
variable {E : Env} {P : Program} {I : List MEnt → AHeap → World → Prop} {ih : Task → Option TRes}

/-- One result, read. -/
def resOne (tmps : Array Value) : ResultVar → Sem Value
  | .tmp t => pure (tmps.getD t undef)
  | .cell a t => do loadVar t (← asAddr (tmps.getD a undef))

theorem resList (hE : TysOk E P) {M : List MEnt} {H : AHeap} {w : World} (hr : HRel M H w) {t : Tr AV} {tmps : Array Value} (ht : TRel M t tmps) : ∀ (rs : List ResultVar) (l : List AV), resA E t H rs = some l →
    ∃ vs, (rs.mapM (resOne tmps)).run P w = .ok vs w ∧ VRels M l vs := by
  intro rs
  induction rs with
  | nil =>
    intro l h
    simp only [resA, Option.some.injEq] at h; subst h
    exact ⟨[], by simp, trivial⟩
  | cons r rs ihr =>
    intro l h
    cases r with
    | tmp i =>
      simp only [resA] at h
      split at h
      · cases h
      rename_i v hv
      split at h
      case h_2 => cases h
      rename_i l' hl
      simp only [Option.some.injEq] at h; subst h
      obtain ⟨cv, h1, h2⟩ := ht _ _ hv
      obtain ⟨vs, h3, h4⟩ := ihr _ hl
      refine ⟨cv :: vs, ?_, h2, h4⟩
      rw [List.mapM_cons]
      have e : (resOne tmps (.tmp i)).run P w = .ok cv w := by simp [resOne, Array.getD_eq_getD_getElem?, h1]
      simp only [Sem.run_bind, Sem.run_pure, e, Result.andThen_ok, h3]
    | cell a i =>
      simp only [resA] at h
      split at h
      · cases h
      rename_i p hp
      split at h
      · cases h
      rename_i v hv
      split at h
      case h_2 => cases h
      rename_i l' hl
      simp only [Option.some.injEq] at h; subst h
      obtain ⟨cp, h1, h2⟩ := ht _ _ hp
      obtain ⟨ad, cv, h5, h6, h7⟩ := loadVar_sound hE hr h2 hv
      obtain ⟨vs, h3, h4⟩ := ihr _ hl
      refine ⟨cv :: vs, ?_, h7, h4⟩
      rw [List.mapM_cons]
      have e : (resOne tmps (.cell a i)).run P w = .ok cv w := by simp [resOne, Array.getD_eq_getD_getElem?, h1, h5, asAddr, h6]
      simp only [Sem.run_bind, Sem.run_pure, e, Result.andThen_ok, h3]

theorem results_sound (hE : TysOk E P) {M : List MEnt} {H : AHeap} {w : World} (hr : HRel M H w) {t : Tr AV} {tmps : Array Value} (ht : TRel M t tmps) {Fn : Func} {l : List AV} (h : resA E t H Fn.results.toList = some l) :
    ∃ cv, (results Fn tmps).run P w = .ok cv w ∧ VRel M (resV l) cv := by
  obtain ⟨vs, h1, h2⟩ := resList hE hr ht _ _ h
  refine ⟨if h : vs.toArray.size = 1 then vs.toArray[0] else .tuple vs.toArray, ?_, ?_⟩
  · show (do let vs ← Fn.results.mapM (resOne tmps); pure (if h : vs.size = 1 then vs[0] else Value.tuple vs) : Sem Value).run P w = _
    rw [Sem.run_bind, Array.mapM_eq_mapM_toList, Sem.run_map]
    rw [h1]
    rfl
  · match l, vs, h2 with
    | [], [], _ => exact ⟨[], rfl, trivial⟩
    | [v], [cv], ⟨h, _⟩ => exact h
    | a :: b :: l, x :: y :: vs, h => exact ⟨x :: y :: vs, by simp, h⟩

/-- A name is given up and its block is written for the last time. -/
theorem HRel.shut {M : List MEnt} {H : AHeap} {w w' : World} (h : HRel M H w) {id : Nat} {o : AObj} {m : MEnt} (e : H.get id = some o) (hro : o.isRo = false) (hm : M[id]? = some m) (hg : w.grownBy w' (some m.block)) :
    HRel M (H.kill id) w' ∧ Ext M H w M (H.kill id) w' := by
  have ne : ∀ j p k, H.get j = some p → M[j]? = some k → j ≠ id → k.block ≠ m.block := fun j p k ej ek hj hb => by
    have := (h.inj j id p o k m ej e ek hm hj hb).2
    rw [hro] at this; cases this
  refine ⟨⟨h.len, fun j p ej => ?_, fun i j p q k l ei ej => h.inj i j p q k l (AHeap.get_kill ei).2 (AHeap.get_kill ej).2⟩, ⟨List.prefix_refl _, hg.size, hg.os, hg.tape, hg.output, fun b hb hn => ⟨hg.block b hb ?_, fun ⟨j, p, k, ej, r⟩ => hn ⟨j, p, k, (AHeap.get_kill ej).2, r⟩⟩, fun _ _ hn ⟨j, p, k, ej, r⟩ => hn ⟨j, p, k, (AHeap.get_kill ej).2, r⟩⟩⟩
  · obtain ⟨hj, ej⟩ := AHeap.get_kill ej
    obtain ⟨k, hk, r⟩ := h.obj j p ej
    exact ⟨k, hk, r.carry (List.prefix_refl _) (hg.block _ r.lt (by have := ne j p k ej hk hj; simp [this]))⟩
  · intro he
    simp only [Option.some.injEq] at he
    exact hn ⟨id, o, m, e, hro, hm, he.symm⟩

theorem URel.mono {M M' : List MEnt} (h : M <+: M') : ∀ {p : Option AV} {u : FrameMode}, URel M p u → URel M' p u
  | none, _, r => r
  | some _, _, ⟨cv, e, r⟩ => ⟨cv, e, r.mono h⟩
theorem URel.ne {M : List MEnt} : ∀ {p : Option AV} {u : FrameMode}, URel M p u → u ≠ .run
  | none, _, r => by simp only [URel] at r; subst r; simp
  | some _, _, ⟨cv, e, r⟩ => by subst e; simp

theorem leaveA_sound (hE : EnvOk E P I) (hs : Sound E P I ih) {f : FuncId} {fn : AFunc} {Fn : Func} (hF : FnOk P f fn Fn) {t : Tr AV} {tmps : Array Value} {M0 : List MEnt} {H0 : AHeap} {w0 : World} {r : CRes} :
    ∀ (ds : List ADf) (p : Option AV) (H : AHeap) (M : List MEnt) (w : World) (cds : List Deferred) (u : FrameMode), leaveA E ih fn.results t ds p H = some (.call r) → Ext M0 H0 w0 M H w → St E I M H w → TRel M t tmps → DfRels M ds cds → URel M p u →
      LeavesInM Fence.wide 0 P Fn tmps (CallPost M0 H0 w0 r) cds u w := by
  intro ds
  induction ds with
  | nil =>
    intro p H M w cds u h x st ht hd hu
    cases hd
    cases p with
    | none =>
      simp only [URel] at hu; subst hu
      simp only [leaveA] at h
      split at h
      case h_2 => cases h
      rename_i l hl
      simp only [Option.some.injEq, TRes.call.injEq] at h; subst h
      rw [← hF.res] at hl
      obtain ⟨cv, h1, h2⟩ := results_sound hE.tys st.hr ht hl
      exact ⟨cv, h1, _, _, M, rfl, x, st.hr, h2⟩
    | some v =>
      obtain ⟨cv, rfl, hv⟩ := hu
      simp only [leaveA, Option.some.injEq, TRes.call.injEq] at h; subst h
      exact ⟨v, H, M, cv, rfl, rfl, x, st.hr, hv⟩
  | cons y ds ihd =>
    intro p H M w cds u h x st ht hd hu
    cases hd with
    | cons hy hds =>
    rename_i d cds
    cases y with
    | mark id =>
      simp only [leaveA] at h
      split at h
      case h_2 => cases h
      rename_i hget
      obtain ⟨m, hm, rfl⟩ := hy
      have hblk : w.heap[m.block]? = some (.deferred (some [])) := st.hr.blk hget hm
      obtain ⟨s1, s2⟩ := st.hr.shut hget rfl hm (grown_putObj w m.block (.deferred none))
      exact ⟨hu.ne, .inl ⟨m.block, _, rfl, run_takeDeferred hblk, ihd p _ M _ _ u h (x.trans s2) (st.next hE s2 s1) ht hds hu⟩⟩
    | call g args =>
      simp only [leaveA] at h
      split at h
      case h_2 => cases h
      rename_i taken H1 hc
      obtain ⟨cap, as, fs, rfl, rfl, hargs⟩ := hy
      obtain ⟨hrun, hcall⟩ := hs.dcall g args p H taken H1 M w _ u hc st hargs hu
      refine ⟨hu.ne, .inr ⟨fun h => (by cases h), .func g, cap.toArray, g, (as ++ cap).toArray, rfl, ?_, fun _ _ => trivial, ?_⟩⟩
      · show (callFunc g (as.toArray ++ cap.toArray)).run P w = _
        have : as.toArray ++ cap.toArray = (as ++ cap).toArray := by simp
        rw [this]; exact hrun
      · refine CallsDIn.mono hcall ?_
        intro en u' w' hp
        cases en with
        | panicked ch => exact hp.elim
        | outgrown => exact hp.elim
        | returned cv =>
          obtain ⟨⟨M', x1, x2⟩, hset⟩ := hp
          show LeavesInM Fence.wide 0 P Fn tmps _ cds (settle u') w'
          rw [hset]
          refine ihd _ _ M' w' cds _ h (x.trans x1) (st.next hE x1 x2) (ht.mono x1.pre) (hds.mono x1.pre) ?_
          cases taken with
          | true => rfl
          | false => exact hu.mono x1.pre

theorem newFr_rel {M : List MEnt} {f : FuncId} {fn : AFunc} {Fn : Func} (hF : FnOk P f fn Fn) {args : List AV} {cargs : List Value} (h : VRels M args cargs) :
    FRel none M (newFr fn args) { tmps := cargs.toArray ++ Array.replicate (Fn.ntmps - cargs.toArray.size) undef, defers := [] } := by
  refine ⟨rfl, by simp [newFr, hF.nt, h.length], fun i v hi => ?_, .nil⟩
  rcases Tr.get_putAll args hi with ⟨j, h1, h2⟩ | ⟨_, h2⟩
  · obtain ⟨cv, h3, h4⟩ := h.get _ _ h2
    have hij : j = i := by rw [h1, Nat.zero_add]
    rw [hij] at h3
    refine ⟨cv, ?_, h4⟩
    have hlt : i < cargs.length := (List.getElem?_eq_some_iff.1 h3).1
    rw [Array.getElem?_append_left (by simpa using hlt)]
    simpa using h3
  · cases h2

theorem df_nil {M : List MEnt} {ds : List Deferred} (h : DfRels M [] ds) : ds = [] := by cases h; rfl

theorem call_step (hE : EnvOk E P I) (hs : Sound E P I ih) {f : FuncId} {args : List AV} {H : AHeap} {r : CRes} {M : List MEnt} {w : World} {cargs : List Value}
    (h : stepA E ih (.call f args H) = some (.call r)) (st : St E I M H w) (ha : VRels M args cargs) : CallsA P f cargs M H w r := by
  simp only [stepA] at h
  split at h
  · rename_i fn hfn
    obtain ⟨Fn, hF⟩ := hE.fns f fn hfn
    refine .inr ⟨enter_run hF _, callsIn_of_wp_marks hF.at_ hF.body trivial ?_⟩
    have hfr := newFr_rel hF ha
    split at h
    · rename_i fr1 H1 hc
      refine wpIn_mono (codeA_sound hE hs _ _ _ _ _ _ M w _ hc st hfr) ?_
      rintro ex a1 w1 ⟨M1, x1, x2, x3, x4⟩
      simp only [ERel] at x3; subst x3
      exact leaveA_sound hE hs hF _ _ _ M1 w1 _ _ h x1 (st.next hE x1 x2) x4.t x4.df rfl
    · rename_i fr1 H1 hc
      refine wpIn_mono (codeA_sound hE hs _ _ _ _ _ _ M w _ hc st hfr) ?_
      rintro ex a1 w1 ⟨M1, x1, x2, x3, x4⟩
      simp only [ERel] at x3; subst x3
      exact leaveA_sound hE hs hF _ _ _ M1 w1 _ _ h x1 (st.next hE x1 x2) x4.t x4.df rfl
    · rename_i v fr1 H1 hc
      refine wpIn_mono (codeA_sound hE hs _ _ _ _ _ _ M w _ hc st hfr) ?_
      rintro ex a1 w1 ⟨M1, x1, x2, ⟨cv, rfl, x3⟩, x4⟩
      exact leaveA_sound hE hs hF _ _ _ M1 w1 _ _ h x1 (st.next hE x1 x2) x4.t x4.df ⟨cv, rfl, x3⟩
    · cases h
  · rename_i hfn
    split at h
    · rename_i v H' hsm
      simp only [Option.some.injEq, TRes.call.injEq] at h; subst h
      exact hE.sm f args H v H' M w cargs hfn hsm st ha
    · cases h

theorem endD_some {rs : List ResultVar} {taken t' : Bool} {x : Option TRes} {H' : AHeap} (h : endD E rs taken x = some (.dcall (.back t' H'))) :
    t' = taken ∧ ∃ e n t rd l, (e = .normal ∨ e = .ret) ∧ x = some (.code e ⟨n, t, [], rd⟩ H') ∧ resA E t H' rs = some l := by
  unfold endD at h
  split at h
  · rename_i n t rd H1
    split at h
    · rename_i l hl
      simp only [Option.some.injEq, TRes.dcall.injEq, DRes.back.injEq] at h
      obtain ⟨rfl, rfl⟩ := h
      exact ⟨rfl, _, n, t, rd, l, .inl rfl, rfl, hl⟩
    · cases h
  · rename_i n t rd H1
    split at h
    · rename_i l hl
      simp only [Option.some.injEq, TRes.dcall.injEq, DRes.back.injEq] at h
      obtain ⟨rfl, rfl⟩ := h
      exact ⟨rfl, _, n, t, rd, l, .inr rfl, rfl, hl⟩
    · cases h
  · cases h

theorem recFirst_some {c : Code} {o : Oper} {rest : Code} (h : recFirst c = some (o, rest)) : ∃ id ops, c = .seq (.region id ops false) rest ∧ ops.toList = [o] ∧ o.guard = none ∧ ∃ k, o.op = .call k ∧ k.callee = .builtin .recover := by
  unfold recFirst at h
  split at h
  case h_2 => cases h
  rename_i id ops rest'
  split at h
  case h_2 => cases h
  rename_i o' ho
  cases hr : isRecover o' with
  | false => simp [hr] at h
  | true =>
    simp only [hr, cond_true, Option.some.injEq, Prod.mk.injEq] at h
    obtain ⟨rfl, rfl⟩ := h
    refine ⟨id, ops, rfl, ho, ?_⟩
    unfold isRecover at hr
    split at hr
    · rename_i k hk
      simp only [Bool.and_eq_true] at hr
      refine ⟨?_, k, hk, ?_⟩
      · have := hr.2
        split at this
        · assumption
        · cases this
      · have := hr.1
        split at this
        · assumption
        · cases this
    · cases hr

theorem dcall_step (hE : EnvOk E P I) (hs : Sound E P I ih) {f : FuncId} {args : List AV} {pan : Option AV} {H H' : AHeap} {taken : Bool} {M : List MEnt} {w : World} {cargs : List Value} {u : FrameMode}
    (h : stepA E ih (.dcall f args pan H) = some (.dcall (.back taken H'))) (st : St E I M H w) (ha : VRels M args cargs) (hu : URel M pan u) :
    (callFunc f cargs.toArray).run P w = .ok (.enter f cargs.toArray) w ∧ CallsDIn Fence.wide 0 P f cargs.toArray u w (DPost M H w taken H' u) := by
  simp only [stepA] at h
  split at h
  case h_2 => cases h
  rename_i fn hfn
  obtain ⟨Fn, hF⟩ := hE.fns f fn hfn
  have hfr := newFr_rel hF ha
  refine ⟨enter_run hF _, ?_⟩
  split at h
  · rename_i o rest hrec
    obtain ⟨htk, e, n, t, rd, l, he, hc, hl⟩ := endD_some h
    obtain ⟨id, ops, hbody, hops, hg, k, hk, hk2⟩ := recFirst_some hrec
    have hops' : ops = #[o] := by apply Array.ext'; simpa using hops
    subst hops'
    refine callsDIn_of_wpSIn hF.at_ (hF.body.trans (by rw [hbody])) trivial fun c₀ cs hc0 => ?_
    refine wpSIn_seq (wpSIn_region ?_)
    have hrun : ∀ a : Act, (execOp a.eval o).run P w = .ok .recover w := by
      intro a
      unfold execOp
      rw [hk]
      simp [resolve, hk2, invoke, builtin]
    have fin : ∀ (a' : Act) (cs' : List Frame) (cv : Value) (u' : FrameMode), VRel M (recOf pan) cv → cs' = { c₀ with mode := u' } :: cs → settle u' = (if taken then .returning else u) →
        a' = Act.put { tmps := cargs.toArray ++ Array.replicate (Fn.ntmps - cargs.toArray.size) undef, defers := [] } o.dst cv →
        wpOpsSIn Fence.wide 0 P #[o] (Exit.thenS (rest.wpSIn Fence.wide 0 P (bodyPostS P Fn c₀ cs (DPost M H w taken H' u))) (bodyPostS P Fn c₀ cs (DPost M H w taken H' u))) [] a' cs' w := by
      intro a' cs' cv u' hcv hcs hset ha'
      subst ha'
      refine wpSIn_of_wpIn rfl (wpIn_mono (codeA_sound (ro := none) hE hs _ _ _ _ _ _ M w _ hc st (hfr.put hcv o.dst)) ?_)
      rintro ex a1 w1 ⟨M1, x1, x2, x3, x4⟩
      rw [← hF.res] at hl
      obtain ⟨cv', r1, r2⟩ := results_sound hE.tys x2 x4.t hl
      rcases he with rfl | rfl
      · simp only [ERel] at x3; subst x3
        exact ⟨df_nil x4.df, u', hcs, cv', r1, ⟨M1, x1, x2⟩, hset⟩
      · simp only [ERel] at x3; subst x3
        exact ⟨df_nil x4.df, u', hcs, cv', r1, ⟨M1, x1, x2⟩, hset⟩
    simp only [List.size_toArray, List.length_cons, List.length_nil, Nat.zero_add, List.range_one, wpOpsSIn, List.getElem?_toArray, List.getElem?_cons_zero]
    refine ⟨fun _ _ => trivial, ?_⟩
    have hw : ∀ y, Region.wanted o y = true := by intro y; simp [Region.wanted, hg]
    rw [hw]
    simp only [if_true, hrun]
    cases pan with
    | none =>
      simp only [URel] at hu; subst hu
      have : recoverD (c₀ :: cs) = none := by simp [recoverD, hc0]
      rw [this]
      exact fin _ _ .nilIface .returning rfl (by rw [← hc0]) (by subst htk; rfl) rfl
    | some v =>
      obtain ⟨cv, rfl, hv⟩ := hu
      have : recoverD (c₀ :: cs) = some (cv, { c₀ with mode := .panicking [{ v := cv, recovered := true }] } :: cs) := by simp [recoverD, hc0]
      rw [this]
      exact fin _ _ cv _ hv rfl (by subst htk; rfl) rfl
  · obtain ⟨htk, e, n, t, rd, l, he, hc, hl⟩ := endD_some h
    refine CallsDIn.mono (callsDIn_of_wp hF.at_ hF.body trivial (R := fun en w' => ∃ cv M', en = .returned cv ∧ Ext M H w M' H' w' ∧ HRel M' H' w') ?_) ?_
    · refine wpIn_mono (codeA_sound (ro := none) hE hs _ _ _ _ _ _ M w _ hc st hfr) ?_
      rintro ex a1 w1 ⟨M1, x1, x2, x3, x4⟩
      rw [← hF.res] at hl
      obtain ⟨cv', r1, r2⟩ := results_sound hE.tys x2 x4.t hl
      rcases he with rfl | rfl
      · simp only [ERel] at x3; subst x3
        exact ⟨df_nil x4.df, cv', r1, cv', M1, rfl, x1, x2⟩
      · simp only [ERel] at x3; subst x3
        exact ⟨df_nil x4.df, cv', r1, cv', M1, rfl, x1, x2⟩
    · rintro en u' w' ⟨rfl, cv, M', rfl, x1, x2⟩
      refine ⟨⟨M', x1, x2⟩, ?_⟩
      subst htk
      cases pan with
      | none => simp only [URel] at hu; subst hu; rfl
      | some v => obtain ⟨cv, rfl, hv⟩ := hu; rfl

theorem setParams_rel {M : List MEnt} : ∀ (ps : List Nat) (args : List AV) (cargs : List Value) (t t' : Tr AV) (tmps : Array Value), setParams tmps.size ps args t = some t' → VRels M args cargs → TRel M t tmps →
    ps.length = cargs.length ∧ ((ps.zip cargs).foldl (fun (tmps : Array Value) (x : Nat × Value) => tmps.setIfInBounds x.1 x.2) tmps).size = tmps.size ∧ TRel M t' ((ps.zip cargs).foldl (fun (tmps : Array Value) (x : Nat × Value) => tmps.setIfInBounds x.1 x.2) tmps) := by
  intro ps
  induction ps with
  | nil =>
    intro args cargs t t' tmps h ha ht
    cases args with
    | nil =>
      simp only [setParams, Option.some.injEq] at h; subst h
      match cargs, ha with
      | [], _ => exact ⟨rfl, rfl, ht⟩
    | cons a as => simp [setParams] at h
  | cons p ps ihp =>
    intro args cargs t t' tmps h ha ht
    cases args with
    | nil => simp [setParams] at h
    | cons a as =>
      match cargs, ha with
      | c :: cs, ⟨h1, h2⟩ =>
        simp only [setParams, Bool.cond_eq_ite, Nat.blt_eq] at h
        split at h
        case isFalse => cases h
        rename_i hp
        have ht' : TRel M (t.set p a) (tmps.setIfInBounds p c) := by
          intro i v hi
          rcases Tr.get_set hi with ⟨rfl, rfl⟩ | ⟨hne, hi⟩
          · exact ⟨c, by simp [hp], h1⟩
          · obtain ⟨cv, hc, hv⟩ := ht i v hi
            exact ⟨cv, by simp only [Array.getElem?_setIfInBounds_ne (Ne.symm hne), hc], hv⟩
        have sz : (tmps.setIfInBounds p c).size = tmps.size := by simp
        rw [← sz] at h
        obtain ⟨k1, k2, k3⟩ := ihp as cs (t.set p a) t' (tmps.setIfInBounds p c) h h2 ht'
        exact ⟨by simp [k1], by simpa using k2, by simpa using k3⟩

theorem zip_fold (ps : Array Nat) (cs : List Value) (tmps : Array Value) :
    (ps.zip cs.toArray).foldl (fun (tmps : Array Value) (x : Nat × Value) => tmps.setIfInBounds x.1 x.2) tmps = (ps.toList.zip cs).foldl (fun (tmps : Array Value) (x : Nat × Value) => tmps.setIfInBounds x.1 x.2) tmps := by
  rw [← Array.foldl_toList, Array.toList_zip]

theorem yield_step (hE : EnvOk E P I) (hs : Sound E P I ih) {id : Nat} {args : List AV} {H : AHeap} {r : CRes} {M : List MEnt} {w : World} {cargs : List Value} {m : MEnt}
    (h : stepA E ih (.yield id args H) = some (.call r)) (st : St E I M H w) (ha : VRels M args cargs) (hm : M[id]? = some m) :
    ∃ f tmps assign body, (Instr.yield m.block cargs.toArray).run P w = .ok (.round m.block f tmps assign body) w ∧ RoundIn Fence.wide 0 P m.block f tmps assign body w (CallPost M H w r) := by
  simp only [stepA] at h
  split at h
  case h_2 => cases h
  rename_i pend n t ps assign body d hget
  split at h
  · cases h
  rename_i t' ht'
  obtain ⟨L, e1, e2, e3, e4, e5, e6, e7, e8, e9⟩ := getLoop_rel st.hr hm hget
  subst e7
  obtain ⟨k1, k2, k3⟩ := setParams_rel ps args cargs t t' L.tmps ht' ha e8
  have hsz : cargs.toArray.size = L.params.size := by rw [show L.params.size = L.params.toList.length from Array.length_toList.symm, e4, k1]; simp
  have hy := run_yield (P := P) (args := cargs.toArray) e1 hsz
  rw [e5, e6] at hy
  refine ⟨_, _, _, _, hy, roundIn_of_wpIn trivial ?_⟩
  rw [show (L.params.zip cargs.toArray).foldl (fun tmps x => match x with | (t, a) => tmps.setIfInBounds t a) L.tmps = (ps.zip cargs).foldl (fun (tmps : Array Value) (x : Nat × Value) => tmps.setIfInBounds x.1 x.2) L.tmps by rw [← e4]; exact zip_fold _ _ _]
  split at h
  case h_2 => cases h
  rename_i fr1 H1 hc1
  refine wpIn_mono (F := FF (some m.block)) (codeA_sound (ro := some m.block) hE hs _ _ _ _ _ _ M w _ hc1 st ⟨rfl, k2, k3, .nil⟩) ?_
  rintro ex a1 w1 ⟨M1, x1, x2, x3, x4⟩
  simp only [ERel] at x3; subst x3
  split at h
  case h_2 => cases h
  rename_i pend1 m1 u1 ps1 as1 bo1 d1 hget1
  have hm1 := pre_get x1.pre hm
  obtain ⟨L1, f1, f2, f3, _⟩ := getLoop_rel x2 hm1 hget1
  obtain ⟨y1, y2⟩ := putLoop x2 hm1 hget1 f1 (st' := .busy) (pend' := pend1) (cst := .busy) (cp := L1.pending) rfl f3
  refine ⟨_, run_beginRound f1 f2, ?_⟩
  split at h
  case h_2 => cases h
  rename_i e fr2 H2 hc2
  refine wpIn_mono (F := FF (some m.block)) (codeA_sound (ro := some m.block) hE hs _ _ _ _ _ _ M1 _ _ hc2 ((st.next hE x1 x2).next hE y2 y1) x4) ?_
  rintro ex a2 w2 ⟨M2, z1, z2, z3, z4⟩
  split at h
  case h_2 => cases h
  rename_i st2 pend2 m2 u2 ps2 as2 bo2 d2 hget2
  have hm2 := pre_get z1.pre hm1
  obtain ⟨L2, g1, g2, g3, _⟩ := getLoop_rel z2 hm2 hget2
  have xx := (x1.trans y2).trans z1
  cases e with
  | normal =>
    simp only [ERel] at z3; subst z3
    simp only [Option.some.injEq, TRes.call.injEq] at h; subst h
    obtain ⟨q1, q2⟩ := putLoop z2 hm2 hget2 g1 (st' := .ready) (pend' := none) (cst := .ready) (cp := none) rfl rfl
    exact ⟨_, _, run_endRound none g1, _, _, M2, rfl, xx.trans q2, q1, rfl⟩
  | ret =>
    simp only [ERel] at z3; subst z3
    simp only [Option.some.injEq, TRes.call.injEq] at h; subst h
    obtain ⟨q1, q2⟩ := putLoop z2 hm2 hget2 g1 (st' := .done) (pend' := some .ret) (cst := .done) (cp := some .ret) rfl rfl
    exact ⟨_, _, run_endRound (some .ret) g1, _, _, M2, rfl, xx.trans q2, q1, rfl⟩
  | exit i =>
    simp only [ERel] at z3; subst z3
    simp only [Option.some.injEq, TRes.call.injEq] at h; subst h
    obtain ⟨q1, q2⟩ := putLoop z2 hm2 hget2 g1 (st' := .done) (pend' := some (.exit i)) (cst := .done) (cp := some (.exit i)) rfl rfl
    exact ⟨_, _, run_endRound (some (.exit i)) g1, _, _, M2, rfl, xx.trans q2, q1, rfl⟩
  | panic v => cases h

theorem sound_step (hE : EnvOk E P I) (hs : Sound E P I ih) : Sound E P I (stepA E ih) where
  loop := by
    intro ro c fr H e fr' H' M w a h st hf
    simp only [stepA, codeA] at h
    refine loopWp_of ?_
    split at h
    · rename_i fr1 H1 hx
      refine wpIn_mono (codeA_sound hE hs c fr H _ _ _ M w a hx st hf) ?_
      rintro ex a1 w1 ⟨M1, x1, x2, x3, x4⟩
      simp only [ERel] at x3; subst x3
      intro b k cs hro hb hr
      obtain ⟨e2, a2, w2, q, r⟩ := hs.loop ro c fr1 H1 e fr' H' M1 w1 a1 h (st.next hE x1 x2) x4 b k cs hro hb hr
      exact ⟨e2, a2, w2, q.after x1, r⟩
    · rename_i hne
      refine wpIn_mono (codeA_sound hE hs c fr H e fr' H' M w a h st hf) fun ex a1 w1 hp => post_then (fun he => hne fr' H' (by rw [h, he])) hp
  call := fun _ _ _ _ _ _ _ h st ha => call_step hE hs h st ha
  dcall := fun _ _ _ _ _ _ _ _ _ _ h st ha hu => dcall_step hE hs h st ha hu
  yield := fun _ _ _ _ _ _ _ _ h st ha hm => yield_step hE hs h st ha hm

theorem sound_run (hE : EnvOk E P I) : ∀ n, Sound E P I (run E n)
  | 0 => ⟨fun _ _ _ _ _ _ _ _ _ _ h => (by cases h), fun _ _ _ _ _ _ _ h => (by cases h), fun _ _ _ _ _ _ _ _ _ _ h => (by cases h), fun _ _ _ _ _ _ _ _ h => (by cases h)⟩
  | n + 1 => sound_step hE (sound_run hE n)

/-- What the interpreter answers for a call, the program does. -/
theorem run_sound (hE : EnvOk E P I) {n : Nat} {f : FuncId} {args : List AV} {H : AHeap} {r : CRes} (h : run E n (.call f args H) = some (.call r)) {M : List MEnt} {w : World} {cargs : List Value} (st : St E I M H w) (ha : VRels M args cargs) :
    CallsA P f cargs M H w r := (sound_run hE n).call f args H r M w cargs h st ha
end
end Go.Vai
