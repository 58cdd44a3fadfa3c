/- Maps: what is found by a key, laid under a key, gone over. -/
import Derived.Test.YtopjbfgikglncaaGreatDoorVaiConv
namespace Go.Vai
/-! ### Values told apart -/
mutual
theorem eqb_eq : ∀ (a b : AV), AV.eqb a b = true → a = b
  | .bool a, b, h => by cases b <;> simp_all [AV.eqb]
  | .int j a, b, h => by
    cases b <;> simp only [AV.eqb, Bool.and_eq_true, sameKind_iff, ieq_iff, decide_eq_true_eq, Bool.false_eq_true] at h
    rw [h.1, h.2]
  | .str a, b, h => by
    cases b <;> simp only [AV.eqb, leq_iff, decide_eq_true_eq, Bool.false_eq_true] at h
    rw [h]
  | .nilp, b, h => by cases b <;> simp_all [AV.eqb]
  | .ptr x y, b, h => by
    cases b <;> simp only [AV.eqb, Bool.and_eq_true, Nat.beq_eq, Bool.false_eq_true] at h
    rw [h.1, h.2]
  | .nils, b, h => by cases b <;> simp_all [AV.eqb]
  | .sl x y z none, b, h => by
    cases b with
    | sl d e f c => cases c <;> simp_all [AV.eqb]
    | _ => simp_all [AV.eqb]
  | .sl x y z (some q), b, h => by
    cases b with
    | sl d e f c => cases c <;> simp_all [AV.eqb]
    | _ => simp_all [AV.eqb]
  | .sl0, b, h => by cases b <;> simp_all [AV.eqb]
  | .nilf, b, h => by cases b <;> simp_all [AV.eqb]
  | .fn f x y, b, h => by
    cases b <;> simp only [AV.eqb, Bool.and_eq_true, Nat.beq_eq, Bool.false_eq_true] at h
    rw [h.1, eqbs_eq _ _ h.2.1, eqbs_eq _ _ h.2.2]
  | .yld _, b, h => by cases b <;> simp_all [AV.eqb]
  | .nili, b, h => by cases b <;> simp_all [AV.eqb]
  | .iface t a, b, h => by
    cases b <;> simp only [AV.eqb, Bool.and_eq_true, Nat.beq_eq, Bool.false_eq_true] at h
    rw [h.1, eqb_eq _ _ h.2]
  | .agg as, b, h => by
    cases b <;> simp only [AV.eqb, Bool.false_eq_true] at h
    rw [eqbs_eq _ _ h]
  | .tup as, b, h => by
    cases b <;> simp only [AV.eqb, Bool.false_eq_true] at h
    rw [eqbs_eq _ _ h]
  | .nilm, b, h => by cases b <;> simp_all [AV.eqb]
  | .opq, b, h => by cases b <;> simp_all [AV.eqb]
  | .mapv _, b, h => by cases b <;> simp_all [AV.eqb]
theorem eqbs_eq : ∀ (a b : List AV), AV.eqb.eqbs a b = true → a = b
  | [], b, h => by cases b <;> simp_all [AV.eqb.eqbs]
  | x :: xs, b, h => by
    cases b with
    | nil => simp [AV.eqb.eqbs] at h
    | cons y ys =>
      simp only [AV.eqb.eqbs, Bool.and_eq_true] at h
      rw [eqb_eq _ _ h.1, eqbs_eq _ _ h.2]
end

section
variable {E : Env} {P : Program} {M : List MEnt} {w : World}
theorem grown_put' (w : World) (b : Nat) (o : Obj) : w.grownBy { w with heap := w.heap.setIfInBounds b o } (some b) :=
  ⟨rfl, rfl, rfl, by simp, fun i _ hi => by
    have : i ≠ b := fun e => hi (by rw [e])
    simp [Ne.symm this]⟩

theorem eqEs_sound (hE : TysOk E P) {e : Nat} {ei : ATy} {d k : Nat} (hdk : d ≤ k) {as bs : List AV} {xs ys : List Value} (hx : VRels M as xs) (hy : VRels M bs ys) {f : Nat → Option Bool × Unit → Sem (ForInStep (Option Bool × Unit))}
    (hf : ∀ j s u v q, (part e xs.toArray (j * ei.size)).run P w = .ok u w → (part e ys.toArray (j * ei.size)).run P w = .ok v w → (Op.equalIn k e u v).run P w = .ok q w → (f j s).run P w = .ok (bif q then .yield (none, ()) else .done (some false, ())) w) :
    ∀ (n i : Nat) (b : Bool), eqEs E (eqv E d) e ei.size as bs n i = some b → (forIn (List.range' i n) (none, ()) f : Sem (Option Bool × Unit)).run P w = .ok (bif b then (none, ()) else (some false, ())) w
  | 0, i, b, h => by
    simp only [eqEs, Option.some.injEq] at h; subst h
    simp
  | n + 1, i, b, h => by
    simp only [eqEs] at h
    cases hpx : partA E e as (i * ei.size) with
    | none => simp [hpx] at h
    | some px =>
      cases hpy : partA E e bs (i * ei.size) with
      | none => simp [hpx, hpy] at h
      | some py =>
        obtain ⟨cpx, rx, vx⟩ := partA_sound (w := w) hE hx hpx
        obtain ⟨cpy, ry, vy⟩ := partA_sound (w := w) hE hy hpy
        simp only [hpx, hpy] at h
        cases hq : eqv E d e px py with
        | none => simp [hq] at h
        | some q =>
          have hr2 := eqv_sound (w := w) hE d k e px py q cpx cpy hdk hq vx vy
          simp only [hq] at h
          simp only [List.range'_succ, List.forIn_cons, Sem.run_bind, hf i _ _ _ _ rx ry hr2, Result.andThen_ok]
          cases q with
          | false => simp only [Option.some.injEq] at h; subst h; simp
          | true => exact eqEs_sound hE hdk hx hy hf n (i + 1) b h

theorem eqArr_sound (hE : TysOk E P) {t e n : Nat} {ti ei : ATy} (hty : E.ty t = some ti) (hd : ti.d = .array n e) (he : E.ty e = some ei) {k : Nat} (hk : 5 ≤ k) {as bs : List AV} {b : Bool} {cx cy : Value} (h : eqEs E (eqv E 5) e ei.size as bs n 0 = some b) (hx : VRel M (.agg as) cx) (hy : VRel M (.agg bs) cy) :
    (Op.equalIn (k + 1) t cx cy).run P w = .ok b w := by
  obtain ⟨i, td, z, ht⟩ := hE.ty t ti hty
  obtain ⟨ie, tde, ze, hte⟩ := hE.ty e ei he
  have hdd := ht.desc
  rw [hd] at hdd
  simp only [DRel] at hdd
  subst hdd
  obtain ⟨xs, rfl, hxs⟩ := hx
  obtain ⟨ys, rfl, hys⟩ := hy
  simp only [Op.equalIn, Sem.run_bind, run_und ht, Result.andThen_ok, run_size hte]
  simp only [Std.Legacy.Range.forIn_eq_forIn_range', Std.Legacy.Range.size, Nat.sub_zero, Nat.add_sub_cancel, Nat.div_one]
  rw [eqEs_sound (ei := ei) hE hk hxs hys (fun j s u v q h1 h2 h3 => by
    simp only [Sem.run_bind, h1, h2, h3, Result.andThen_ok]
    cases q <;> simp) n 0 b h]
  cases b <;> simp

theorem eqK_sound (hE : TysOk E P) {t : Nat} {x y : AV} {b : Bool} {cx cy : Value} (h : eqK E t x y = some b) (hx : VRel M x cx) (hy : VRel M y cy) : (Op.equal t cx cy).run P w = .ok b w := by
  have plain : eqv E 6 t x y = some b → (Op.equal t cx cy).run P w = .ok b w := fun h => eqv_sound hE 6 Op.maxDepth t x y b cx cy (by decide) h hx hy
  unfold eqK at h
  split at h
  · rename_i ti as bs hty
    split at h
    · rename_i n e hd
      split at h
      case h_2 => cases h
      rename_i ei he
      exact eqArr_sound hE hty hd he (k := 9999) (by decide) h hx hy
    · exact plain h
  · exact plain h

theorem forIn_unit {α : Type} {f : α → Unit → Sem (ForInStep Unit)} : ∀ (l : List α), (∀ x ∈ l, ∀ s, (f x s).run P w = .ok (.yield ()) w) → (forIn l () f : Sem Unit).run P w = .ok () w
  | [], _ => by simp
  | x :: l, h => by
    simp only [List.forIn_cons, Sem.run_bind, h x List.mem_cons_self, Result.andThen_ok]
    exact forIn_unit l fun y hy => h y (List.mem_cons_of_mem _ hy)

theorem checkB (hE : TysOk E P) {t : Nat} (h : keyB E t = true) (em : Bool) {n : Nat} (hn : 1 ≤ n) (cv : Value) : (Instr.checkKey em n t cv).run P w = .ok () w := by
  obtain ⟨n, rfl⟩ : ∃ m, n = m + 1 := ⟨n - 1, by omega⟩
  unfold keyB at h
  split at h
  case h_2 => cases h
  rename_i ti hty
  obtain ⟨i, td, z, ht⟩ := hE.ty t ti hty
  have hd := ht.desc
  split at h <;> first | (cases h; done) | skip
  all_goals
    rename_i hq
    rw [hq] at hd
    simp only [DRel] at hd
    subst hd
    simp [Instr.checkKey, run_und ht]

theorem checkKey_sound (hE : TysOk E P) {t : Nat} {v : AV} {cv : Value} (h : keyOk E t v = true) (hv : VRel M v cv) (em : Bool) {n : Nat} (hn : 1 ≤ n) : (Instr.checkKey em (n + 1) t cv).run P w = .ok () w := by
  unfold keyOk at h
  split at h
  case h_2 => cases h
  rename_i ti hty
  obtain ⟨i, td, z, ht⟩ := hE.ty t ti hty
  have hd := ht.desc
  have agg : isAggV v = true → ∃ as xs, v = .agg as ∧ cv = .agg xs.toArray ∧ VRels M as xs := fun h => by
    cases v <;> first | (cases h; done) | skip
    obtain ⟨xs, rfl, r⟩ := hv
    exact ⟨_, xs, rfl, rfl, r⟩
  split at h <;> first | (cases h; done) | skip
  case h_4 =>
    rename_i fs q hq
    rw [hq] at hd
    obtain ⟨F, rfl, hF, _⟩ := hd
    simp only [Bool.and_eq_true, List.all_eq_true] at h
    obtain ⟨as, xs, rfl, rfl, r⟩ := agg h.1
    simp only [Instr.checkKey, Sem.run_bind, run_und ht, Result.andThen_ok]
    rw [← Array.forIn_toList]
    rw [forIn_unit F.toList]
    · simp
    intro x hx s
    have hm : (x.offset, x.type) ∈ fs := by rw [← hF]; exact List.mem_map_of_mem hx
    obtain ⟨h1, h2⟩ := h.2 _ hm
    obtain ⟨px, hp⟩ := Option.isSome_iff_exists.1 h2
    obtain ⟨cp, rp, _⟩ := partA_sound (w := w) hE r hp
    split
    · simp only [Sem.run_bind, rp, checkB hE h1 em hn, Result.andThen_ok, Sem.run_pure]
    · simp
  case h_5 =>
    rename_i len e hq
    rw [hq] at hd
    simp only [DRel] at hd
    subst hd
    split at h
    case h_2 => cases h
    rename_i ei he
    obtain ⟨ie, tde, ze, hte⟩ := hE.ty e ei he
    simp only [Bool.and_eq_true, List.all_eq_true, List.mem_range] at h
    obtain ⟨as, xs, rfl, rfl, r⟩ := agg h.1
    simp only [Instr.checkKey, Sem.run_bind, run_und ht, Result.andThen_ok]
    simp only [Std.Legacy.Range.forIn_eq_forIn_range', Std.Legacy.Range.size, Nat.sub_zero, Nat.add_sub_cancel, Nat.div_one]
    rw [forIn_unit (List.range' 0 len)]
    · simp
    intro x hx s
    have hx' : x < len := by simpa [List.mem_range'] using hx
    obtain ⟨px, hp⟩ := Option.isSome_iff_exists.1 (h.2.2 x hx')
    obtain ⟨cp, rp, _⟩ := partA_sound (w := w) hE r hp
    simp only [Sem.run_bind, run_size hte, rp, checkB hE h.2.1 em hn, Result.andThen_ok, Sem.run_pure]
  all_goals
    rename_i hq
    rw [hq] at hd
    simp only [DRel] at hd
    subst hd
    simp [Instr.checkKey, run_und ht]

/-- What is found. -/
def FRelO (M : List MEnt) : Option (Nat × AV) → Option (Nat × Value) → Prop
  | none, r => r = none
  | some (i, v), r => ∃ cv, r = some (i, cv) ∧ VRel M v cv
theorem findAsking_sound (hE : TysOk E P) {t : Nat} {k : AV} {ck : Value} (hk : VRel M k ck) : ∀ {es : List (AV × AV × Nat)} {ces : List MapEntry} {i : Nat} {r : Option (Nat × AV)}, keyFind E t k es i = some r → EsRel M es ces →
    ∃ cr, (Instr.findAsking t ck ces i).run P w = .ok cr w ∧ FRelO M r cr
  | [], [], i, r, h, _ => by
    simp only [keyFind, Option.some.injEq] at h; subst h
    exact ⟨none, by simp [Instr.findAsking], rfl⟩
  | (k', v, b) :: es, e :: ces, i, r, h, ⟨r1, r2, _, r4⟩ => by
    simp only [keyFind] at h
    cases hq : eqK E t k k' with
    | none => simp [hq] at h
    | some q =>
      have he := eqK_sound (w := w) hE hq hk r1
      simp only [hq] at h
      cases q with
      | true =>
        simp only [Option.some.injEq] at h; subst h
        exact ⟨some (i, e.val), by simp [Instr.findAsking, he], e.val, rfl, r2⟩
      | false =>
        obtain ⟨cr, h1, h2⟩ := findAsking_sound hE hk h r4
        exact ⟨cr, by simp [Instr.findAsking, he, h1], h2⟩
theorem findNow_asking {t : Nat} {d : TypeDesc} {ck : Value} (hu : P.underlying t = some d) : ∀ {ces : List MapEntry} {i : Nat} {r : Option (Nat × Value)}, Instr.findNow d ck ces i = some r → (Instr.findAsking t ck ces i).run P w = .ok r w
  | [], i, r, h => by
    simp only [Instr.findNow, Option.some.injEq] at h; subst h
    simp [Instr.findAsking]
  | e :: ces, i, r, h => by
    simp only [Instr.findNow] at h
    have eqOf : ∀ q, Instr.sameNow d ck e.key = some q → (Op.equal t ck e.key).run P w = .ok q w := fun q hs => by
      generalize e.key = x at hs ⊢
      unfold Instr.sameNow at hs
      split at hs
      · split at hs
        · simp only [Option.some.injEq] at hs; subst hs
          rename_i hkk; subst hkk
          exact run_equalIn_int w 9999 t _ _ _ _ hu
        · cases hs
      · simp only [Option.some.injEq] at hs; subst hs
        have := run_equalIn_string (P := P) w 9999 t
        rw [beq_toListBytes]
        exact this _ _ hu
      · simp only [Option.some.injEq] at hs; subst hs
        exact run_equalIn_bool w 9999 t _ _ hu
      · cases hs
    split at h
    · rename_i hs
      simp only [Option.some.injEq] at h; subst h
      simp [Instr.findAsking, eqOf _ hs]
    · rename_i hs
      simp [Instr.findAsking, eqOf _ hs, findNow_asking hu h]
    · cases h
theorem findKey_sound (hE : TysOk E P) {t : Nat} {d : TypeDesc} (hu : P.underlying t = some d) {k : AV} {ck : Value} (hk : VRel M k ck) {es : List (AV × AV × Nat)} {ces : List MapEntry} {r : Option (Nat × AV)} (h : keyFind E t k es 0 = some r) (he : EsRel M es ces) :
    ∃ cr, (Instr.findKey t ck ces).run P w = .ok cr w ∧ FRelO M r cr := by
  obtain ⟨cr, h1, h2⟩ := findAsking_sound (w := w) hE hk h he
  refine ⟨cr, ?_, h2⟩
  simp only [Instr.findKey, Sem.run_bind, run_underlying hu, Result.andThen_ok]
  split
  · rename_i q hq
    rw [findNow_asking (w := w) hu hq] at h1
    simpa using h1
  · exact h1

theorem zeroV_rel {t : Nat} {ti : ATy} {i : TypeInfo} {d : TypeDesc} {z : Value} (ht : TyOk P t ti i d z) {v : AV} (h : zeroV ti = some v) : VRel M v z := zeroVal_rel ht h
theorem mapRow_sound {H : AHeap} (hr : HRel M H w) {x : AV} {cx : Value} (hx : VRel M x cx) {es : List (AV × AV × Nat)} (h : mapRow H x = some es) :
    (cx = .map none ∧ es = []) ∨ ∃ id m ces clock, x = .mapv id ∧ cx = .map (some m.block) ∧ M[id]? = some m ∧ (∃ q, H.get id = some (.mp es clock q)) ∧ w.heap[m.block]? = some (.map (List.toArray ces) clock) ∧ EsRel M es ces := by
  unfold mapRow at h
  split at h
  · simp only [Option.some.injEq] at h
    exact .inl ⟨hx, h.symm⟩
  · rename_i id
    split at h
    · rename_i es' clock q hget
      simp only [Option.some.injEq] at h
      subst h
      obtain ⟨m, hm, rfl⟩ := hx
      obtain ⟨ces, h1, h2⟩ := hr.blk hget hm
      exact .inr ⟨id, m, ces, clock, rfl, rfl, hm, ⟨q, hget⟩, h1, h2⟩
    · cases h
  · cases h

theorem lookupA_sound (hE : TysOk E P) {H : AHeap} (hr : HRel M H w) {t : TypeId} {x k : AV} {ok : Bool} {v : AV} (h : lookupA E H t x k ok = some v) {cx ck : Value} (hx : VRel M x cx) (hk : VRel M k ck) :
    ∃ cv, (Instr.lookup t cx ck ok).run P w = .ok cv w ∧ VRel M v cv := by
  unfold lookupA at h
  split at h
  case h_2 => cases h
  rename_i ti hty
  obtain ⟨i, td, z, ht⟩ := hE.ty t ti hty
  have hd := ht.desc
  split at h
  case h_2 => cases h
  rename_i kt et hq
  rw [hq] at hd
  simp only [DRel] at hd
  subst hd
  cases hko : keyOk E kt k with
  | false => simp [hko] at h
  | true =>
    simp only [hko, cond_true] at h
    split at h
    case h_2 => cases h
    rename_i es hes
    obtain ⟨kti, hkt⟩ : ∃ kti, E.ty kt = some kti := by
      unfold keyOk at hko
      split at hko
      · exact ⟨_, by assumption⟩
      · cases hko
    obtain ⟨ki, ktd, kz, hkty⟩ := hE.ty kt kti hkt
    have main : ∀ ces : List MapEntry, EsRel M es ces → ∃ cv, ((do
        Instr.checkKey ces.toArray.isEmpty 10000 kt ck
        let (v, ok') ← match ← Instr.findKey kt ck ces with
          | some (_, v) => pure (v, true)
          | none => pure (← zeroValue et, false)
        pure (if ok = true then .tuple #[v, .bool ok'] else v)) : Sem Value).run P w = .ok cv w ∧ VRel M v cv := by
      intro ces he
      simp only [Sem.run_bind, checkKey_sound hE hko hk _ (n := 9999) (by decide), Result.andThen_ok]
      split at h
      · rename_i j u hf
        obtain ⟨cr, h1, cu, rfl, h2⟩ := findKey_sound (w := w) hE hkty.und hk hf he
        simp only [Option.some.injEq] at h
        subst h
        refine ⟨if ok = true then .tuple #[cu, .bool true] else cu, by simp [h1], ?_⟩
        cases ok with
        | true => exact ⟨[cu, .bool true], rfl, h2, rfl, trivial⟩
        | false => exact h2
      · rename_i ei hf hei
        obtain ⟨cr, h1, h2⟩ := findKey_sound (w := w) hE hkty.und hk hf he
        simp only [FRelO] at h2
        subst h2
        obtain ⟨ie, etd, ez, hety⟩ := hE.ty et ei hei
        split at h
        case h_2 => cases h
        rename_i zv hz
        simp only [Option.some.injEq] at h
        subst h
        refine ⟨if ok = true then .tuple #[ez, .bool false] else ez, by simp [h1, run_zero hety], ?_⟩
        have rz := zeroV_rel (M := M) hety hz
        cases ok with
        | true => exact ⟨[ez, .bool false], rfl, rz, rfl, trivial⟩
        | false => exact rz
      · cases h
    rcases mapRow_sound hr hx hes with ⟨rfl, rfl⟩ | ⟨id, m, ces, clock, _, rfl, _, _, hb, he⟩
    · obtain ⟨cv, h1, h2⟩ := main [] trivial
      refine ⟨cv, ?_, h2⟩
      simp only [Instr.lookup, Sem.run_bind, run_und ht, Result.andThen_ok, Sem.run_pure]
      simp only [Sem.run_bind] at h1
      exact h1
    · obtain ⟨cv, h1, h2⟩ := main ces he
      refine ⟨cv, ?_, h2⟩
      have hobj : (getObj m.block).run P w = .ok (.map (List.toArray ces) clock) w := by simp [getObj, Sem.run, hb]
      simp only [Instr.lookup, Sem.run_bind, run_und ht, Result.andThen_ok, hobj, Sem.run_pure]
      simp only [Sem.run_bind] at h1
      exact h1

theorem EsRel.len : ∀ {es : List (AV × AV × Nat)} {ces : List MapEntry}, EsRel M es ces → es.length = ces.length
  | [], [], _ => rfl
  | (_, _, _) :: _, _ :: _, ⟨_, _, _, r⟩ => by simp [EsRel.len r]
theorem EsRel.append : ∀ {es es' : List (AV × AV × Nat)} {ces ces' : List MapEntry}, EsRel M es ces → EsRel M es' ces' → EsRel M (es ++ es') (ces ++ ces')
  | [], _, [], _, _, h => h
  | (_, _, _) :: _, _, _ :: _, _, ⟨a, b, c, r⟩, h => ⟨a, b, c, EsRel.append r h⟩
theorem EsRel.putAt {v : AV} {cv : Value} (hv : VRel M v cv) (ck : MapEntry → Value) : ∀ {es : List (AV × AV × Nat)} {ces : List MapEntry} (i : Nat), EsRel M es ces → (∀ e, ces[i]? = some e → ck e = e.key) → EsRel M (Vai.putAt v es i) (ces.modify i fun e => { e with key := ck e, val := cv })
  | [], [], _, _, _ => by simp [Vai.putAt, EsRel]
  | (k, u, b) :: es, e :: ces, 0, ⟨r1, _, r3, r4⟩, h => by
    have := h e (by simp)
    simp only [Vai.putAt, List.modify_zero_cons]
    exact ⟨by simp only [this]; exact r1, hv, r3, r4⟩
  | (k, u, b) :: es, e :: ces, i + 1, ⟨r1, r2, r3, r4⟩, h => by
    simp only [Vai.putAt, List.modify_succ_cons]
    exact ⟨r1, r2, r3, EsRel.putAt hv ck i r4 fun x hx => h x (by simpa using hx)⟩
theorem EsRel.keyAt : ∀ {es : List (AV × AV × Nat)} {ces : List MapEntry} {i : Nat} {k : AV}, EsRel M es ces → Vai.keyAt es i = some k → ∃ e, ces[i]? = some e ∧ VRel M k e.key
  | [], [], i, k, _, h => by cases i <;> simp [Vai.keyAt] at h
  | (k', u, b) :: es, e :: ces, 0, k, ⟨r1, _, _, _⟩, h => by
    simp only [Vai.keyAt, Option.some.injEq] at h; subst h
    exact ⟨e, by simp, r1⟩
  | (k', u, b) :: es, e :: ces, i + 1, k, ⟨_, _, _, r4⟩, h => by
    obtain ⟨x, hx, hk⟩ := EsRel.keyAt r4 (i := i) h
    exact ⟨x, by simpa using hx, hk⟩
def litV : AV → Bool
  | .int _ _ => true
  | .str _ => true
  | .bool _ => true
  | _ => false
theorem sameBits_lit (n : Nat) {v : AV} (h : litV v = true) {c : Value} (r : VRel M v c) : Instr.sameBits n c c = true := by
  cases v <;> first | (cases h; done) | skip
  all_goals
    simp only [VRel] at r
    subst r
    cases n <;> simp [Instr.sameBits, beq_toListBytes]
theorem sameBits_lits (n : Nat) : ∀ {l : List AV} {cs : List Value}, l.all litV = true → VRels M l cs → ((cs.zip cs).all fun (x, y) => Instr.sameBits n x y) = true
  | [], [], _, _ => rfl
  | a :: l, c :: cs, h, ⟨r1, r2⟩ => by
    simp only [List.all_cons, Bool.and_eq_true] at h
    simp only [List.zip_cons_cons, List.all_cons, Bool.and_eq_true]
    exact ⟨sameBits_lit n h.1 r1, sameBits_lits n h.2 r2⟩
theorem stays_lit {v : AV} (h : stays v = true) : litV v = true ∨ ∃ l, v = .agg l ∧ l.all litV = true := by
  cases v <;> first | (exact .inl rfl) | (cases h; done) | skip
  rename_i l
  refine .inr ⟨l, rfl, ?_⟩
  rw [List.all_eq_true]
  intro x hx
  have := List.all_eq_true.1 h x hx
  cases x <;> first | rfl | (cases this; done)
theorem sameBits_stays (n : Nat) {v : AV} (h : stays v = true) {c : Value} (r : VRel M v c) : Instr.sameBits (n + 1) c c = true := by
  rcases stays_lit h with h | ⟨l, rfl, h⟩
  · exact sameBits_lit _ h r
  · obtain ⟨vs, rfl, r⟩ := r
    simp only [Instr.sameBits, beq_self_eq_true, Bool.true_and]
    exact sameBits_lits n h r
theorem keyThatStays_same {v : AV} (h : stays v = true) {c : Value} (r : VRel M v c) : (Instr.keyThatStays c c).run P w = .ok c w := by
  unfold Instr.keyThatStays
  rw [if_pos (sameBits_stays 9999 h r)]
  simp

theorem litV_val {v : AV} (h : litV v = true) {c d : Value} (r : VRel M v c) (q : VRel M v d) : c = d := by
  cases v <;> first | (cases h; done) | skip
  all_goals
    simp only [VRel] at r q
    rw [r, q]
theorem lits_val : ∀ {l : List AV} {cs ds : List Value}, l.all litV = true → VRels M l cs → VRels M l ds → cs = ds
  | [], [], [], _, _, _ => rfl
  | a :: l, c :: cs, d :: ds, h, r, q => by
    simp only [List.all_cons, Bool.and_eq_true] at h
    rw [litV_val h.1 r.1 q.1, lits_val h.2 r.2 q.2]
theorem stays_val {v : AV} (h : stays v = true) {c d : Value} (r : VRel M v c) (q : VRel M v d) : c = d := by
  rcases stays_lit h with h | ⟨l, rfl, h⟩
  · exact litV_val h r q
  · obtain ⟨vs, rfl, r⟩ := r
    obtain ⟨us, rfl, q⟩ := q
    rw [lits_val h r q]
theorem updateA_sound (hE : TysOk E P) {H H' : AHeap} (hr : HRel M H w) {t : TypeId} {x k v : AV} (h : updateA E H t x k v = some H') {cx ck cv : Value} (hx : VRel M x cx) (hk : VRel M k ck) (hv : VRel M v cv) :
    ∃ w', (Instr.mapUpdate t cx ck cv).run P w = .ok () w' ∧ Ext M H w M H' w' ∧ HRel M H' w' := by
  unfold updateA at h
  split at h
  case h_2 => cases h
  rename_i ti id hty
  split at h
  case h_2 => cases h
  rename_i kt et es clock hq hget
  obtain ⟨i, td, z, ht⟩ := hE.ty t ti hty
  have hd := ht.desc
  rw [hq] at hd
  simp only [DRel] at hd
  subst hd
  cases hko : keyOk E kt k with
  | false => simp [hko] at h
  | true =>
    simp only [hko, cond_true] at h
    obtain ⟨kti, hkt⟩ : ∃ kti, E.ty kt = some kti := by
      unfold keyOk at hko
      split at hko
      · exact ⟨_, by assumption⟩
      · cases hko
    obtain ⟨ki, ktd, kz, hkty⟩ := hE.ty kt kti hkt
    obtain ⟨m, hm, rfl⟩ := hx
    obtain ⟨ces, hb, he⟩ := hr.blk hget hm
    have hblt : m.block < w.heap.size := (Array.getElem?_eq_some_iff.1 hb).1
    have hobj : (getObj m.block).run P w = .ok (.map (List.toArray ces) clock) w := by simp [getObj, Sem.run, hb]
    have hset : ∀ o : Obj, (setObj m.block o).run P w = .ok () { w with heap := w.heap.setIfInBounds m.block o } := fun o => by simp [setObj, Sem.run, hb]
    split at h
    · rename_i j u hf
      obtain ⟨cr, h1, cu, rfl, h2⟩ := findKey_sound (w := w) hE hkty.und hk hf he
      split at h
      case h_2 => cases h
      rename_i k' hk'
      simp only [Bool.cond_eq_ite, Bool.and_eq_true] at h
      split at h
      case isFalse => cases h
      rename_i hs
      simp only [Option.some.injEq] at h
      subst h
      have hkk := eqb_eq _ _ hs.2
      subst hkk
      obtain ⟨e, hce, hkey⟩ := EsRel.keyAt he hk'
      have hck := stays_val hs.1 hk hkey
      have he2 := EsRel.putAt (M := M) hv (fun _ => ck) j he (fun x hx => by rw [hce] at hx; cases hx; exact hck)
      obtain ⟨n1, n2⟩ := hr.put hget rfl hm (grown_put' w m.block (.map (List.toArray (ces.modify j fun e => { e with key := ck, val := cv })) clock)) (.mp (putAt v es j) clock false) ⟨_, by simp [hblt], he2⟩
      refine ⟨_, ?_, n2, n1⟩
      simp only [Instr.mapUpdate, Sem.run_bind, run_und ht, hobj, Result.andThen_ok, checkKey_sound hE hko hk _ (n := 9999) (by decide), h1]
      have hold : (((List.toArray ces)[j]?).map (·.key)).getD ck = ck := by simp [hce, hck]
      rw [hold, keyThatStays_same hs.1 hk]
      simp only [Result.andThen_ok, hset, List.modify_toArray]
    · rename_i hf
      obtain ⟨cr, h1, h2⟩ := findKey_sound (w := w) hE hkty.und hk hf he
      simp only [FRelO] at h2
      subst h2
      simp only [Option.some.injEq] at h
      subst h
      have he2 : EsRel M (es ++ [(k, v, clock)]) (ces ++ [({ key := ck, val := cv, born := clock } : MapEntry)]) := he.append ⟨hk, hv, rfl, trivial⟩
      obtain ⟨n1, n2⟩ := hr.put hget rfl hm (grown_put' w m.block (.map (List.toArray (ces ++ [{ key := ck, val := cv, born := clock }])) (clock + 1))) (.mp (es ++ [(k, v, clock)]) (clock + 1) false) ⟨_, by simp [hblt], he2⟩
      refine ⟨_, ?_, n2, n1⟩
      simp only [Instr.mapUpdate, Sem.run_bind, run_und ht, hobj, Result.andThen_ok, checkKey_sound hE hko hk _ (n := 9999) (by decide), h1, hset, List.push_toArray]
    · cases h

theorem memB_eq (n : Nat) : ∀ l : List Nat, memB n l = l.contains n
  | [] => rfl
  | x :: l => by
    simp only [memB, List.contains_cons, memB_eq n l]
    congr 1
    rw [Bool.eq_iff_iff, Nat.beq_eq, beq_iff_eq]; exact eq_comm
theorem unseen_rel (seen : List Nat) : ∀ {es : List (AV × AV × Nat)} {ces : List MapEntry}, EsRel M es ces → EsRel M (unseen seen es) (ces.filter fun e => !(List.toArray seen).contains e.born)
  | [], [], _ => trivial
  | (k, v, b) :: es, e :: ces, ⟨r1, r2, r3, r4⟩ => by
    have ih := unseen_rel seen r4
    simp only [unseen, memB_eq]
    have hc : (List.toArray seen).contains e.born = seen.contains b := by rw [r3]; simp
    rw [List.filter_cons, hc]
    cases seen.contains b with
    | true => simpa using ih
    | false => simp only [cond_false, Bool.not_false, if_true]; exact ⟨r1, r2, r3, ih⟩
theorem EsRel.allBorn {q : Nat → Bool} : ∀ {es : List (AV × AV × Nat)} {ces : List MapEntry}, EsRel M es ces → (ces.all fun e => q e.born) = es.all fun e => q e.2.2
  | [], [], _ => rfl
  | (_, _, b) :: es, e :: ces, ⟨_, _, r3, r4⟩ => by simp [r3, EsRel.allBorn r4]
theorem EsRel.nil_iff : ∀ {es : List (AV × AV × Nat)} {ces : List MapEntry}, EsRel M es ces → anyIn es = !ces.isEmpty
  | [], [], _ => rfl
  | (_, _, _) :: _, _ :: _, _ => rfl

theorem nextA_sound {H H' : AHeap} (hr : HRel M H w) {id : Nat} {v : AV} (h : nextA H id = some (v, H')) {m : MEnt} (hm : M[id]? = some m) (ty : TypeId) :
    ∃ cv w', (Instr.next (.pointer (some ⟨m.block, m.base + 0, none⟩)) false ty).run P w = .ok cv w' ∧ Ext M H w M H' w' ∧ HRel M H' w' ∧ VRel M v cv := by
  unfold nextA at h
  split at h
  · rename_i since seen last hget
    simp only [Option.some.injEq, Prod.mk.injEq] at h
    obtain ⟨rfl, rfl⟩ := h
    obtain ⟨c, hb, h0, hc⟩ := hr.blk hget hm
    simp only [MiRel] at hc
    subst hc
    have hobj : (getObj m.block).run P w = .ok (.mapIter none since (List.toArray seen) last) w := by simp [getObj, Sem.run, hb]
    refine ⟨_, w, ?_, Ext.refl _ _ _, hr, ⟨[.bool false], rfl, rfl, trivial⟩⟩
    rw [h0]
    simp only [Instr.next, Sem.run_bind, hobj, Result.andThen_ok, Sem.run_pure]
  · rename_i mid since seen last hget
    split at h
    case h_2 => cases h
    rename_i es clock qro hgm
    simp only [Bool.cond_eq_ite] at h
    split at h
    case isTrue => cases h
    rename_i hguard
    obtain ⟨c, hb, h0, k, hk, rfl⟩ := hr.blk hget hm
    obtain ⟨ces, hbm, he⟩ := hr.blk hgm hk
    have hobj : (getObj m.block).run P w = .ok (.mapIter (some k.block) since (List.toArray seen) last) w := by simp [getObj, Sem.run, hb]
    have hobm : (getObj k.block).run P w = .ok (.map (List.toArray ces) clock) w := by simp [getObj, Sem.run, hbm]
    have hset : ∀ o : Obj, (setObj m.block o).run P w = .ok () { w with heap := w.heap.setIfInBounds m.block o } := fun o => by simp [setObj, Sem.run, hb]
    have hg : (!(List.toArray seen).isEmpty && !(List.toArray ces).isEmpty && (List.toArray ces).all (·.born ≥ last)) = false := by
      have e1 : (!(List.toArray ces).isEmpty) = anyIn es := by rw [EsRel.nil_iff he]; simp
      have e2 : (List.toArray ces).all (fun e => decide (e.born ≥ last)) = es.all fun e => Nat.ble last e.2.2 := by
        rw [← EsRel.allBorn (q := fun b => Nat.ble last b) he]
        simp only [List.all_toArray]
        congr 1
        funext e
        rw [ble_iff]
      have e3 : (!(List.toArray seen).isEmpty) = anyIn seen := by cases seen <;> simp [anyIn]
      rw [e1, e2, e3, Bool.and_assoc]
      simpa using hguard
    have hleft := unseen_rel seen he
    have hfil : (List.toArray ces).filter (fun e => !(List.toArray seen).contains e.born) = List.toArray (ces.filter fun e => !(List.toArray seen).contains e.born) := by simp
    rw [h0]
    split at h
    · rename_i hu
      simp only [Option.some.injEq, Prod.mk.injEq] at h
      obtain ⟨rfl, rfl⟩ := h
      rw [hu] at hleft
      generalize hL : ces.filter (fun e => !(List.toArray seen).contains e.born) = L at hleft hfil
      cases L with
      | cons => exact hleft.elim
      | nil =>
        refine ⟨_, w, ?_, Ext.refl _ _ _, hr, ⟨[.bool false], rfl, rfl, trivial⟩⟩
        simp only [Instr.next, Sem.run_bind, hobj, hobm, Result.andThen_ok, hg, hfil]
        simp [choose, Sem.run, Question.forced]
    · rename_i k' v' b hu
      split at h
      case isFalse => cases h
      rename_i hlt
      rw [Nat.blt_eq] at hlt
      simp only [Option.some.injEq, Prod.mk.injEq] at h
      obtain ⟨rfl, rfl⟩ := h
      rw [hu] at hleft
      generalize hL : ces.filter (fun e => !(List.toArray seen).contains e.born) = L at hleft hfil
      match L, hleft with
      | [e], ⟨r1, r2, r3, _⟩ =>
      subst r3
      have hblt : m.block < w.heap.size := (Array.getElem?_eq_some_iff.1 hb).1
      obtain ⟨n1, n2⟩ := hr.put hget rfl hm (grown_put' w m.block (.mapIter (some k.block) since (List.toArray (seen ++ [e.born])) clock)) (.miter (some mid) since (seen ++ [e.born]) clock) ⟨some k.block, by simp [hblt], h0, k, hk, rfl⟩
      refine ⟨.tuple #[.bool true, e.key, e.val], _, ?_, n2, n1, ⟨[.bool true, e.key, e.val], rfl, rfl, r1, r2, trivial⟩⟩
      simp only [Instr.next, Sem.run_bind, hobj, hobm, Result.andThen_ok, hg, hfil]
      have hn : ¬ (since ≤ e.born) := by omega
      have f1 : [e].filter (fun x => decide (x.born < since)) = [e] := by simp [hlt]
      have f2 : [e].filter (fun x => decide (since ≤ x.born)) = [] := by simp [hn]
      simp only [List.filter_toArray, ge_iff_le, f1, f2]
      simp [choose, Sem.run, Question.forced, Sem.run_bind, hset]
    · cases h
  · cases h

theorem bornAt_sound (b : Nat) : ∀ {es : List (AV × AV × Nat)} {ces : List MapEntry} {k v : AV}, EsRel M es ces → bornAt b es = some (k, v) → ∃ e, ces.find? (fun e => e.born == b) = some e ∧ VRel M k e.key ∧ VRel M v e.val
  | [], [], _, _, _, h => by cases h
  | (k', v', c) :: es, e :: ces, k, v, ⟨r1, r2, r3, r4⟩, h => by
    simp only [bornAt, Bool.cond_eq_ite, Nat.beq_eq] at h
    split at h
    · rename_i hcb
      simp only [Option.some.injEq, Prod.mk.injEq] at h
      obtain ⟨rfl, rfl⟩ := h
      exact ⟨e, by simp [r3, hcb], r1, r2⟩
    · rename_i hcb
      obtain ⟨x, h1, h2⟩ := bornAt_sound b r4 h
      exact ⟨x, by simp [r3, hcb, h1], h2⟩
theorem lastOf_eq : ∀ {l : List Nat} {b : Nat}, lastOf l = some b → (List.toArray l).back? = some b
  | [], _, h => by cases h
  | [x], b, h => by simpa [lastOf] using h
  | x :: y :: l, b, h => by
    have := lastOf_eq (l := y :: l) h
    simpa using this
theorem entryA_sound {H : AHeap} (hr : HRel M H w) {id : Nat} {v : AV} (h : entryA H id = some v) {m : MEnt} (hm : M[id]? = some m) :
    ∃ cv, (Instr.entry (.pointer (some ⟨m.block, m.base + 0, none⟩))).run P w = .ok cv w ∧ VRel M v cv := by
  unfold entryA at h
  split at h
  case h_2 => cases h
  rename_i mid since seen stepped hget
  split at h
  case h_2 => cases h
  rename_i es clock qro b hgm hlast
  simp only [Bool.cond_eq_ite, Nat.beq_eq] at h
  split at h
  case isFalse => cases h
  rename_i hcl
  subst hcl
  split at h
  case h_2 => cases h
  rename_i k' v' hborn
  simp only [Option.some.injEq] at h
  subst h
  obtain ⟨c, hb, h0, k, hk, rfl⟩ := hr.blk hget hm
  obtain ⟨ces, hbm, he⟩ := hr.blk hgm hk
  obtain ⟨e, h1, h2, h3⟩ := bornAt_sound b he hborn
  have hobj : (getObj m.block).run P w = .ok (.mapIter (some k.block) since (List.toArray seen) clock) w := by simp [getObj, Sem.run, hb]
  have hobm : (getObj k.block).run P w = .ok (.map (List.toArray ces) clock) w := by simp [getObj, Sem.run, hbm]
  refine ⟨.tuple #[e.key, e.val], ?_, ⟨[e.key, e.val], rfl, h2, h3, trivial⟩⟩
  rw [h0]
  simp only [Instr.entry, Sem.run_bind, hobj, hobm, Result.andThen_ok, lastOf_eq hlast, bne_self_eq_false, Bool.false_eq_true, if_false, List.find?_toArray, h1, Sem.run_pure]
end
end Go.Vai
