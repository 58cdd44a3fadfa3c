/- Comparisons, fields, places, built values, bounds. -/
import Derived.Test.YtopjbfgikglncaaGreatDoorVaiPure
namespace Go.Vai
section
variable {E : Env} {P : Program} {M : List MEnt} {w : World}

def plainEq : Value → Bool
  | .int _ _ => false
  | .float _ _ => false
  | .complex _ _ _ => false
  | .string _ => false
  | _ => true

theorem eqv_opqL {E : Env} {d t : Nat} {y : AV} {b : Bool} : eqv E d t .opq y ≠ some b := by
  intro h
  cases d with
  | zero => simp [eqv] at h
  | succ d =>
    simp only [eqv] at h
    cases hty : E.ty t with
    | none => simp [hty] at h
    | some ti =>
      simp only [hty] at h
      split at h <;> simp_all
theorem eqv_opqR {E : Env} {d t : Nat} {x : AV} {b : Bool} : eqv E d t x .opq ≠ some b := by
  intro h
  cases d with
  | zero => simp [eqv] at h
  | succ d =>
    simp only [eqv] at h
    cases hty : E.ty t with
    | none => simp [hty] at h
    | some ti =>
      simp only [hty] at h
      split at h <;> simp_all

theorem eqv_plain {d t : Nat} {x y : AV} {b : Bool} {cx : Value} (h : eqv E d t x y = some b) (h1 : ∀ k a j c, x = .int k a → y = .int j c → False) (h2 : ∀ s u, x = .str s → y = .str u → False)
    (hx : VRel M x cx) : plainEq cx = true := by
  cases x <;> simp only [VRel] at hx
  case int k n =>
    exfalso
    cases d with
    | zero => simp [eqv] at h
    | succ d =>
      simp only [eqv] at h
      cases hty : E.ty t with
      | none => simp [hty] at h
      | some ti =>
        simp only [hty] at h
        split at h <;> simp_all
        exact h1 _ _ _ _ rfl rfl rfl rfl
  case str s =>
    exfalso
    cases d with
    | zero => simp [eqv] at h
    | succ d =>
      simp only [eqv] at h
      cases hty : E.ty t with
      | none => simp [hty] at h
      | some ti =>
        simp only [hty] at h
        split at h <;> simp_all
  case ptr => obtain ⟨_, _, rfl⟩ := hx; rfl
  case sl => obtain ⟨_, _, _, rfl, _⟩ := hx; rfl
  case sl0 => obtain ⟨_, _, rfl⟩ := hx; rfl
  case fn => obtain ⟨_, _, rfl, _⟩ := hx; rfl
  case yld => obtain ⟨_, _, rfl⟩ := hx; rfl
  case iface => obtain ⟨_, rfl, _⟩ := hx; rfl
  case agg => obtain ⟨_, rfl, _⟩ := hx; rfl
  case tup => obtain ⟨_, rfl, _⟩ := hx; rfl
  case mapv => obtain ⟨_, _, rfl⟩ := hx; rfl
  case opq => exact absurd h eqv_opqL
  all_goals (subst hx; rfl)

theorem binOp_eql {t : TypeId} {x y : Value} (h : plainEq x = true) : binOp .eql t x y = (do pure (.bool (← Op.equal t x y)) : Sem Value) := by
  cases x <;> simp [plainEq] at h <;> cases y <;> rfl
theorem binOp_neq {t : TypeId} {x y : Value} (h : plainEq x = true) : binOp .neq t x y = (do pure (.bool (!(← Op.equal t x y))) : Sem Value) := by
  cases x <;> simp [plainEq] at h <;> cases y <;> rfl

/-- The guard on '==' lets by. -/
theorem guard_int {op : BinOp} {t : TypeId} {X Y : Operand} {k j : IntKind} {a b : Int} : (eqGuard op t X Y (.int k a) (.int j b)).run P w = .ok () w := by
  unfold eqGuard; split <;> rfl
theorem guard_str {op : BinOp} {t : TypeId} {X Y : Operand} {a b : ByteArray} : (eqGuard op t X Y (.string a) (.string b)).run P w = .ok () w := by
  unfold eqGuard; split <;> rfl

theorem guard_eq (hE : TysOk E P) {d : Nat} {op : BinOp} {t : TypeId} {X Y : Operand} {x y : AV} {b : Bool} {cx cy : Value} (h : eqv E d t x y = some b) (hx : VRel M x cx) (hy : VRel M y cy)
    (hn : x = .nili → y = .nili → (isConst X || isConst Y) = true) : (eqGuard op t X Y cx cy).run P w = .ok () w := by
  by_cases ha : ∃ as bs, x = .agg as ∧ y = .agg bs
  · obtain ⟨as, bs, rfl, rfl⟩ := ha
    obtain ⟨xs, rfl, _⟩ := hx
    obtain ⟨ys, rfl, _⟩ := hy
    cases d with
    | zero => simp [eqv] at h
    | succ d =>
      simp only [eqv] at h
      cases hty : E.ty t with
      | none => simp [hty] at h
      | some ti =>
        obtain ⟨i, td, z, ht⟩ := hE.ty t ti hty
        have hd := ht.desc
        simp only [hty] at h
        split at h <;> first | (cases h; done) | (rename_i e _; cases e; done) | skip
        case h_20 =>
          rename_i fs eqok as' bs' hq _ _
          rw [hq] at hd
          obtain ⟨F, rfl, _, hok⟩ := hd
          simp only [Bool.cond_eq_ite] at h
          split at h
          case isFalse => cases h
          rename_i hq
          have := (hok hq).2.2
          cases op <;> simp [eqGuard, this]
        all_goals simp_all
  · by_cases hi : x = .nili ∧ y = .nili
    · obtain ⟨rfl, rfl⟩ := hi
      have hc := hn rfl rfl
      simp only [VRel] at hx hy
      subst hx; subst hy
      cases X <;> cases Y <;> simp [isConst] at hc <;> cases op <;> simp [eqGuard]
    · have h1 : ∀ as bs, ¬ (cx = .agg as ∧ cy = .agg bs) := by
        rintro as bs ⟨rfl, rfl⟩
        apply ha
        cases x <;> simp only [VRel] at hx <;> first | (cases hx; done) | (obtain ⟨_, _, h⟩ := hx; cases h; done) | (obtain ⟨_, h, _⟩ := hx; cases h; done) | (obtain ⟨_, _, h, _⟩ := hx; cases h; done) | (obtain ⟨_, _, _, h, _⟩ := hx; cases h; done) | (exact absurd h eqv_opqL) | skip
        cases y <;> simp only [VRel] at hy <;> first | (cases hy; done) | (obtain ⟨_, _, h⟩ := hy; cases h; done) | (obtain ⟨_, h, _⟩ := hy; cases h; done) | (obtain ⟨_, _, h, _⟩ := hy; cases h; done) | (obtain ⟨_, _, _, h, _⟩ := hy; cases h; done) | (exact absurd h eqv_opqR) | skip
        exact ⟨_, _, rfl, rfl⟩
      have h2 : ¬ (cx = .nilIface ∧ cy = .nilIface) := by
        rintro ⟨rfl, rfl⟩
        apply hi
        cases x <;> simp only [VRel] at hx <;> first | (cases hx; done) | (obtain ⟨_, _, h⟩ := hx; cases h; done) | (obtain ⟨_, h, _⟩ := hx; cases h; done) | (obtain ⟨_, _, h, _⟩ := hx; cases h; done) | (obtain ⟨_, _, _, h, _⟩ := hx; cases h; done) | (exact absurd h eqv_opqL) | skip
        cases y <;> simp only [VRel] at hy <;> first | (cases hy; done) | (obtain ⟨_, _, h⟩ := hy; cases h; done) | (obtain ⟨_, h, _⟩ := hy; cases h; done) | (obtain ⟨_, _, h, _⟩ := hy; cases h; done) | (obtain ⟨_, _, _, h, _⟩ := hy; cases h; done) | (exact absurd h eqv_opqR) | skip
        exact ⟨rfl, rfl⟩
      have h3 : ∀ (s : Sem Unit), (match cx, cy with | .nilIface, .nilIface => s | .agg _, .agg _ => s | _, _ => pure ()) = pure () := by
        intro s
        split
        · exact absurd ⟨rfl, rfl⟩ h2
        · exact absurd ⟨rfl, rfl⟩ (h1 _ _)
        · rfl
      unfold eqGuard
      split <;> first | rfl | skip
      all_goals
        split
        · rfl
        · split
          · exact absurd ⟨rfl, rfl⟩ h2
          · exact absurd ⟨rfl, rfl⟩ (h1 _ _)
          · rfl

theorem binA_sound (hE : TysOk E P) {op : BinOp} {t : TypeId} {X Y : Operand} {x y v : AV} {cx cy : Value} (h : binA E op t x y = some v) (hx : VRel M x cx) (hy : VRel M y cy)
    (hn : x = .nili → y = .nili → (isConst X || isConst Y) = true) : ∃ cv, ((do eqGuard op t X Y cx cy; binOp op t cx cy) : Sem Value).run P w = .ok cv w ∧ VRel M v cv := by
  unfold binA at h
  split at h
  · simp only [VRel] at hx hy; subst hx; subst hy
    obtain ⟨cv, hr, r⟩ := intShift_sound (M := M) (P := P) (w := w) h t
    exact ⟨cv, by simp only [Sem.run_bind, guard_int, Result.andThen_ok]; exact hr, r⟩
  · simp only [VRel] at hx hy; subst hx; subst hy
    obtain ⟨cv, hr, r⟩ := intShift_sound (M := M) (P := P) (w := w) h t
    exact ⟨cv, by simp only [Sem.run_bind, guard_int, Result.andThen_ok]; exact hr, r⟩
  · rename_i op' k a k' b h1 h2
    simp only [VRel] at hx hy; subst hx; subst hy
    simp only [Bool.cond_eq_ite, sameKind_iff] at h
    split at h
    case isFalse => cases h
    rename_i hk
    subst hk
    obtain ⟨cv, hr, r⟩ := intBin_sound (M := M) (P := P) (w := w) ⟨h1, h2⟩ h t
    exact ⟨cv, by simp only [Sem.run_bind, guard_int, Result.andThen_ok]; exact hr, r⟩
  · simp only [VRel] at hx hy; subst hx; subst hy
    obtain ⟨cv, hr, r⟩ := strBin_sound (M := M) (P := P) (w := w) h t
    exact ⟨cv, by simp only [Sem.run_bind, guard_str, Result.andThen_ok]; exact hr, r⟩
  · rename_i h1 h2
    cases he : eqv E 6 t x y with
    | none => simp [he] at h
    | some b =>
      simp only [he, Option.some.injEq] at h
      subst h
      have hp := eqv_plain he (fun k a j c e1 e2 => h1 _ _ _ _ e1 e2) (fun s u e1 e2 => h2 _ _ e1 e2) hx
      refine ⟨.bool b, ?_, rfl⟩
      simp only [Sem.run_bind, guard_eq hE he hx hy hn, Result.andThen_ok, binOp_eql hp, Op.equal]
      rw [eqv_sound hE 6 Op.maxDepth t x y b cx cy (by decide) he hx hy]
      rfl
  · rename_i h1 h2
    cases he : eqv E 6 t x y with
    | none => simp [he] at h
    | some b =>
      simp only [he, Option.some.injEq] at h
      subst h
      have hp := eqv_plain he (fun k a j c e1 e2 => h1 _ _ _ _ e1 e2) (fun s u e1 e2 => h2 _ _ e1 e2) hx
      refine ⟨.bool (!b), ?_, rfl⟩
      simp only [Sem.run_bind, guard_eq hE he hx hy hn, Result.andThen_ok, binOp_neq hp, Op.equal]
      rw [eqv_sound hE 6 Op.maxDepth t x y b cx cy (by decide) he hx hy]
      rfl
  · cases h

theorem unA_sound {op : UnOp} {x v : AV} {cx : Value} (h : unA op x = some v) (hx : VRel M x cx) : ∃ cv, (Op.unary op cx).run P w = .ok cv w ∧ VRel M v cv := by
  unfold unA at h
  split at h
  · simp only [VRel] at hx; subst hx; simp only [Option.some.injEq] at h; subst h
    exact ⟨_, by simp [Op.unary, Op.intArith] <;> rfl, by simp [VRel]⟩
  · rename_i k n
    simp only [VRel] at hx; subst hx; simp only [Option.some.injEq] at h; subst h
    refine ⟨_, by simp [Op.unary, Op.intBits] <;> rfl, ?_⟩
    have e : (BitVec.ofInt k.bits (if k.signed = true then -1 else k.max)).toNat = 2 ^ k.bits - 1 := by cases k <;> decide
    simp only [VRel, bitsOf_eq]
    congr 2
    rw [← e]; rfl
  · simp only [VRel] at hx; subst hx; simp only [Option.some.injEq] at h; subst h
    exact ⟨_, by simp [Op.unary] <;> rfl, rfl⟩
  · cases h

theorem field_of {F : Array Field} {fs : List (Nat × Nat)} (hF : F.toList.map (fun f => (f.offset, f.type)) = fs) {f o ft : Nat} (h : nthF fs f = some (o, ft)) :
    ∃ fd, F[f]? = some fd ∧ fd.offset = o ∧ fd.type = ft := by
  rw [nthF_eq, ← hF, List.getElem?_map] at h
  cases hx : F.toList[f]? with
  | none => simp [hx] at h
  | some fd =>
    simp only [hx, Option.map_some, Option.some.injEq, Prod.mk.injEq] at h
    exact ⟨fd, by simpa using hx, h.1, h.2⟩

theorem fieldA_sound (hE : TysOk E P) {t : TypeId} {x v : AV} {f : Nat} {cx : Value} (h : fieldA E t x f = some v) (hx : VRel M x cx) : ∃ cv, (Instr.field t cx f).run P w = .ok cv w ∧ VRel M v cv := by
  unfold fieldA at h
  split at h
  case h_2 => cases h
  rename_i ti cs hty
  obtain ⟨i, d, z, ht⟩ := hE.ty t ti hty
  have hd := ht.desc
  split at h
  case h_2 => cases h
  rename_i fs ok hq
  rw [hq] at hd
  obtain ⟨F, rfl, hF, _⟩ := hd
  split at h
  case h_2 => cases h
  rename_i o ft hn
  obtain ⟨fd, h1, rfl, rfl⟩ := field_of hF hn
  obtain ⟨vs, rfl, r⟩ := hx
  obtain ⟨cv, hr, rv⟩ := partA_sound (w := w) hE r h
  exact ⟨cv, by simp [Instr.field, run_und ht, h1, asAgg, hr], rv⟩

theorem fieldAddrA_sound (hE : TysOk E P) {t : TypeId} {x v : AV} {f : Nat} {cx : Value} (h : fieldAddrA E t x f = some v) (hx : VRel M x cx) :
    ∃ cv, (Instr.fieldAt t cx f).run P w = .ok cv w ∧ VRel M v cv := by
  unfold fieldAddrA at h
  split at h
  case h_2 => cases h
  rename_i ti id off hty
  obtain ⟨i, d, z, ht⟩ := hE.ty t ti hty
  have hd := ht.desc
  split at h
  case h_2 => cases h
  rename_i fs ok hq
  rw [hq] at hd
  obtain ⟨F, rfl, hF, _⟩ := hd
  split at h
  case h_2 => cases h
  rename_i o ft hn
  split at h
  case h_2 => cases h
  rename_i fi hfi
  obtain ⟨fd, h1, rfl, rfl⟩ := field_of hF hn
  obtain ⟨fii, fdd, fz, hf⟩ := hE.ty _ _ hfi
  obtain ⟨m, hm, rfl⟩ := hx
  simp only [Bool.cond_eq_ite, Nat.beq_eq] at h
  split at h
  · cases h
  rename_i hz
  simp only [Option.some.injEq] at h
  subst h
  refine ⟨.pointer (some ⟨m.block, m.base + (off + fd.offset), none⟩), ?_, ⟨m, hm, rfl⟩⟩
  simp [Instr.fieldAt, run_und ht, h1, Instr.sureAddr, fieldPlace, run_size hf, hz, addr_add, Nat.add_assoc]

theorem indexA_sound (hE : TysOk E P) {t : TypeId} {x i v : AV} {cx ci : Value} (h : indexA E t x i = some v) (hx : VRel M x cx) (hi : VRel M i ci) : ∃ cv, (Instr.index t cx ci).run P w = .ok cv w ∧ VRel M v cv := by
  unfold indexA at h
  split at h
  case h_2 => cases h
  rename_i ti k n hty
  obtain ⟨ii, d, z, ht⟩ := hE.ty t ti hty
  have hd := ht.desc
  simp only [VRel] at hi
  subst hi
  simp only [ilt_iff] at h
  by_cases h0 : n < 0
  · simp [h0] at h
  simp only [h0, decide_false, cond_false] at h
  have h0' : 0 ≤ n := by omega
  split at h
  · rename_i len e cs hq
    rw [hq] at hd
    simp only [DRel] at hd
    subst hd
    obtain ⟨vs, rfl, r⟩ := hx
    cases hte : E.ty e with
    | none => simp [hte] at h
    | some ei =>
      obtain ⟨_, _, _, he⟩ := hE.ty e ei hte
      simp only [hte, blt_iff] at h
      by_cases hl : n.toNat < len
      · simp only [hl, decide_true, cond_true] at h
        obtain ⟨cv, hr, rv⟩ := partA_sound (w := w) hE r h
        refine ⟨cv, ?_, rv⟩
        have hl' : n < (len : Int) := by omega
        simp [Instr.index, asIntOf, run_und ht, h0', hl', run_size he, hr]
      · simp [hl] at h
  · rename_i s hq
    rw [hq] at hd
    simp only [DRel] at hd
    subst hd
    simp only [VRel] at hx
    subst hx
    cases hn : nth s n.toNat with
    | none => simp [hn] at h
    | some b =>
      simp only [hn, Option.some.injEq] at h
      subst h
      rw [nth_eq] at hn
      refine ⟨.int .u8 b.toNat, ?_, rfl⟩
      have hg : (ByteArray.mk ⟨s⟩)[n.toNat]? = some b := by
        obtain ⟨hlt, he⟩ := List.getElem?_eq_some_iff.1 hn
        have : n.toNat < (ByteArray.mk ⟨s⟩).size := hlt
        rw [getElem?_pos (ByteArray.mk ⟨s⟩) n.toNat this]
        rw [← he]; rfl
      simp [Instr.index, asIntOf, run_und ht, h0', hg]
  · cases h

theorem indexAddrA_sound (hE : TysOk E P) {t : TypeId} {x i v : AV} {cx ci : Value} (h : indexAddrA E t x i = some v) (hx : VRel M x cx) (hi : VRel M i ci) : ∃ cv, (Instr.indexAt t cx ci).run P w = .ok cv w ∧ VRel M v cv := by
  unfold indexAddrA at h
  split at h
  case h_2 => cases h
  rename_i ti k n hty
  obtain ⟨ii, d, z, ht⟩ := hE.ty t ti hty
  have hd := ht.desc
  simp only [VRel] at hi
  subst hi
  simp only [ilt_iff] at h
  by_cases h0 : n < 0
  · simp [h0] at h
  simp only [h0, decide_false, cond_false] at h
  have h0' : 0 ≤ n := by omega
  split at h
  · rename_i len e id off hq
    rw [hq] at hd
    simp only [DRel] at hd
    subst hd
    obtain ⟨m, hm, rfl⟩ := hx
    cases hte : E.ty e with
    | none => simp [hte] at h
    | some ei =>
      obtain ⟨_, _, _, he⟩ := hE.ty e ei hte
      simp only [hte, blt_iff] at h
      by_cases hl : n.toNat < len
      · simp only [hl, decide_true, cond_true, Option.some.injEq] at h
        subst h
        have hl' : n < (len : Int) := by omega
        refine ⟨_, ?_, ⟨m, hm, rfl⟩⟩
        simp [Instr.indexAt, asIntOf, run_und ht, h0', hl', run_size he, Instr.sureAddr, addr_add, Nat.add_assoc]
      · simp [hl] at h
  · rename_i e id off len cap hq
    rw [hq] at hd
    simp only [DRel] at hd
    subst hd
    obtain ⟨m, c, hm, rfl, _⟩ := hx
    cases hte : E.ty e with
    | none => simp [hte] at h
    | some ei =>
      obtain ⟨_, _, _, he⟩ := hE.ty e ei hte
      simp only [hte, blt_iff] at h
      by_cases hl : n.toNat < len
      · simp only [hl, decide_true, cond_true, Option.some.injEq] at h
        subst h
        have hl' : n < (len : Int) := by omega
        refine ⟨_, ?_, ⟨m, hm, rfl⟩⟩
        simp [Instr.indexAt, asIntOf, run_und ht, h0', hl', run_size he, addr_add, Nat.add_assoc]
      · simp [hl] at h
  · cases h

theorem extract_sound {vs : List AV} {i : Nat} {v : AV} {cx : Value} (hx : VRel M (.tup vs) cx) (h : (vs.drop i).head? = some v) : ∃ cv, (Instr.extract cx i).run P w = .ok cv w ∧ VRel M v cv := by
  obtain ⟨us, rfl, r⟩ := hx
  rw [List.head?_drop] at h
  obtain ⟨cv, hc, rv⟩ := r.get i v h
  exact ⟨cv, by simp [Instr.extract, hc], rv⟩

theorem zeroVal_rel {t : Nat} {ti : ATy} {i : TypeInfo} {d : TypeDesc} {z : Value} (ht : TyOk P t ti i d z) {v : AV} (h : typeAssertA.zeroVal ti = some v) : VRel M v z := by
  unfold typeAssertA.zeroVal at h
  have hz := (ht.zrel).mono (List.nil_prefix (l := M))
  cases ha : ti.agg with
  | true =>
    obtain ⟨cs, rfl⟩ := ht.zagg ha
    simp only [ha, cond_true, Option.some.injEq] at h
    subst h
    exact ⟨cs.toList, rfl, by simpa [Value.cells] using hz⟩
  | false =>
    simp only [ha, cond_false] at h
    have h1 := ht.zone ha
    have hc : z.cells.toList = [z] := by cases z <;> simp_all [Value.oneCell', Value.cells]
    rw [hc] at hz
    split at h
    · rename_i y hy
      simp only [Option.some.injEq] at h
      subst h
      rw [hy] at hz
      exact hz.1
    · cases h

theorem typeAssertA_sound (hE : TysOk E P) {t xt : TypeId} {ok : Bool} {x v : AV} {cx : Value} (h : typeAssertA E x t ok = some v) (hx : VRel M x cx) : ∃ cv, (Instr.typeAssert cx xt t ok).run P w = .ok cv w ∧ VRel M v cv := by
  unfold typeAssertA at h
  split at h
  · cases h
  rename_i ti hty
  obtain ⟨i, d, z, ht⟩ := hE.ty t ti hty
  have hd := ht.desc
  have hnf : ti.d ≠ .iface → ∀ ms, d ≠ .interface ms := by
    intro hne ms e
    subst e
    cases hq : ti.d <;> rw [hq] at hd <;> simp_all [DRel]
  have hz : ∀ y, typeAssertA.zeroVal ti = some y → VRel M y z := fun y hy => zeroVal_rel ht hy
  split at h
  · cases h
  · rename_i hni
    have hni' := hnf (fun e => hni e)
    simp only [VRel] at hx
    subst hx
    cases ok with
    | false => simp at h
    | true =>
      simp only [cond_true] at h
      split at h
      case h_2 => cases h
      rename_i y hy
      simp only [Option.some.injEq] at h
      subst h
      refine ⟨.tuple #[z, .bool false], ?_, ⟨[z, .bool false], rfl, hz y hy, rfl, trivial⟩⟩
      cases d <;> first | exact absurd rfl (hni' _) | simp [Instr.typeAssert, run_und ht, run_zero ht]
  · rename_i u y hni
    have hni' := hnf (fun e => hni e)
    obtain ⟨cy, rfl, ry⟩ := hx
    simp only [Bool.cond_eq_ite, Nat.beq_eq] at h
    split at h
    · rename_i hu
      subst hu
      cases ok with
      | false =>
        simp only [Bool.false_eq_true, if_false, Option.some.injEq] at h
        subst h
        refine ⟨cy, ?_, ry⟩
        cases d <;> first | exact absurd rfl (hni' _) | simp [Instr.typeAssert, run_und ht]
      | true =>
        simp only [if_true, Option.some.injEq] at h
        subst h
        refine ⟨.tuple #[cy, .bool true], ?_, ⟨[cy, .bool true], rfl, ry, rfl, trivial⟩⟩
        cases d <;> first | exact absurd rfl (hni' _) | simp [Instr.typeAssert, run_und ht]
    · rename_i hu
      cases ok with
      | false => simp at h
      | true =>
        simp only [if_true] at h
        split at h
        case h_2 => cases h
        rename_i y' hy
        simp only [Option.some.injEq] at h
        subst h
        refine ⟨.tuple #[z, .bool false], ?_, ⟨[z, .bool false], rfl, hz y' hy, rfl, trivial⟩⟩
        cases d <;> first | exact absurd rfl (hni' _) | simp [Instr.typeAssert, run_und ht, run_zero ht, hu]
  · cases h
end
end Go.Vai
