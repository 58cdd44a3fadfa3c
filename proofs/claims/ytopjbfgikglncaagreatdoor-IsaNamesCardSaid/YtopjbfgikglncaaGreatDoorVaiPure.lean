/- Operations that touch no memory. -/
import Derived.Test.YtopjbfgikglncaaGreatDoorVaiMem
import Derived.Laws.StructEq
namespace Go.Vai
section
variable {E : Env} {P : Program} {M : List MEnt} {w : World}

theorem beq_dec (a b : List UInt8) : (a == b) = decide (a = b) := by rw [Bool.eq_iff_iff]; simp
/-- A fact that no simp set shall take up. -/
def Keep (p : Prop) : Prop := p
theorem Keep.out {p : Prop} (h : Keep p) : p := h

theorem intBin_sound {op : BinOp} {k : IntKind} {x y : Int} {v : AV} (hs : op ≠ .shl ∧ op ≠ .shr) (h : intBin op k x y = some v) (xt : TypeId) :
    ∃ cv, (binOp op xt (.int k x) (.int k y)).run P w = .ok cv w ∧ VRel M v cv := by
  cases op <;> simp only [intBin, Option.some.injEq] at h
  case shl => exact absurd rfl hs.1
  case shr => exact absurd rfl hs.2
  case quo =>
    simp only [ieq_iff] at h
    by_cases hy : y = 0
    · simp [hy] at h
    · simp only [hy, decide_false, cond_false, Option.some.injEq] at h
      subst h
      exact ⟨_, by simp [binOp, Op.intDiv, hy] <;> rfl, rfl⟩
  case rem =>
    simp only [ieq_iff] at h
    by_cases hy : y = 0
    · simp [hy] at h
    · simp only [hy, decide_false, cond_false, Option.some.injEq] at h
      subst h
      exact ⟨_, by simp [binOp, Op.intDiv, hy] <;> rfl, rfl⟩
  all_goals subst h
  case and =>
    refine ⟨_, by simp [binOp, Op.intBits] <;> rfl, ?_⟩
    simp only [VRel, bitsOf_eq]; rfl
  case or =>
    refine ⟨_, by simp [binOp, Op.intBits] <;> rfl, ?_⟩
    simp only [VRel, bitsOf_eq]; rfl
  case xor =>
    refine ⟨_, by simp [binOp, Op.intBits] <;> rfl, ?_⟩
    simp only [VRel, bitsOf_eq]; rfl
  case andNot =>
    refine ⟨_, by simp only [binOp, Op.intBits, ne_eq, not_true_eq_false, if_false]; exact Sem.run_pure P w _, ?_⟩
    have e : (BitVec.ofInt k.bits x &&& ~~~(BitVec.ofInt k.bits y)).toNat = Nat.land (bitsOf k x) (Nat.xor (2 ^ k.bits - 1) (bitsOf k y)) := by
      rw [BitVec.toNat_and, bitsOf_eq, bitsOf_eq, ← BitVec.xor_allOnes, BitVec.xor_comm, BitVec.toNat_xor, BitVec.toNat_allOnes]
      rfl
    simp only [VRel, e]
  case eql => exact ⟨_, by simp [binOp, Op.intCmp] <;> rfl, by simp only [VRel, ieq_iff]; rfl⟩
  case neq => exact ⟨_, by simp [binOp, Op.intCmp] <;> rfl, by simp only [VRel, ieq_iff]; rfl⟩
  case lss => exact ⟨_, by simp [binOp, Op.intCmp] <;> rfl, by simp only [VRel, ilt_iff]⟩
  case gtr => exact ⟨_, by simp [binOp, Op.intCmp] <;> rfl, by simp only [VRel, ilt_iff]⟩
  case leq => exact ⟨_, by simp [binOp, Op.intCmp] <;> rfl, by simp only [VRel, ilt_iff, Value.bool.injEq]; rw [Bool.eq_iff_iff]; simp⟩
  case geq => exact ⟨_, by simp [binOp, Op.intCmp] <;> rfl, by simp only [VRel, ilt_iff, Value.bool.injEq]; rw [Bool.eq_iff_iff]; simp⟩
  all_goals exact ⟨_, by simp [binOp, Op.intArith] <;> rfl, rfl⟩

theorem intShift_sound {op : BinOp} {k j : IntKind} {x y : Int} {v : AV} (h : intShift op k x y = some v) (xt : TypeId) :
    ∃ cv, (binOp op xt (.int k x) (.int j y)).run P w = .ok cv w ∧ VRel M v cv := by
  simp only [intShift, ilt_iff] at h
  by_cases hy : y < 0
  · simp [hy] at h
  · simp only [hy, decide_false, cond_false] at h
    cases op <;> simp only [Option.some.injEq] at h <;> first | (cases h; done) | subst h
    · exact ⟨_, by simp [binOp, Op.shift, hy] <;> rfl, rfl⟩
    · exact ⟨_, by simp [binOp, Op.shift, hy] <;> rfl, rfl⟩

theorem strBin_sound {op : BinOp} {a b : List UInt8} {v : AV} (h : strBin op a b = some v) (xt : TypeId) :
    ∃ cv, (binOp op xt (.string ⟨⟨a⟩⟩) (.string ⟨⟨b⟩⟩)).run P w = .ok cv w ∧ VRel M v cv := by
  have ta : (ByteArray.mk ⟨a⟩).toList = a := ByteArray.toList_mk a
  have tb : (ByteArray.mk ⟨b⟩).toList = b := ByteArray.toList_mk b
  cases op <;> simp only [strBin, Option.some.injEq] at h <;> first | (cases h; done) | skip
  case add =>
    simp only [ble_iff] at h
    by_cases hl : lenU a + lenU b ≤ 1099511627776
    · simp only [hl, decide_true, cond_true, Option.some.injEq] at h
      subst h
      have hs : ¬ ((((ByteArray.mk ⟨a⟩).size + (ByteArray.mk ⟨b⟩).size : Nat) : Int) > IntKind.i64.max) := by
        simp only [lenU] at hl
        show ¬ (((a.length + b.length : Nat) : Int) > IntKind.i64.max)
        have : IntKind.i64.max = 9223372036854775807 := by decide
        rw [this]; omega
      refine ⟨.string (ByteArray.mk ⟨a⟩ ++ ByteArray.mk ⟨b⟩), ?_, ?_⟩
      · simp only [binOp, Op.stringOp]
        rw [if_neg hs]
        rfl
      · simp only [VRel, Value.string.injEq]
        apply ByteArray.ext
        simp
    · simp [hl] at h
  all_goals
    subst h
    refine ⟨_, by simp only [binOp, Op.stringOp]; exact Sem.run_pure P w _, ?_⟩
    simp only [VRel, ta, tb, leq_iff, llt_iff, beq_dec]

theorem partA_sound (hE : TysOk E P) {t : TypeId} {cs : List AV} {vs : List Value} {off : Nat} {v : AV} (hc : VRels M cs vs) (h : partA E t cs off = some v) :
    ∃ cv, (part t vs.toArray off).run P w = .ok cv w ∧ VRel M v cv := by
  simp only [partA] at h
  cases hty : E.ty t with
  | none => simp [hty] at h
  | some ti =>
    obtain ⟨i, d, z, ht⟩ := hE.ty t ti hty
    simp only [hty] at h
    cases hagg : ti.agg with
    | true =>
      simp only [hagg, cond_true, ble_iff] at h
      by_cases hl : off + ti.size ≤ cs.length
      · simp only [hl, decide_true, cond_true, Option.some.injEq] at h
        subst h
        refine ⟨.agg ((vs.drop off).take ti.size).toArray, ?_, ⟨_, rfl, (hc.drop off).take ti.size⟩⟩
        simp only [part, Sem.run_bind, run_agg ht, hagg, Result.andThen_ok, if_true, run_size ht, Sem.run_pure]
        congr 2
        simp [List.extract_toArray]
      · simp [hl] at h
    | false =>
      simp only [hagg, cond_false] at h
      rw [List.head?_drop] at h
      obtain ⟨cv, hcv, r⟩ := hc.get off v h
      refine ⟨cv, ?_, r⟩
      simp [part, run_agg ht, hagg, hcv]

set_option maxHeartbeats 1000000 in
theorem eqv_sound (hE : TysOk E P) : ∀ (d n : Nat) (t : TypeId) (x y : AV) (b : Bool) (cx cy : Value), d ≤ n → eqv E d t x y = some b → VRel M x cx → VRel M y cy → (Op.equalIn n t cx cy).run P w = .ok b w := by
  intro d
  induction d with
  | zero => intro n t x y b cx cy _ h; simp [eqv] at h
  | succ d ih =>
    intro n t x y b cx cy hn h hx hy
    obtain ⟨n, rfl⟩ : ∃ m, n = m + 1 := ⟨n - 1, by omega⟩
    simp only [eqv] at h
    cases hty : E.ty t with
    | none => simp [hty] at h
    | some ti =>
      obtain ⟨i, td, z, ht⟩ := hE.ty t ti hty
      simp only [hty] at h
      have hd := ht.desc
      have hu := ht.und
      have K : Keep (∀ (n : Nat) (t : TypeId) (x y : AV) (b : Bool) (cx cy : Value), d ≤ n → eqv E d t x y = some b → VRel M x cx → VRel M y cy → (Op.equalIn n t cx cy).run P w = .ok b w) := ih
      have KE : Keep (TysOk E P) := hE
      clear ih hE ht hty
      split at h <;> simp_all only [DRel, VRel, Option.some.injEq]
      case h_1 => subst h; simp [Op.equalIn, run_underlying hu]
      case h_2 =>
        rename_i k a k' b' _
        simp only [Bool.cond_eq_ite, sameKind_iff] at h
        split at h
        · rename_i hk
          simp only [Option.some.injEq] at h
          subst hk; subst h
          simp [Op.equalIn, run_underlying hu, ieq_iff]
          rfl
        · cases h
      case h_3 =>
        subst h
        simp only [Op.equalIn, Sem.run_bind, run_underlying hu, Result.andThen_ok, Sem.run_pure, beq_toListBytes]
        rw [show (ByteArray.mk ⟨_⟩).toList = _ from ByteArray.toList_mk _, show (ByteArray.mk ⟨_⟩).toList = _ from ByteArray.toList_mk _, leq_iff, beq_dec]
      case h_4 => subst h; simp [Op.equalIn, run_underlying hu]
      case h_5 => obtain ⟨m, _, rfl⟩ := hy; subst h; simp [Op.equalIn, run_underlying hu]
      case h_6 => obtain ⟨m, _, rfl⟩ := hx; subst h; simp [Op.equalIn, run_underlying hu]
      case h_7 =>
        rename_i e i' a j b' _
        obtain ⟨m, hm, rfl⟩ := hx
        obtain ⟨k, hk, rfl⟩ := hy
        cases hte : E.ty e with
        | none => simp [hte] at h
        | some ei =>
          obtain ⟨ii, dd, zz, he⟩ := KE.out.ty e ei hte
          simp only [hte, Bool.cond_eq_ite] at h
          split at h
          · rename_i hc
            simp only [Bool.and_eq_true, Nat.beq_eq, Bool.not_eq_true'] at hc
            obtain ⟨rfl, hz⟩ := hc
            rw [hm] at hk; cases hk
            have hz' : ei.size ≠ 0 := Nat.ne_of_beq_eq_false hz
            simp only [Option.some.injEq] at h
            subst h
            simp [Op.equalIn, run_underlying hu, run_size he, hz', sameAddr, beq_iff]
            rw [Bool.eq_iff_iff]; simp
          · cases h
      case h_8 => subst h; simp [Op.equalIn, run_underlying hu]
      case h_9 => obtain ⟨m, c, _, rfl, _⟩ := hy; subst h; simp [Op.equalIn, run_underlying hu]
      case h_10 => obtain ⟨m, c, _, rfl, _⟩ := hx; subst h; simp [Op.equalIn, run_underlying hu]
      case h_11 => obtain ⟨a, c, rfl⟩ := hy; subst h; simp [Op.equalIn, run_underlying hu]
      case h_12 => obtain ⟨a, c, rfl⟩ := hx; subst h; simp [Op.equalIn, run_underlying hu]
      case h_13 => obtain ⟨_, _, _, rfl⟩ := hd; subst h; simp [Op.equalIn, run_underlying hu]
      case h_14 => obtain ⟨_, _, _, rfl⟩ := hd; obtain ⟨_, _, rfl, _⟩ := hy; subst h; simp [Op.equalIn, run_underlying hu]
      case h_15 => obtain ⟨_, _, _, rfl⟩ := hd; obtain ⟨_, _, rfl, _⟩ := hx; subst h; simp [Op.equalIn, run_underlying hu]
      case h_16 => obtain ⟨_, rfl⟩ := hd; subst h; simp [Op.equalIn, run_underlying hu]
      case h_17 => obtain ⟨_, rfl⟩ := hd; obtain ⟨_, rfl, _⟩ := hy; subst h; simp [Op.equalIn, run_underlying hu]
      case h_18 => obtain ⟨_, rfl⟩ := hd; obtain ⟨_, rfl, _⟩ := hx; subst h; simp [Op.equalIn, run_underlying hu]
      case h_19 =>
        rename_i a v b' u _
        obtain ⟨_, rfl⟩ := hd
        obtain ⟨cv, rfl, hv⟩ := hx
        obtain ⟨cu, rfl, hu'⟩ := hy
        simp only [Bool.cond_eq_ite, Nat.beq_eq] at h
        split at h
        · rename_i hab
          subst hab
          cases hta : E.ty a with
          | none => simp [hta] at h
          | some ai =>
            obtain ⟨ii, dd, zz, ha⟩ := KE.out.ty a ai hta
            simp only [hta] at h
            split at h
            · rename_i hc
              have := K.out n a v u b cv cu (by omega) h hv hu'
              simp [Op.equalIn, run_underlying hu, run_info ha, ha.cmp hc, this]
            · cases h
        · rename_i hab
          simp only [Option.some.injEq] at h
          subst h
          simp [Op.equalIn, run_underlying hu, hab]
      case h_20 =>
        rename_i fs eqok as bs hq0
        clear hq0
        obtain ⟨F, rfl, hF, hok⟩ := hd
        obtain ⟨xs, rfl, hxs⟩ := hx
        obtain ⟨ys, rfl, hys⟩ := hy
        simp only [Bool.cond_eq_ite] at h
        split at h
        case isFalse => cases h
        rename_i hq
        obtain ⟨hn_, hst, _⟩ := hok hq
        have hfo : P.fieldsOf t = F := by simp [Program.fieldsOf, hu]
        rw [run_equalIn_struct w n t xs.toArray ys.toArray (by rw [hfo]; exact hu) hst, hfo]
        clear hfo hq hok hu
        generalize F.toList = FL at hF hn_
        clear hst
        induction FL generalizing fs with
        | nil =>
          simp only [List.map_nil] at hF; subst hF
          simp only [eqFs, Option.some.injEq] at h; subst h
          simp [Op.eqFields]
        | cons f FL ihF =>
          simp only [List.map_cons] at hF; subst hF
          simp only [eqFs] at h
          cases hpx : partA E f.type as f.offset with
          | none => simp [hpx] at h
          | some px =>
            cases hpy : partA E f.type bs f.offset with
            | none => simp [hpx, hpy] at h
            | some py =>
              obtain ⟨cpx, rx, vx⟩ := partA_sound (w := w) KE.out hxs hpx
              obtain ⟨cpy, ry, vy⟩ := partA_sound (w := w) KE.out hys hpy
              simp only [hpx, hpy] at h
              cases hq : eqv E d f.type px py with
              | none => simp [hq] at h
              | some q =>
                have hr := K.out n f.type px py q cpx cpy (by omega) hq vx vy
                simp only [hq] at h
                have hname : f.name ≠ "_" := hn_ f (by simp)
                simp only [Op.eqFields, hname, ne_eq, not_false_eq_true, if_true, Sem.run_bind, rx, ry, hr, Result.andThen_ok]
                cases q with
                | false => simp only [Option.some.injEq] at h; subst h; simp
                | true => simpa using ihF _ h rfl (fun g hg => hn_ g (List.mem_cons_of_mem _ hg))
      case h_21 => subst h; simp [Op.equalIn, run_underlying hu]
      case h_22 => obtain ⟨_, _, rfl⟩ := hy; subst h; simp [Op.equalIn, run_underlying hu]
      case h_23 => obtain ⟨_, _, rfl⟩ := hx; subst h; simp [Op.equalIn, run_underlying hu]
      case h_24 => cases h

end
end Go.Vai
