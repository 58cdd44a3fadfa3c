/- A region whose order is open: in whatever order its operations run, what comes out is what the order of the text gives. -/
import Derived.Test.YtopjbfgikglncaaGreatDoorVaiCtl
import Derived.OrdersIn
namespace Go.Vai

theorem bitIn_eq (m i : Nat) : bitIn m i = m.testBit i := by
  unfold bitIn
  rw [Bool.eq_iff_iff]
  simp only [Nat.beq_eq]
  show (m / 2 ^ i) &&& 1 = 1 ↔ _
  rw [Nat.and_one_is_mod, Nat.testBit_eq_decide_div_mod_eq]
  simp
theorem bitIn_or (a b i : Nat) : bitIn (Nat.lor a b) i = (bitIn a i || bitIn b i) := by
  rw [bitIn_eq, bitIn_eq, bitIn_eq]
  exact Nat.testBit_or ..
theorem bitIn_two (a i : Nat) : bitIn (2 ^ a) i = decide (a = i) := by rw [bitIn_eq, Nat.testBit_two_pow]

section
variable {E : Env} {P : Program} {I : List MEnt → AHeap → World → Prop} {ih : Task → Option TRes} {ro : Option Nat} {H : AHeap}

/-! ### An operation's outcome hangs on the slots that it reads, alone -/
theorem opd_congr {fr fr' : Tr AV} {x : Operand} (h : ∀ t, isTmp t x = true → fr.get t = fr'.get t) : opd E fr x = opd E fr' x := by
  cases x with
  | tmp t => exact h t (by simp [isTmp])
  | _ => rfl
theorem opds_congr {fr fr' : Tr AV} : ∀ (xs : List Operand), (∀ x ∈ xs, opd E fr x = opd E fr' x) → opds E fr xs = opds E fr' xs
  | [], _ => rfl
  | x :: xs, h => by
    simp only [opds]
    rw [h x (by simp), opds_congr xs (fun y hy => h y (by simp [hy]))]
theorem partsA_congr {fr fr' : Tr AV} : ∀ (ps : List (Nat × Operand)), (∀ x ∈ ps.map (·.2), opd E fr x = opd E fr' x) → partsA E fr ps = partsA E fr' ps
  | [], _ => rfl
  | (i, x) :: ps, h => by
    simp only [partsA]
    rw [h x (by simp), partsA_congr ps (fun y hy => h y (by simp at hy ⊢; exact .inr hy))]
theorem optOpd_congr {fr fr' : Tr AV} {x : Option Operand} (h : ∀ y ∈ x, opd E fr y = opd E fr' y) : optOpd E fr x = optOpd E fr' x := by
  cases x with
  | none => rfl
  | some y => simp only [optOpd]; rw [h y rfl]

theorem execA_congr {fr fr' : Tr AV} {o : Oper} (h : ∀ x ∈ o.op.operands.toList, opd E fr x = opd E fr' x) : execA E H fr o = execA E H fr' o := by
  unfold execA
  cases hop : o.op <;> rw [hop] at h <;> simp only [Op.operands] at h <;> try dsimp only
  case build t ps => rw [partsA_congr ps.toList (by simpa using h)]
  case buildSlice t l ps => rw [partsA_congr ps.toList (by simpa using h)]
  case makeFunc f a b => cases f <;> first | rfl | (dsimp only; rw [opds_congr a.toList (fun x hx => h x (by simp at hx ⊢; exact .inl hx)), opds_congr b.toList (fun x hx => h x (by simp at hx ⊢; exact .inr hx))])
  case next x s => cases s <;> first | rfl | (dsimp only; rw [h x (by simp)])
  case slice t x lo hi mx => 
    rw [h x (by simp), optOpd_congr (x := lo) (fun y hy => h y (by simp_all)), optOpd_congr (x := hi) (fun y hy => h y (by simp_all)), optOpd_congr (x := mx) (fun y hy => h y (by simp_all))]
  case call c =>
    cases hc : c.callee with
    | builtin b => simp only; rw [opds_congr c.args.toList (fun x hx => h x (by simp only [Call.operands, hc]; simpa using hx))]
    | value f => simp only; rw [h f (by simp [Call.operands, hc]), opds_congr c.args.toList (fun x hx => h x (by simp only [Call.operands, hc]; simp at hx ⊢; exact .inr hx))]
    | invoke r n => rfl
  case «defer» c =>
    cases hc : c.callee with
    | value f => simp only; rw [h f (by simp [Call.operands, hc]), opds_congr c.args.toList (fun x hx => h x (by simp only [Call.operands, hc]; simp at hx ⊢; exact .inr hx))]
    | _ => rfl
  case makeMap t r => cases r <;> rfl
  all_goals first | rfl | (simp only [List.mem_cons, List.not_mem_nil, or_false, forall_eq, forall_eq_or_imp] at h; simp only [h])

theorem vh_same {x : Option AV} {v : AV} {H' : AHeap} (h : vh H x = some (.val v H')) : H' = H := by
  obtain ⟨u, _, e⟩ := vh_some h
  cases e; rfl

theorem quiet_same {fr : Tr AV} {o : Oper} {v : AV} {H' : AHeap} (hq : quietOp E o.op = true) (h : execA E H fr o = some (.val v H')) : H' = H := by
  unfold execA at h
  cases hop : o.op <;> rw [hop] at h hq <;> (try dsimp only at h) <;> (try (simp only [quietOp, Bool.false_eq_true] at hq; done))
  case move x => exact vh_same h
  case assign x => exact vh_same h
  case pick c a b => split at h <;> first | exact vh_same h | cases h
  case build t ps => split at h <;> first | exact vh_same h | cases h
  case load t x => split at h <;> first | exact vh_same h | cases h
  case nilCheck x => split at h <;> first | (cases h; rfl) | cases h
  case binOp op t x y z =>
    split at h
    · cases hb : (isConst x || isConst y) with
      | true => simp only [hb, cond_true] at h; exact vh_same h
      | false => simp [hb] at h
    · exact vh_same h
    · cases h
  case unOp op t x => split at h <;> first | exact vh_same h | cases h
  case makeInterface t x =>
    split at h
    · split at h
      · cases h
      · cases h; rfl
    · cases h
  case makeFunc f a b =>
    cases f <;> dsimp only at h <;> first | cases h | skip
    split at h <;> first | (cases h; rfl) | cases h
  case slice t x lo hi mx => split at h <;> first | exact vh_same h | cases h
  case lookup t x i ok => split at h <;> first | exact vh_same h | cases h
  case fieldAddr t x f => split at h <;> first | exact vh_same h | cases h
  case field t x f => split at h <;> first | exact vh_same h | cases h
  case indexAddr t x i => split at h <;> first | exact vh_same h | cases h
  case index t x i => split at h <;> first | exact vh_same h | cases h
  case typeAssert x xt t ok => split at h <;> first | exact vh_same h | cases h
  case extract x i =>
    split at h
    · split at h
      · cases h; rfl
      · cases h
    · cases h
  case convert s d x =>
    split at h
    case h_2 => cases h
    split at h
    · cases h; rfl
    obtain ⟨u, H2, hc, e⟩ := vhh_some h
    cases e
    unfold convertA at hc
    simp only [quietOp] at hq
    split at hc
    case h_2 => cases hc
    rename_i si di hs hd
    rw [hd] at hq
    dsimp only at hq
    split at hc
    · cases hc; rfl
    · simp only [Bool.cond_eq_ite] at hc
      split at hc
      · cases hc; rfl
      · cases hc
    · cases hc; rfl
    · split at hc
      case h_2 => cases hc
      split at hc
      case h_2 => cases hc
      split at hc
      case h_2 => cases hc
      split at hc
      case h_2 => cases hc
      split at hc
      · cases hc; rfl
      · cases hc
    · simp_all
    · simp_all
    · cases hc
  case call c =>
    simp only [quietOp] at hq
    cases hc : c.callee with
    | value f => rw [hc] at hq; cases hq
    | invoke r n => rw [hc] at hq; cases hq
    | builtin b =>
      rw [hc] at hq h
      dsimp only at h
      split at h
      case h_2 => cases h
      rename_i l hl
      unfold builtinA at h
      cases b <;> (try (simp only [Bool.false_eq_true] at hq; done)) <;> (repeat' split at h)
      all_goals first | (cases h; rfl) | cases h | (exfalso; simp_all; done)

/-- The static side, in words. -/
structure Stat (E : Env) (ops : Array Oper) (an : Tr Nat) : Prop where
  anc : ∀ (i : Nat) (o : Oper), ops[i]? = some o → ∃ m, an.get i = some m ∧ ∀ k, bitIn m k = true → ∃ e ∈ o.after.toList, Region.binds .any e = true ∧ (k = e.on ∨ ∃ m', an.get e.on = some m' ∧ bitIn m' k = true)
  low : ∀ (i : Nat) (o : Oper), ops[i]? = some o → ∀ e ∈ o.after.toList, Region.binds .any e = true → e.on < i
  guard : ∀ (i : Nat) (o : Oper) (j : Nat) (b : Bool), ops[i]? = some o → o.guard = some (j, b) → ∃ m, an.get i = some m ∧ bitIn m j = true
  self : ∀ (i : Nat) (o : Oper) (d : Tmp), ops[i]? = some o → o.dst = some d → reads d o = false
  uniq : ∀ (i j : Nat) (o p : Oper) (d : Tmp), ops[i]? = some o → ops[j]? = some p → i < j → o.dst = some d → p.dst ≠ some d
  rd1 : ∀ (i j : Nat) (o p : Oper) (d : Tmp), ops[i]? = some o → ops[j]? = some p → i < j → o.dst = some d → reads d p = true → ordered an i j = true
  rd2 : ∀ (i j : Nat) (o p : Oper) (d : Tmp), ops[i]? = some o → ops[j]? = some p → i < j → p.dst = some d → reads d o = true → ordered an i j = true
  rdf : ∀ (i j : Nat) (o p : Oper) (d : Tmp), ops[i]? = some o → ops[j]? = some p → i < j → o.dst = some d → reads d p = true → freshOp o.op = true →
    ∀ (k : Nat) (q : Oper), k ≤ i → ops[k]? = some q → quietOp E q.op = false → ∃ m, an.get j = some m ∧ bitIn m k = true
  gf : ∀ (i j : Nat) (o p : Oper) (b : Bool), ops[i]? = some o → ops[j]? = some p → i < j → p.guard = some (i, b) → freshOp o.op = false
  loud : ∀ (i j : Nat) (o p : Oper), ops[i]? = some o → ops[j]? = some p → i < j → quietOp E o.op = false → quietOp E p.op = false → freshOp p.op = false → ordered an i j = true

theorem loudsOf_bit : ∀ (os : List Oper) (i k : Nat) (q : Oper), os[k]? = some q → quietOp E q.op = false → bitIn (loudsOf E os i) (i + k) = true := by
  intro os
  induction os with
  | nil => intro i k q h; simp at h
  | cons o os ih =>
    intro i k q h hq
    cases k with
    | zero =>
      simp at h; subst h
      simp only [loudsOf, hq, cond_false, bitIn_or, bitIn_two]
      simp
    | succ k =>
      have := ih (i + 1) k q (by simpa using h) hq
      rw [show i + 1 + k = i + (k + 1) by omega] at this
      simp only [loudsOf]
      cases quietOp E o.op
      · simp only [cond_false, bitIn_or, this, Bool.or_true]
      · simpa using this
theorem freshOf_bit : ∀ (os : List Oper) (i k : Nat) (q : Oper), os[k]? = some q → freshOp q.op = true → bitIn (freshOf os i) (i + k) = true := by
  intro os
  induction os with
  | nil => intro i k q h; simp at h
  | cons o os ih =>
    intro i k q h hq
    cases k with
    | zero =>
      simp at h; subst h
      simp only [freshOf, hq, cond_true, bitIn_or, bitIn_two]
      simp
    | succ k =>
      have := ih (i + 1) k q (by simpa using h) hq
      rw [show i + 1 + k = i + (k + 1) by omega] at this
      simp only [freshOf]
      cases freshOp o.op
      · simpa using this
      · simp only [cond_true, bitIn_or, this, Bool.or_true]
theorem within_bit {m lm i k : Nat} (h : within m (lm % 2 ^ i) = true) (hk : k < i) (hb : bitIn lm k = true) : bitIn m k = true := by
  unfold within at h
  simp only [Nat.beq_eq] at h
  rw [bitIn_eq] at hb ⊢
  have h2 := congrArg (·.testBit k) h
  have h3 : (lm % 2 ^ i).testBit k = true := by
    rw [Nat.testBit_mod_two_pow, hb]; simp; omega
  rw [h3] at h2
  have h4 : (m &&& (lm % 2 ^ i)).testBit k = true := h2
  rw [Nat.testBit_and] at h4
  simp only [Bool.and_eq_true] at h4
  exact h4.1

theorem wmap_spec : ∀ (os : List Oper) (i : Nat) (acc wm : Tr Nat), wmap os i acc = some wm → (∀ x v, acc.get x = some v → wm.get x = some v) ∧ ∀ (k : Nat) (o : Oper) (d : Tmp), os[k]? = some o → o.dst = some d → wm.get d = some (i + k) := by
  intro os
  induction os with
  | nil =>
    intro i acc wm h
    simp only [wmap, Option.some.injEq] at h; subst h
    exact ⟨fun _ _ h => h, fun k o d h => by simp at h⟩
  | cons o os ih =>
    intro i acc wm h
    simp only [wmap] at h
    split at h
    · rename_i hd
      obtain ⟨a, b⟩ := ih _ _ _ h
      refine ⟨a, fun k q d hk hq => ?_⟩
      cases k with
      | zero => simp at hk; subst hk; rw [hd] at hq; cases hq
      | succ k => rw [show i + (k + 1) = i + 1 + k by omega]; exact b k q d (by simpa using hk) hq
    · rename_i d hd
      split at h
      · cases h
      rename_i hacc
      simp only [Bool.cond_eq_ite, Nat.blt_eq] at h
      split at h
      case isFalse => cases h
      rename_i hlt
      obtain ⟨a, b⟩ := ih _ _ _ h
      refine ⟨fun x v hx => a x v ?_, fun k q d' hk hq => ?_⟩
      · rw [Tr.get_set_eq _ _ _ hlt]
        by_cases e : x = d
        · subst e; rw [hacc] at hx; cases hx
        · rw [if_neg e]; exact hx
      · cases k with
        | zero =>
          simp at hk; subst hk
          rw [hd] at hq; cases hq
          exact a d i (by rw [Tr.get_set_eq _ _ _ hlt, if_pos rfl])
        | succ k => rw [show i + (k + 1) = i + 1 + k by omega]; exact b k q d' (by simpa using hk) hq

/-! ### The static side read off -/
theorem allFrom_at {lm fm : Nat} {an wm : Tr Nat} : ∀ (os : List Oper) (i : Nat), allFrom E lm fm an wm os i = true → ∀ (k : Nat) (o : Oper), os[k]? = some o → oneOk E lm fm an wm (i + k) o = true := by
  intro os
  induction os with
  | nil => intro i _ k o h; simp at h
  | cons o os ih =>
    intro i h k q hk
    simp only [allFrom, Bool.and_eq_true] at h
    cases k with
    | zero => simp at hk; subst hk; exact h.1
    | succ k => rw [show i + (k + 1) = i + 1 + k by omega]; exact ih (i + 1) h.2 k q (by simpa using hk)

theorem binds_any (e : Edge) : Region.binds .any e = true ↔ (∀ r, e.ground ≠ .textOnly r) ∧ (∀ r, e.ground ≠ .gcOnly r) := by
  unfold Region.binds
  cases e.ground <;> simp

theorem ancOf_spec {acc : Tr Nat} : ∀ (es : List Edge) (i m : Nat), ancOf acc es i = some m →
    (∀ e ∈ es, Region.binds .any e = true → e.on < i) ∧ ∀ k, bitIn m k = true → ∃ e ∈ es, Region.binds .any e = true ∧ (k = e.on ∨ ∃ m', acc.get e.on = some m' ∧ bitIn m' k = true) := by
  intro es
  induction es with
  | nil =>
    intro i m h
    simp only [ancOf, Option.some.injEq] at h; subst h
    exact ⟨fun e he => (by cases he), fun k hk => (by rw [bitIn_eq] at hk; simp at hk)⟩
  | cons e es ihe =>
    intro i m h
    have skip : Region.binds .any e = false → ancOf acc es i = some m → _ := fun hb h' => by
      obtain ⟨a, b⟩ := ihe i m h'
      exact (⟨fun e' he' hb' => by
          simp only [List.mem_cons] at he'
          rcases he' with rfl | he'
          · rw [hb] at hb'; cases hb'
          · exact a e' he' hb', fun k hk => by
          obtain ⟨e', he', r⟩ := b k hk
          exact ⟨e', by simp [he'], r⟩⟩ : (∀ e' ∈ e :: es, Region.binds .any e' = true → e'.on < i) ∧ ∀ k, bitIn m k = true → ∃ e' ∈ e :: es, Region.binds .any e' = true ∧ (k = e'.on ∨ ∃ m', acc.get e'.on = some m' ∧ bitIn m' k = true))
    simp only [ancOf] at h
    split at h
    · rename_i r hg; exact skip (by simp [Region.binds, hg]) h
    · rename_i r hg; exact skip (by simp [Region.binds, hg]) h
    · rename_i h1 h2
      have hb : Region.binds .any e = true := (binds_any e).2 ⟨h1, h2⟩
      simp only [Bool.cond_eq_ite, Nat.blt_eq] at h
      split at h
      case isFalse => cases h
      rename_i hlt
      split at h
      case h_2 => cases h
      rename_i m1 r hm1 hr
      simp only [Option.some.injEq] at h; subst h
      obtain ⟨a, b⟩ := ihe i r hr
      refine ⟨fun e' he' hb' => ?_, fun k hk => ?_⟩
      · simp only [List.mem_cons] at he'
        rcases he' with rfl | he'
        · exact hlt
        · exact a e' he' hb'
      · rw [bitIn_or, bitIn_or, bitIn_two] at hk
        simp only [Bool.or_eq_true, decide_eq_true_eq] at hk
        rcases hk with (hk | hk) | hk
        · exact ⟨e, by simp, hb, .inl hk.symm⟩
        · exact ⟨e, by simp, hb, .inr ⟨m1, hm1, hk⟩⟩
        · obtain ⟨e', he', r'⟩ := b k hk
          exact ⟨e', by simp [he'], r'⟩

theorem ancs_spec : ∀ (os : List Oper) (i : Nat) (acc an : Tr Nat), i + os.length ≤ 1000000 → ancs os i acc = some an →
    (∀ k, k < i → an.get k = acc.get k) ∧ ∀ (k : Nat) (o : Oper), os[k]? = some o → ∃ m, an.get (i + k) = some m ∧
      (∀ e ∈ o.after.toList, Region.binds .any e = true → e.on < i + k) ∧ ∀ b, bitIn m b = true → ∃ e ∈ o.after.toList, Region.binds .any e = true ∧ (b = e.on ∨ ∃ m', an.get e.on = some m' ∧ bitIn m' b = true) := by
  intro os
  induction os with
  | nil =>
    intro i acc an _ h
    simp only [ancs, Option.some.injEq] at h; subst h
    exact ⟨fun _ _ => rfl, fun k o h => by simp at h⟩
  | cons o os iho =>
    intro i acc an hl h
    simp only [List.length_cons] at hl
    simp only [ancs] at h
    split at h
    · cases h
    rename_i m hm
    obtain ⟨a, b⟩ := iho (i + 1) _ an (by omega) h
    have keep : ∀ k, k < i → an.get k = acc.get k := fun k hk => by
      rw [a k (by omega), Tr.get_set_eq _ _ _ (by omega), if_neg (by omega)]
    have here : an.get i = some m := by rw [a i (by omega), Tr.get_set_eq _ _ _ (by omega), if_pos rfl]
    refine ⟨keep, fun k o' hk => ?_⟩
    cases k with
    | zero =>
      simp at hk; subst hk
      obtain ⟨c, d⟩ := ancOf_spec _ _ _ hm
      refine ⟨m, here, c, fun bb hb => ?_⟩
      obtain ⟨e, he, hbe, hk⟩ := d bb hb
      refine ⟨e, he, hbe, ?_⟩
      rcases hk with hk | ⟨m', hm', hk⟩
      · exact .inl hk
      · exact .inr ⟨m', by rw [keep _ (c e he hbe)]; exact hm', hk⟩
    | succ k =>
      have := b k o' (by simpa using hk)
      rw [show i + (k + 1) = i + 1 + k by omega]; exact this

theorem stat_of {ops : Array Oper} {an : Tr Nat} (hn : ops.size ≤ 1000000) (han : ancs ops.toList 0 .nil = some an) (hall : allOk E an ops.toList = true) : Stat E ops an := by
  have at_ : ∀ (i : Nat) (o : Oper), ops[i]? = some o → ops.toList[i]? = some o := fun i o h => by simpa using h
  obtain ⟨_, sp⟩ := ancs_spec ops.toList 0 .nil an (by simpa using hn) han
  unfold allOk at hall
  split at hall
  · cases hall
  rename_i wm hwm
  obtain ⟨_, wsp⟩ := wmap_spec ops.toList 0 .nil wm hwm
  have one := allFrom_at ops.toList 0 hall
  simp only [Nat.zero_add] at sp wsp one
  have lmb : ∀ (k : Nat) (q : Oper), ops[k]? = some q → quietOp E q.op = false → bitIn (loudsOf E ops.toList 0) k = true := fun k q hk hq => by
    have := loudsOf_bit (E := E) ops.toList 0 k q (at_ k q hk) hq
    rwa [Nat.zero_add] at this
  have fmb : ∀ (k : Nat) (q : Oper), ops[k]? = some q → freshOp q.op = true → bitIn (freshOf ops.toList 0) k = true := fun k q hk hq => by
    have := freshOf_bit ops.toList 0 k q (at_ k q hk) hq
    rwa [Nat.zero_add] at this
  -- what is asked of operation j
  have ask : ∀ (j : Nat) (p : Oper), ops[j]? = some p → ∃ m, an.get j = some m ∧ (∀ t, reads t p = true → argOk (loudsOf E ops.toList 0) (freshOf ops.toList 0) an wm j m (.tmp t) = true) ∧
      (∀ g b, p.guard = some (g, b) → bitIn m g = true ∧ bitIn (freshOf ops.toList 0) g = false) ∧ (quietOp E p.op = false → freshOp p.op = false → within m (loudsOf E ops.toList 0 % 2 ^ j) = true) := fun j p hj => by
    have := one j p (at_ j p hj)
    unfold oneOk at this
    split at this
    · cases this
    rename_i m hm
    simp only [Bool.and_eq_true, List.all_eq_true] at this
    obtain ⟨h1, h2, h3⟩ := this
    refine ⟨m, hm, fun t ht => ?_, fun g b hg => ?_, fun hq hf => ?_⟩
    · simp only [reads, List.any_eq_true] at ht
      obtain ⟨x, hx, hxt⟩ := ht
      cases x <;> simp only [isTmp, Nat.beq_eq, Bool.false_eq_true] at hxt
      subst hxt
      exact h1 _ hx
    · rw [hg] at h2
      simpa using h2
    · simpa [hq, hf] using h3
  have before : ∀ (i j : Nat) (o p : Oper) (d : Tmp), ops[i]? = some o → ops[j]? = some p → i < j → o.dst = some d → reads d p = true → ∃ m, an.get j = some m ∧ bitIn m i = true ∧ (freshOp o.op = true → within m (loudsOf E ops.toList 0 % 2 ^ (i + 1)) = true) := by
    intro i j o p d hi hj hij hd hr
    obtain ⟨m, hm, h1, _, _⟩ := ask j p hj
    have := h1 d hr
    simp only [argOk, wsp i o d (at_ i o hi) hd, Bool.cond_eq_ite, Nat.blt_eq, hij, if_true, Bool.and_eq_true] at this
    refine ⟨m, hm, this.1, fun hf => ?_⟩
    have := this.2
    simpa [fmb i o hi hf] using this
  have ordOf : ∀ (i j : Nat) (o : Oper) (m : Nat), ops[i]? = some o → an.get j = some m → bitIn m i = true → ordered an i j = true := fun i j o m hi hm hb => by
    obtain ⟨mi, hmi, _⟩ := sp i o (at_ i o hi)
    simp [ordered, hmi, hm, hb]
  refine ⟨?_, ?_, ?_, ?_, ?_, ?_, ?_, ?_, ?_, ?_⟩
  · intro i o h
    obtain ⟨m, a, _, c⟩ := sp i o (at_ i o h)
    exact ⟨m, a, c⟩
  · intro i o h
    obtain ⟨m, a, b, c⟩ := sp i o (at_ i o h)
    exact b
  · intro i o j b h hg
    obtain ⟨m, hm, _, h2, _⟩ := ask i o h
    exact ⟨m, hm, (h2 j b hg).1⟩
  · intro i o d h hd
    cases hr : reads d o with
    | false => rfl
    | true =>
      obtain ⟨m, hm, h1, _, _⟩ := ask i o h
      have := h1 d hr
      simp [argOk, wsp i o d (at_ i o h) hd] at this
  · intro i j o p d hi hj hij hd hp
    have a := wsp i o d (at_ i o hi) hd
    have b := wsp j p d (at_ j p hj) hp
    rw [a] at b
    simp only [Option.some.injEq] at b
    omega
  · intro i j o p d hi hj hij hd hr
    obtain ⟨m, hm, hb, _⟩ := before i j o p d hi hj hij hd hr
    exact ordOf i j o m hi hm hb
  · intro i j o p d hi hj hij hd hr
    obtain ⟨m, hm, h1, _, _⟩ := ask i o hi
    have := h1 d hr
    have nlt : ¬ j < i := by omega
    simp only [argOk, wsp j p d (at_ j p hj) hd, Bool.cond_eq_ite, Nat.blt_eq, nlt, if_false, hij, if_true] at this
    split at this
    · rename_i mj hmj
      exact ordOf i j o mj hi hmj this
    · cases this
  · intro i j o p d hi hj hij hd hr hf k q hk hq hl
    obtain ⟨m, hm, _, hw⟩ := before i j o p d hi hj hij hd hr
    exact ⟨m, hm, within_bit (hw hf) (by omega) (lmb k q hq hl)⟩
  · intro i j o p b hi hj hij hg
    obtain ⟨m, hm, _, h2, _⟩ := ask j p hj
    have := (h2 i b hg).2
    cases hf : freshOp o.op with
    | false => rfl
    | true => rw [fmb i o hi hf] at this; cases this
  · intro i j o p hi hj hij ho hp hf
    obtain ⟨m, hm, _, _, h3⟩ := ask j p hj
    exact ordOf i j o m hi hm (within_bit (h3 hp hf) hij (lmb i o hi ho))

def Anc (an : Tr Nat) (j i : Nat) : Prop := ∃ m, an.get j = some m ∧ bitIn m i = true
theorem Stat.step {ops : Array Oper} {an : Tr Nat} (st : Stat E ops an) {j i : Nat} {o : Oper} (h : ops[j]? = some o) (ha : Anc an j i) :
    ∃ e ∈ o.after.toList, Region.binds .any e = true ∧ e.on < j ∧ (i = e.on ∨ Anc an e.on i) := by
  obtain ⟨m, hm, hb⟩ := ha
  obtain ⟨m', hm', sp⟩ := st.anc j o h
  rw [hm] at hm'; cases hm'
  obtain ⟨e, he, hbe, hk⟩ := sp i hb
  exact ⟨e, he, hbe, st.low j o h e he hbe, hk⟩
theorem Stat.lt {ops : Array Oper} {an : Tr Nat} (st : Stat E ops an) : ∀ (j : Nat) {i : Nat} {o : Oper}, ops[j]? = some o → Anc an j i → i < j := by
  intro j
  induction j using Nat.strongRecOn with
  | _ j ihj =>
    intro i o h ha
    obtain ⟨e, he, hbe, hlt, hk⟩ := st.step h ha
    rcases hk with hk | hk
    · omega
    · have hs : e.on < ops.size := Nat.lt_trans hlt (Array.getElem?_eq_some_iff.1 h).1
      exact Nat.lt_trans (ihj e.on hlt (Array.getElem?_eq_getElem hs) hk) hlt
/-- Closed: whoever is in has all that stands ahead of it in. -/
def Closed (ops : Array Oper) (S : Nat → Prop) : Prop := ∀ (j : Nat) (o : Oper), ops[j]? = some o → S j → ∀ e ∈ o.after.toList, Region.binds .any e = true → S e.on
theorem Stat.ancIn {ops : Array Oper} {an : Tr Nat} (st : Stat E ops an) {S : Nat → Prop} (hS : Closed ops S) : ∀ (j : Nat) {i : Nat} {o : Oper}, ops[j]? = some o → (∀ e ∈ o.after.toList, Region.binds .any e = true → S e.on) → Anc an j i → S i := by
  intro j
  induction j using Nat.strongRecOn with
  | _ j ihj =>
    intro i o h hd ha
    obtain ⟨e, he, hbe, hlt, hk⟩ := st.step h ha
    rcases hk with hk | hk
    · rw [hk]; exact hd e he hbe
    · have hs : e.on < ops.size := Nat.lt_trans hlt (Array.getElem?_eq_some_iff.1 h).1
      exact ihj e.on hlt (Array.getElem?_eq_getElem hs) (hS _ _ (Array.getElem?_eq_getElem hs) (hd e he hbe)) hk
theorem Stat.ord {ops : Array Oper} {an : Tr Nat} (st : Stat E ops an) {i j : Nat} {o : Oper} (hi : ops[i]? = some o) (hij : i < j) (h : ordered an i j = true) : Anc an j i := by
  unfold ordered at h
  split at h
  · rename_i mi mj h1 h2
    simp only [Bool.or_eq_true] at h
    rcases h with h | h
    · exact ⟨mj, h2, h⟩
    · have := st.lt i hi ⟨mi, h1, h⟩; omega
  · cases h

/-! ### What the order of the text did -/
structure TRec where
  o : Oper
  w : Bool
  v : AV
  fr : AFr
  H : AHeap
  H' : AHeap

structure StepOk (E : Env) (ih : Task → Option TRes) (ops : Array Oper) (r : TRec) : Prop where
  want : wantedA ops r.fr.t r.o = some r.w
  no : r.w = false → r.v = undefA ∧ r.H' = r.H
  quiet : r.w = true → quietOp E r.o.op = true → r.H' = r.H ∧ quietA E r.H r.fr.t r.o = some r.v
  loud : r.w = true → quietOp E r.o.op = false → ∃ x, execA E r.H r.fr.t r.o = some x ∧ (callsA ih r.H x = some (.val r.v r.H') ∨ (callsA ih r.H x = some (.skip r.H') ∧ r.v = undefA))

def Trace (E : Env) (ih : Task → Option TRes) (ops : Array Oper) : List TRec → Nat → AFr → AHeap → AFr → AHeap → Prop
  | [], _, fr, H, fr', H' => fr' = fr ∧ H' = H
  | r :: T, i, fr, H, fr', H' => ops[i]? = some r.o ∧ r.fr = fr ∧ r.H = H ∧ StepOk E ih ops r ∧ Trace E ih ops T (i + 1) (fr.put r.o.dst r.v) r.H' fr' H'

def WL (E : Env) (r : TRec) : Prop := r.w = true ∧ quietOp E r.o.op = false
def WQ (E : Env) (r : TRec) : Prop := r.w = true ∧ quietOp E r.o.op = true

structure Stab (E : Env) (an : Tr Nat) (T : List TRec) (i : Nat) (qs : List QRec) (es : List ERec) : Prop where
  e : ∀ (k : Nat) (r : TRec), T[k]? = some r → WQ E r → ∀ x ∈ es, Anc an (i + k) x.j ∨ quietA E x.H r.fr.t r.o = some r.v
  q : ∀ (k : Nat) (r : TRec), T[k]? = some r → WL E r → ∀ x ∈ qs, Anc an (i + k) x.i ∨ quietA E r.H' x.fr x.o = some x.v
  eq : ∀ (j k : Nat) (r s : TRec), T[j]? = some r → T[k]? = some s → j < k → WL E r → WQ E s → Anc an (i + k) (i + j) ∨ quietA E r.H s.fr.t s.o = some s.v
  qe : ∀ (j k : Nat) (r s : TRec), T[j]? = some r → T[k]? = some s → j < k → WQ E r → WL E s → Anc an (i + k) (i + j) ∨ quietA E s.H' r.fr.t r.o = some r.v

theorem Stab.nil {an : Tr Nat} {i : Nat} {qs : List QRec} {es : List ERec} : Stab E an [] i qs es :=
  ⟨fun k r h => by simp at h, fun k r h => by simp at h, fun j k r s h => by simp at h, fun j k r s h => by simp at h⟩

theorem Stab.cons {an : Tr Nat} {i : Nat} {qs qs' : List QRec} {es es' : List ERec} {r : TRec} {T : List TRec} (h : Stab E an T (i + 1) qs' es')
    (hq : ∀ x ∈ qs, x ∈ qs') (he : ∀ x ∈ es, x ∈ es') (rq : WQ E r → ⟨i, r.o, r.fr.t, r.v⟩ ∈ qs') (re : WL E r → ⟨i, r.H⟩ ∈ es')
    (se : WQ E r → ∀ x ∈ es, Anc an i x.j ∨ quietA E x.H r.fr.t r.o = some r.v) (sq : WL E r → ∀ x ∈ qs, Anc an i x.i ∨ quietA E r.H' x.fr x.o = some x.v) : Stab E an (r :: T) i qs es where
  e := fun k s hk hw x hx => by
    cases k with
    | zero => simp at hk; subst hk; exact se hw x hx
    | succ k => have := h.e k s (by simpa using hk) hw x (he x hx); rw [show i + (k + 1) = i + 1 + k by omega]; exact this
  q := fun k s hk hw x hx => by
    cases k with
    | zero => simp at hk; subst hk; exact sq hw x hx
    | succ k => have := h.q k s (by simpa using hk) hw x (hq x hx); rw [show i + (k + 1) = i + 1 + k by omega]; exact this
  eq := fun j k a b ha hb hjk hwa hwb => by
    cases k with
    | zero => omega
    | succ k =>
      cases j with
      | zero => simp at ha; subst ha; have := h.e k b (by simpa using hb) hwb _ (re hwa); rw [show i + (k + 1) = i + 1 + k by omega]; exact this
      | succ j => have := h.eq j k a b (by simpa using ha) (by simpa using hb) (by omega) hwa hwb; rw [show i + (k + 1) = i + 1 + k by omega, show i + (j + 1) = i + 1 + j by omega]; exact this
  qe := fun j k a b ha hb hjk hwa hwb => by
    cases k with
    | zero => omega
    | succ k =>
      cases j with
      | zero => simp at ha; subst ha; have := h.q k b (by simpa using hb) hwb _ (rq hwa); rw [show i + (k + 1) = i + 1 + k by omega]; exact this
      | succ j => have := h.qe j k a b (by simpa using ha) (by simpa using hb) (by omega) hwa hwb; rw [show i + (k + 1) = i + 1 + k by omega, show i + (j + 1) = i + 1 + j by omega]; exact this

theorem sameAt_some {H : AHeap} {q : QRec} (h : sameAt E H q = true) : quietA E H q.fr q.o = some q.v := by
  unfold sameAt at h
  split at h
  · rename_i u hu
    rw [hu, eqb_eq _ _ h]
  · cases h
theorem stableE_some {q : QRec} {m : Nat} : ∀ {es : List ERec}, stableE E q m es = true → ∀ x ∈ es, bitIn m x.j = true ∨ quietA E x.H q.fr q.o = some q.v := by
  intro es
  induction es with
  | nil => intro _ x hx; cases hx
  | cons e es ihe =>
    intro h x hx
    simp only [stableE, Bool.and_eq_true, Bool.or_eq_true] at h
    simp only [List.mem_cons] at hx
    rcases hx with rfl | hx
    · exact h.1.imp id sameAt_some
    · exact ihe h.2 x hx
theorem stableQ_some {H : AHeap} {m : Nat} : ∀ {qs : List QRec}, stableQ E H m qs = true → ∀ x ∈ qs, bitIn m x.i = true ∨ quietA E H x.fr x.o = some x.v := by
  intro qs
  induction qs with
  | nil => intro _ x hx; cases hx
  | cons e es ihe =>
    intro h x hx
    simp only [stableQ, Bool.and_eq_true, Bool.or_eq_true] at h
    simp only [List.mem_cons] at hx
    rcases hx with rfl | hx
    · exact h.1.imp id sameAt_some
    · exact ihe h.2 x hx

/-- How the order of the text ended: through, or by a panic at one operation that all the rest stand behind. -/
def EndOk (E : Env) (ih : Task → Option TRes) (ops : Array Oper) (an : Tr Nat) (fr0 : AFr) (i : Nat) (os : List Oper) (T : List TRec) (fe : AFr) (He : AHeap) (e : AExit) (fr' : AFr) (H' : AHeap) : Prop :=
  (T.length = os.length ∧ e = .normal ∧ fr' = fe ∧ H' = He) ∨
  (T.length < os.length ∧ ∃ o x v, ops[i + T.length]? = some o ∧ wantedA ops fe.t o = some true ∧ quietOp E o.op = false ∧ execA E He fe.t o = some x ∧ callsA ih He x = some (.panic v H') ∧ e = .panic v ∧ fr' = { fr0 with t := delDsts fr0.t ops.toList } ∧
    ∀ j, i + T.length < j → j < i + os.length → Anc an j (i + T.length))

theorem restOk_some {an : Tr Nat} {i : Nat} : ∀ (os : List Oper) (j : Nat), restOk an i os j = true → ∀ k, j ≤ k → k < j + os.length → Anc an k i := by
  intro os
  induction os with
  | nil => intro j _ k h1 h2; simp at h2; omega
  | cons o os iho =>
    intro j h k h1 h2
    simp only [restOk, Bool.and_eq_true] at h
    simp only [List.length_cons] at h2
    by_cases hk : k = j
    · subst hk
      have := h.1
      split at this
      · rename_i m hm; exact ⟨m, hm, this⟩
      · cases this
    · exact iho (j + 1) h.2 k (by omega) (by omega)

theorem opsD_trace {ops : Array Oper} {an : Tr Nat} {fr0 : AFr} {e : AExit} {fr' : AFr} {H' : AHeap} :
    ∀ (os : List Oper) (i : Nat) (qs : List QRec) (es : List ERec) (fr : AFr) (H : AHeap), ops.toList.drop i = os → opsD E ih ops an fr0 os i qs es fr H = some (.code e fr' H') →
      ∃ T fe He, Trace E ih ops T i fr H fe He ∧ Stab E an T i qs es ∧ EndOk E ih ops an fr0 i os T fe He e fr' H' := by
  intro os
  induction os with
  | nil =>
    intro i qs es fr H _ h
    simp only [opsD, Option.some.injEq, TRes.code.injEq] at h
    obtain ⟨rfl, rfl, rfl⟩ := h
    exact ⟨[], fr, H, ⟨rfl, rfl⟩, Stab.nil, .inl ⟨rfl, rfl, rfl, rfl⟩⟩
  | cons o rest iho =>
    intro i qs es fr H hd h
    have ho : ops[i]? = some o := by
      have := congrArg (·[0]?) hd
      simpa using this
    have hd' : ops.toList.drop (i + 1) = rest := by rw [← List.tail_drop, hd]; rfl
    have up : ∀ {T : List TRec} {fe : AFr} {He : AHeap} (r : TRec), r.o = o → EndOk E ih ops an fr0 (i + 1) rest T fe He e fr' H' → EndOk E ih ops an fr0 i (o :: rest) (r :: T) fe He e fr' H' := by
      intro T fe He r _ h
      rcases h with ⟨h1, h2⟩ | ⟨h1, o', x, v, h2, h3, h4, h5, h6, h7, h8, h9⟩
      · exact .inl ⟨by simp [h1], h2⟩
      · refine .inr ⟨by simp; omega, o', x, v, ?_, h3, h4, h5, h6, h7, h8, ?_⟩
        · rw [List.length_cons, show i + (T.length + 1) = i + 1 + T.length by omega]; exact h2
        · intro j a b
          rw [List.length_cons, show i + (T.length + 1) = i + 1 + T.length by omega]
          simp only [List.length_cons] at a b
          exact h9 j (by omega) (by omega)
    simp only [opsD] at h
    split at h
    · rename_i hw
      obtain ⟨T, fe, He, t1, t2, t3⟩ := iho (i + 1) qs es _ _ hd' h
      refine ⟨⟨o, false, undefA, fr, H, H⟩ :: T, fe, He, ⟨ho, rfl, rfl, ⟨hw, fun _ => ⟨rfl, rfl⟩, fun h => (by cases h), fun h => (by cases h)⟩, t1⟩, ?_, up _ rfl t3⟩
      exact t2.cons (fun _ h => h) (fun _ h => h) (fun h => by cases h.1) (fun h => by cases h.1) (fun h => by cases h.1) (fun h => by cases h.1)
    · rename_i m hw hm
      split at h
      · cases h
      rename_i r hr
      cases hq : quietOp E o.op with
      | true =>
        simp only [hq, cond_true] at h
        split at h
        case h_2 => cases h
        rename_i v H1
        cases hst : stableE E ⟨i, o, fr.t, v⟩ m es with
        | false => simp [hst] at h
        | true =>
          simp only [hst, cond_true] at h
          obtain ⟨T, fe, He, t1, t2, t3⟩ := iho (i + 1) _ es _ _ hd' h
          refine ⟨⟨o, true, v, fr, H, H⟩ :: T, fe, He, ⟨ho, rfl, rfl, ⟨hw, fun h => (by cases h), fun _ _ => ⟨rfl, by simp [quietA, hr]⟩, fun _ h => (by rw [hq] at h; cases h)⟩, t1⟩, ?_, up _ rfl t3⟩
          refine t2.cons (fun _ h => by simp [h]) (fun _ h => h) (fun _ => by simp) (fun h => by have := h.2; simp [hq] at this) (fun _ x hx => ?_) (fun h => by have := h.2; simp [hq] at this)
          rcases stableE_some hst x hx with h | h
          · exact .inl ⟨m, hm, h⟩
          · exact .inr h
      | false =>
        simp only [hq, cond_false] at h
        have go : ∀ (v : AV) (H1 : AHeap), (callsA ih H r = some (.val v H1) ∨ (callsA ih H r = some (.skip H1) ∧ v = undefA)) → (bif stableQ E H1 m qs then opsD E ih ops an fr0 rest (i + 1) qs (⟨i, H⟩ :: es) (fr.put o.dst v) H1 else none) = some (.code e fr' H') →
            ∃ T fe He, Trace E ih ops T i fr H fe He ∧ Stab E an T i qs es ∧ EndOk E ih ops an fr0 i (o :: rest) T fe He e fr' H' := by
          intro v H1 hc h
          cases hst : stableQ E H1 m qs with
          | false => simp [hst] at h
          | true =>
            simp only [hst, cond_true] at h
            obtain ⟨T, fe, He, t1, t2, t3⟩ := iho (i + 1) qs _ _ _ hd' h
            refine ⟨⟨o, true, v, fr, H, H1⟩ :: T, fe, He, ⟨ho, rfl, rfl, ⟨hw, fun h => (by cases h), fun _ h => (by rw [hq] at h; cases h), fun _ _ => ⟨r, hr, hc⟩⟩, t1⟩, ?_, up _ rfl t3⟩
            refine t2.cons (fun _ h => h) (fun _ h => by simp [h]) (fun h => by have := h.2; simp [hq] at this) (fun _ => by simp) (fun h => by have := h.2; simp [hq] at this) (fun _ x hx => ?_)
            rcases stableQ_some hst x hx with h | h
            · exact .inl ⟨m, hm, h⟩
            · exact .inr h
        split at h
        · rename_i v H1 hc; exact go v H1 (.inl hc) h
        · rename_i H1 hc; exact go undefA H1 (.inr ⟨hc, rfl⟩) h
        · rename_i v H1 hc
          cases hre : restOk an i rest (i + 1) with
          | false => simp [hre] at h
          | true =>
            simp only [hre, cond_true, Option.some.injEq, TRes.code.injEq] at h
            obtain ⟨rfl, rfl, rfl⟩ := h
            refine ⟨[], fr, H, ⟨rfl, rfl⟩, Stab.nil, .inr ⟨by simp, o, r, v, ho, hw, hq, hr, hc, rfl, rfl, ?_⟩⟩
            intro j a b
            simp only [List.length_nil, Nat.add_zero, List.length_cons] at a b ⊢
            exact restOk_some rest (i + 1) hre j (by omega) (by omega)
        · cases h
    · cases h
end
end Go.Vai
