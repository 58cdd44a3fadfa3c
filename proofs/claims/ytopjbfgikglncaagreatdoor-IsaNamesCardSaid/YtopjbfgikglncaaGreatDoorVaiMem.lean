/- The interpreter's tables against the program's; operands; loads, stores, new rows. -/
import Derived.Test.YtopjbfgikglncaaGreatDoorVaiRel
import Derived.WalkKit
namespace Go.Vai

def isAggD : TypeDesc → Bool
  | .struct _ => true
  | .array _ _ => true
  | _ => false

def DRel (P : Program) (t : Nat) : AD → TypeDesc → Prop
  | .int k, d => d = .int k
  | .bool, d => d = .bool
  | .str, d => d = .string
  | .ptr e, d => d = .pointer e
  | .slice e, d => d = .slice e
  | .array n e, d => d = .array n e
  | .struct fs ok, d => ∃ F, d = .struct F ∧ F.toList.map (fun f => (f.offset, f.type)) = fs ∧
      (ok = true → (∀ f ∈ F.toList, f.name ≠ "_") ∧ P.stoodInHeld t = false ∧ P.eqGuardType P.depth t = false)
  | .func, d => ∃ a b c, d = .func a b c
  | .iface, d => ∃ ms, d = .interface ms
  | .uptr, d => d = .unsafePointer
  | .other, d => ∀ ms, d ≠ .interface ms
  | .map k e, d => d = .map k e

structure TyOk (P : Program) (t : Nat) (ti : ATy) (i : TypeInfo) (d : TypeDesc) (z : Value) : Prop where
  info : P.info? t = some i
  und : P.underlying t = some d
  desc : DRel P t ti.d d
  size : i.size = ti.size
  bytes : i.bytes = ti.bytes
  zero : i.zero = some z
  zrel : VRels [] ti.zero z.cells.toList
  zlen : z.cells.size = ti.size
  agg : ti.agg = isAggD d
  zagg : ti.agg = true → ∃ cs, z = .agg cs
  zone : ti.agg = false → z.oneCell' = true
  cmp : ti.cmp = true → i.comparable = true

structure TysOk (E : Env) (P : Program) : Prop where
  lay : ∀ e u n off k, E.ra e u n off k = true → liesAt P P.depth e (n / P.cellsOf e) off u k = true
  ty : ∀ t ti, E.ty t = some ti → ∃ i d z, TyOk P t ti i d z
  fields : ∀ t ti F, E.ty t = some ti → P.underlying t = some (.struct F) → ∀ f ∈ F.toList, ∃ i, P.info? f.type = some i

/-- The package-level variables lie at their own names. -/
def GRel (E : Env) (M : List MEnt) : Prop := ∀ g, g < E.ng → ∃ m, M[g]? = some m ∧ m.block = g ∧ m.base = 0
theorem GRel.mono {E : Env} {M M' : List MEnt} (h : GRel E M) (hp : M <+: M') : GRel E M' := fun g hg => by
  obtain ⟨m, hm, r⟩ := h g hg
  exact ⟨m, pre_get hp hm, r⟩

section
variable {E : Env} {P : Program} {w : World}

theorem run_und {t : Nat} {ti : ATy} {i : TypeInfo} {d : TypeDesc} {z : Value} (h : TyOk P t ti i d z) : (underlying t).run P w = .ok d w := by simp [underlying, h.und]
theorem run_info {t : Nat} {ti : ATy} {i : TypeInfo} {d : TypeDesc} {z : Value} (h : TyOk P t ti i d z) : (typeInfo t).run P w = .ok i w := by simp [typeInfo, h.info]
theorem run_size {t : Nat} {ti : ATy} {i : TypeInfo} {d : TypeDesc} {z : Value} (h : TyOk P t ti i d z) : (sizeOf t).run P w = .ok ti.size w := by simp [sizeOf, run_info h, h.size]
theorem run_zero {t : Nat} {ti : ATy} {i : TypeInfo} {d : TypeDesc} {z : Value} (h : TyOk P t ti i d z) : (zeroValue t).run P w = .ok z w := by simp [zeroValue, run_info h, h.zero]
theorem run_agg {t : Nat} {ti : ATy} {i : TypeInfo} {d : TypeDesc} {z : Value} (h : TyOk P t ti i d z) : (isAgg t).run P w = .ok ti.agg w := by
  have := h.agg
  simp only [isAgg, Sem.run_bind, run_und h, Result.andThen_ok]
  cases d <;> simp_all [isAggD]
end

theorem addr_add (b o n : Nat) : (⟨b, o, none⟩ : Addr).add n = ⟨b, o + n, none⟩ := by
  unfold Addr.add; split <;> simp_all

theorem cell_at {w : World} {b o : Nat} {cur : Array Value} {e : TypeId} {lo hi : Nat} (h : w.heap[b]? = some (.cells cur e (lo, hi))) : w.cell? ⟨b, o, none⟩ = cur[o]? := by
  simp [World.cell?, h]
theorem frozen_at {w : World} {b o : Nat} {cur : Array Value} {e : TypeId} {lo hi : Nat} (h : w.heap[b]? = some (.cells cur e (lo, hi))) : w.frozen? ⟨b, o, none⟩ = (decide (lo ≤ o) && decide (o < hi)) := by
  simp [World.frozen?, h]

theorem run_loadCellsFrom {P : Program} {w : World} {b : Nat} {cur : Array Value} {e : TypeId} {lo hi : Nat} (h : w.heap[b]? = some (.cells cur e (lo, hi))) (off : Nat) :
    ∀ (n i : Nat) (acc : Array Value) (vs : List Value), vs.length = n → (∀ j v, vs[j]? = some v → cur[off + i + j]? = some v) →
      (loadCellsFrom ⟨b, off, none⟩ i n acc).run P w = .ok (acc ++ vs.toArray) w := by
  intro n
  induction n with
  | zero => intro i acc vs hl _; have : vs = [] := List.eq_nil_of_length_eq_zero hl; subst this; simp [loadCellsFrom]
  | succ n ih =>
    intro i acc vs hl hv
    cases vs with
    | nil => simp at hl
    | cons v vs =>
      have h0 := hv 0 v (by simp)
      simp only [Nat.add_zero] at h0
      simp only [loadCellsFrom, Sem.run_bind, run_load, addr_add, cell_at h, h0, Result.andThen_ok]
      rw [ih (i + 1) (acc.push v) vs (by simpa using hl) (fun j u hu => by have := hv (j + 1) u (by simpa using hu); rw [← this]; congr 1; omega)]
      simp
theorem run_loadCells' {P : Program} {w : World} {b off : Nat} {cur : Array Value} {e : TypeId} {lo hi : Nat} (h : w.heap[b]? = some (.cells cur e (lo, hi)))
    (vs : List Value) (hv : ∀ j v, vs[j]? = some v → cur[off + j]? = some v) : (loadCells ⟨b, off, none⟩ vs.length).run P w = .ok vs.toArray w := by
  have := run_loadCellsFrom (P := P) h off vs.length 0 #[] vs rfl (by simpa using hv)
  simpa [loadCells] using this

/-- A store into one cell. -/
theorem heap_setCell {w : World} {b o : Nat} {v : Value} {cur : Array Value} {e : TypeId} {lo hi : Nat} (h : w.heap[b]? = some (.cells cur e (lo, hi))) :
    (w.setCell ⟨b, o, none⟩ v).heap[b]? = some (.cells (cur.setIfInBounds o v) e (lo, hi)) := by
  simp [World.setCell, Array.getElem?_modify, h]
theorem grown_setCell (w : World) (b o : Nat) (v : Value) : w.grownBy (w.setCell ⟨b, o, none⟩ v) (some b) :=
  ⟨rfl, rfl, rfl, by simp [World.setCell], fun k _ hne => by
    simp only [World.setCell, Array.getElem?_modify]
    rw [if_neg (by intro e; apply hne; rw [e])]⟩
theorem grown_trans {a b c : World} {row : Option Nat} (h : a.grownBy b row) (k : b.grownBy c row) : a.grownBy c row :=
  ⟨k.os.trans h.os, k.tape.trans h.tape, k.output.trans h.output, Nat.le_trans h.size k.size, fun i hi hne => (k.block i (Nat.lt_of_lt_of_le hi h.size) hne).trans (h.block i hi hne)⟩
theorem grown_refl (a : World) (row : Option Nat) : a.grownBy a row := ⟨rfl, rfl, rfl, Nat.le_refl _, fun _ _ _ => rfl⟩

theorem run_storeCells' {P : Program} {b : Nat} {e : TypeId} {lo hi : Nat} (off : Nat) : ∀ (vs : List Value) (i : Nat) (cur : Array Value) (w : World),
    w.heap[b]? = some (.cells cur e (lo, hi)) → off + i + vs.length ≤ cur.size → (∀ k, off + i ≤ k → k < off + i + vs.length → ¬ (lo ≤ k ∧ k < hi)) → (∀ v ∈ vs, v.oneCell' = true) →
    ∃ w' cur', (storeCells ⟨b, off, none⟩ vs i).run P w = .ok () w' ∧ w'.heap[b]? = some (.cells cur' e (lo, hi)) ∧ cur'.size = cur.size ∧
      (∀ k, cur'[k]? = if off + i ≤ k ∧ k < off + i + vs.length then vs[k - (off + i)]? else cur[k]?) ∧ w.grownBy w' (some b) := by
  intro vs
  induction vs with
  | nil =>
    intro i cur w h _ _ _
    exact ⟨w, cur, by simp [storeCells], h, rfl, fun k => by rw [if_neg (by intro h; simp only [List.length_nil] at h; omega)], grown_refl _ _⟩
  | cons v vs ih =>
    intro i cur w h hs hf h1
    simp only [List.length_cons] at hs hf
    have hlt : off + i < cur.size := by omega
    have hcell : w.cell? ⟨b, off + i, none⟩ = some cur[off + i] := by rw [cell_at h]; exact Array.getElem?_eq_getElem hlt
    have hfr : w.frozen? ⟨b, off + i, none⟩ = false := by
      rw [frozen_at h]
      have := hf (off + i) (Nat.le_refl _) (by omega)
      simpa using this
    obtain ⟨w', cur', hrun, hw', hsz, hc, hg⟩ := ih (i + 1) (cur.setIfInBounds (off + i) v) (w.setCell ⟨b, off + i, none⟩ v) (heap_setCell h) (by simp; omega)
      (fun k hk hk2 => hf k (by omega) (by omega)) (fun u hu => h1 u (List.mem_cons_of_mem _ hu))
    refine ⟨w', cur', ?_, hw', by simpa using hsz, fun k => ?_, grown_trans (grown_setCell w b (off + i) v) hg⟩
    · simp only [storeCells, Sem.run_bind, addr_add]
      rw [run_store P w _ v .plain (h1 v (by simp))]
      simp only [hcell, hfr, Bool.false_eq_true, if_false, Result.andThen_ok]
      exact hrun
    · rw [hc k]
      by_cases h2 : off + (i + 1) ≤ k ∧ k < off + (i + 1) + vs.length
      · rw [if_pos h2, if_pos (by simp; omega)]
        rw [show k - (off + i) = (k - (off + (i + 1))) + 1 from by omega, List.getElem?_cons_succ]
      · rw [if_neg h2]
        by_cases h3 : k = off + i
        · subst h3
          rw [if_pos (by simp)]
          simp [hlt]
        · rw [if_neg (by simp; omega), Array.getElem?_setIfInBounds_ne (by omega)]

/-! ### Operands -/
theorem ofCells_rel (M : List MEnt) : ∀ (cs : List Value) (l : List AV), ofCells cs = some l → VRels M l cs
  | [], l, h => by simp [ofCells] at h; subst h; trivial
  | c :: cs, l, h => by
    have step : ∀ x, (match ofCells cs with | some l => some (x :: l) | none => none) = some l → VRel M x c → VRels M l (c :: cs) := fun x hx hr => by
      cases ho : ofCells cs with
      | none => simp [ho] at hx
      | some l' => simp only [ho, Option.some.injEq] at hx; subst hx; exact ⟨hr, ofCells_rel M cs l' ho⟩
    cases c with
    | int k n => exact step _ h rfl
    | bool b => exact step _ h rfl
    | string s => exact step _ h rfl
    | pointer a => cases a with
      | none => exact step _ h rfl
      | some a => simp [ofCells] at h
    | slice a n c => cases a with
      | none => cases n with
        | zero => cases c with
          | zero => exact step _ h rfl
          | succ c => simp [ofCells] at h
        | succ n => simp [ofCells] at h
      | some a => simp [ofCells] at h
    | nilFunc => exact step _ h rfl
    | nilIface => exact step _ h rfl
    | map a => cases a with
      | none => exact step _ h rfl
      | some a => simp [ofCells] at h
    | _ => simp [ofCells] at h
theorem constA_rel (M : List MEnt) {c : Value} {v : AV} (h : constA c = some v) : VRel M v c := by
  cases c with
  | int k n => simp [constA] at h; subst h; rfl
  | bool b => simp [constA] at h; subst h; rfl
  | string s => simp [constA] at h; subst h; rfl
  | pointer a => cases a with
    | none => simp [constA] at h; subst h; rfl
    | some a => simp [constA] at h
  | slice a n c => cases a with
    | none => cases n with
      | zero => cases c with
        | zero => simp [constA] at h; subst h; rfl
        | succ c => simp [constA] at h
      | succ n => simp [constA] at h
    | some a => simp [constA] at h
  | nilFunc => simp [constA] at h; subst h; rfl
  | nilIface => simp [constA] at h; subst h; rfl
  | map a => cases a with
    | none => simp [constA] at h; subst h; rfl
    | some a => simp [constA] at h
  | agg cs =>
    simp only [constA] at h
    cases ho : ofCells cs.toList with
    | none => simp [ho] at h
    | some l => simp only [ho, Option.some.injEq] at h; subst h; exact ⟨cs.toList, rfl, ofCells_rel M _ _ ho⟩
  | tuple cs =>
    simp only [constA] at h
    cases ho : ofCells cs.toList with
    | none => simp [ho] at h
    | some l => simp only [ho, Option.some.injEq] at h; subst h; exact ⟨cs.toList, rfl, ofCells_rel M _ _ ho⟩
  | _ => simp [constA] at h

theorem opd_rel {E : Env} {M : List MEnt} (hG : GRel E M) {fr : Tr AV} {a : Act} (hf : TRel M fr a.tmps) {x : Operand} {v : AV} (h : opd E fr x = some v) : VRel M v (a.eval x) := by
  cases x with
  | tmp t =>
    obtain ⟨cv, hc, r⟩ := hf t v h
    have : a.eval (.tmp t) = cv := by simp [Act.eval, Array.getD_eq_getD_getElem?, hc]
    rw [this]; exact r
  | const c => exact constA_rel M h
  | global g =>
    simp only [opd, blt_iff] at h
    by_cases hg : g < E.ng
    · simp only [hg, decide_true, cond_true, Option.some.injEq] at h
      subst h
      obtain ⟨m, hm, hb, h0⟩ := hG g hg
      exact ⟨m, hm, by simp [Act.eval, hb, h0]⟩
    · simp [hg] at h
  | func f => simp only [opd, Option.some.injEq] at h; subst h; exact ⟨[], [], rfl, trivial, trivial⟩
theorem opds_rel {E : Env} {M : List MEnt} (hG : GRel E M) {fr : Tr AV} {a : Act} (hf : TRel M fr a.tmps) : ∀ {xs : List Operand} {vs : List AV}, opds E fr xs = some vs → VRels M vs (xs.map a.eval)
  | [], vs, h => by simp [opds] at h; subst h; trivial
  | x :: xs, vs, h => by
    simp only [opds] at h
    cases hx : opd E fr x with
    | none => simp [hx] at h
    | some v =>
      simp only [hx] at h
      cases hxs : opds E fr xs with
      | none => simp [hxs] at h
      | some us =>
        simp only [hxs, Option.some.injEq] at h
        subst h
        exact ⟨opd_rel hG hf hx, opds_rel hG hf hxs⟩
theorem partsA_rel {E : Env} {M : List MEnt} (hG : GRel E M) {fr : Tr AV} {a : Act} (hf : TRel M fr a.tmps) : ∀ {xs : List (Nat × Operand)} {ps : List (Nat × AV)}, partsA E fr xs = some ps →
    ps.map (·.1) = xs.map (·.1) ∧ VRels M (ps.map (·.2)) (xs.map fun p => a.eval p.2)
  | [], vs, h => by simp [partsA] at h; subst h; exact ⟨rfl, trivial⟩
  | (i, x) :: xs, vs, h => by
    simp only [partsA] at h
    cases hx : opd E fr x with
    | none => simp [hx] at h
    | some v =>
      simp only [hx] at h
      cases hxs : partsA E fr xs with
      | none => simp [hxs] at h
      | some us =>
        simp only [hxs, Option.some.injEq] at h
        subst h
        obtain ⟨h1, h2⟩ := partsA_rel hG hf hxs
        exact ⟨by simp [h1], opd_rel hG hf hx, h2⟩

/-! ### Values and their cells -/
theorem VRel.one {M : List MEnt} {v : AV} {c : Value} (h : VRel M v c) (h1 : v.one = true) : c.oneCell' = true := by
  cases v <;> simp [AV.one] at h1 <;> simp only [VRel] at h
  case ptr => obtain ⟨_, _, rfl⟩ := h; rfl
  case sl => obtain ⟨_, _, _, rfl, _⟩ := h; rfl
  case sl0 => obtain ⟨_, _, rfl⟩ := h; rfl
  case fn => obtain ⟨_, _, rfl, _⟩ := h; rfl
  case yld => obtain ⟨_, _, rfl⟩ := h; rfl
  case iface => obtain ⟨_, rfl, _⟩ := h; rfl
  case mapv => obtain ⟨_, _, rfl⟩ := h; rfl
  case opq =>
    obtain ⟨h1, h2⟩ := h
    cases c <;> first | rfl | exact absurd rfl (h1 _) | exact absurd rfl (h2 _)
  all_goals (subst h; rfl)
theorem VRel.cells {M : List MEnt} {v : AV} {c : Value} (h : VRel M v c) : VRels M v.cells c.cells.toList := by
  cases v <;> simp only [VRel] at h
  case ptr => obtain ⟨m, hm, rfl⟩ := h; exact ⟨⟨m, hm, rfl⟩, trivial⟩
  case sl => obtain ⟨m, c, hm, rfl, r⟩ := h; exact ⟨⟨m, c, hm, rfl, r⟩, trivial⟩
  case sl0 => obtain ⟨a, c, rfl⟩ := h; exact ⟨⟨a, c, rfl⟩, trivial⟩
  case fn => obtain ⟨a, b, rfl, r⟩ := h; exact ⟨⟨a, b, rfl, r⟩, trivial⟩
  case yld => obtain ⟨m, hm, rfl⟩ := h; exact ⟨⟨m, hm, rfl⟩, trivial⟩
  case iface => obtain ⟨y, rfl, r⟩ := h; exact ⟨⟨y, rfl, r⟩, trivial⟩
  case agg => obtain ⟨vs, rfl, r⟩ := h; simpa [AV.cells, Value.cells] using r
  case tup => obtain ⟨vs, rfl, r⟩ := h; exact ⟨⟨vs, rfl, r⟩, trivial⟩
  case mapv => obtain ⟨m, hm, rfl⟩ := h; exact ⟨⟨m, hm, rfl⟩, trivial⟩
  case opq =>
    obtain ⟨h1, h2⟩ := h
    cases c <;> first | exact absurd rfl (h1 _) | exact absurd rfl (h2 _) | exact ⟨⟨fun _ e => (by cases e), fun _ e => (by cases e)⟩, trivial⟩
  all_goals (subst h; exact ⟨rfl, trivial⟩)
theorem VRels.ones {M : List MEnt} : ∀ {l : List AV} {cs : List Value}, VRels M l cs → l.all AV.one = true → ∀ c ∈ cs, c.oneCell' = true
  | [], [], _, _, c, h => by simp at h
  | a :: as, v :: vs, h, h1, c, hc => by
    simp only [List.all_cons, Bool.and_eq_true] at h1
    rcases List.mem_cons.1 hc with rfl | hc
    · exact h.1.one h1.1
    · exact VRels.ones h.2 h1.2 c hc

/-! ### Loads and stores -/
/-- The cells of an owned row, as the model has them. -/
theorem ORel.vals {M : List MEnt} {m : MEnt} {w : World} {n : Nat} {t : Tr AV} {e : TypeId} {g : Option Nat} {fz : Nat} {ro mk : Bool} (h : ORel M m w (.cells n t e g fz ro mk))
    {k q : Nat} {l : List AV} (hl : t.getAll k q = some l) : ∃ cur e' lo hi vs, w.heap[m.block]? = some (.cells cur e' (lo, hi)) ∧ VRels M l vs ∧ vs.length = q ∧ (∀ j v, vs[j]? = some v → cur[m.base + k + j]? = some v) := by
  obtain ⟨cur, e', lo, hi, h1, _, h3, _, _, _, h7⟩ := h
  obtain ⟨hq, hg⟩ := Tr.getAll_spec q hl
  refine ⟨cur, e', lo, hi, (cur.toList.drop (m.base + k)).take q, h1, ?_, ?_, ?_⟩
  · have hlen : ∀ i, i < q → m.base + k + i < cur.size := fun i hi => by
      cases hx : l[i]? with
      | none => rw [List.getElem?_eq_none_iff] at hx; omega
      | some v =>
        have := (h7 (k + i) v (by rw [hg i hi, hx])).1
        omega
    refine VRels.of ?_ fun i a v ha hv => ?_
    · simp only [List.length_take, List.length_drop, Array.length_toList, hq]
      by_cases h0 : q = 0
      · omega
      · have := hlen (q - 1) (by omega); omega
    · rw [List.getElem?_take] at hv
      split at hv
      · rename_i hi
        rw [List.getElem?_drop] at hv
        obtain ⟨_, cv, hc, r⟩ := h7 (k + i) a (by rw [hg i hi, ha])
        rw [← Nat.add_assoc] at hc
        rw [Array.getElem?_toList, hc] at hv
        cases hv; exact r
      · cases hv
  · simp only [List.length_take, List.length_drop, Array.length_toList]
    by_cases h0 : q = 0
    · omega
    · cases hx : l[q - 1]? with
      | none => rw [List.getElem?_eq_none_iff] at hx; omega
      | some v =>
        have := (h7 (k + (q - 1)) v (by rw [hg _ (by omega), hx])).1
        omega
  · intro j v hv
    rw [List.getElem?_take] at hv
    split at hv
    · rwa [List.getElem?_drop, Array.getElem?_toList] at hv
    · cases hv

theorem loadVar_sound {E : Env} {P : Program} (hE : TysOk E P) {M : List MEnt} {H : AHeap} {w : World} (hr : HRel M H w) {t : TypeId} {p v : AV} {cp : Value} (hp : VRel M p cp)
    (h : loadVarA E H t p = some v) : ∃ a cv, cp = .pointer (some a) ∧ (loadVar t a).run P w = .ok cv w ∧ VRel M v cv := by
  cases p with
  | ptr id off =>
    simp only [loadVarA] at h
    cases hty : E.ty t with
    | none => simp [hty] at h
    | some ti =>
      cases ho : H.get id with
      | none => simp [hty, ho] at h
      | some o =>
        obtain ⟨i, d, z, ht⟩ := hE.ty t ti hty
        obtain ⟨m, hm, rfl⟩ := hp
        have hO := hr.blk ho hm
        cases o with
        | cells n c e g fz ro mk =>
          simp only [hty, ho] at h
          refine ⟨⟨m.block, m.base + off, none⟩, ?_⟩
          cases hagg : ti.agg with
          | true =>
            simp only [hagg, cond_true] at h
            cases hg : c.getAll off ti.size with
            | none => simp [hg] at h
            | some l =>
              simp only [hg, Option.some.injEq] at h
              subst h
              obtain ⟨cur, e', lo, hi, vs, h1, h2, h3, h4⟩ := hO.vals hg
              refine ⟨.agg vs.toArray, rfl, ?_, ⟨vs, rfl, h2⟩⟩
              have := run_loadCells' (P := P) (off := m.base + off) h1 vs h4
              rw [h3] at this
              simp [loadVar, run_agg ht, hagg, run_size ht, this]
          | false =>
            simp only [hagg, cond_false] at h
            obtain ⟨cur, e', lo, hi, h1, _, _, _, _, _, h7⟩ := hO
            obtain ⟨_, cv, hc, r⟩ := h7 off v h
            refine ⟨cv, rfl, ?_, r⟩
            simp [loadVar, run_agg ht, hagg, cell_at h1, hc]
        | _ => simp [hty, ho] at h
  | _ => simp [loadVarA] at h

theorem storeVar_sound {E : Env} {P : Program} (hE : TysOk E P) {M : List MEnt} {H H' : AHeap} {w : World} (hr : HRel M H w) {t : TypeId} {p v : AV} {cp cv : Value} (hp : VRel M p cp) (hv : VRel M v cv)
    (h : storeVarA E H t p v = some H') : ∃ a w', cp = .pointer (some a) ∧ (storeVar t a cv).run P w = .ok () w' ∧ HRel M H' w' ∧ Ext M H w M H' w' := by
  cases p with
  | ptr id off =>
    simp only [storeVarA] at h
    cases hty : E.ty t with
    | none => simp [hty] at h
    | some ti =>
      cases ho : H.get id with
      | none => simp [hty, ho] at h
      | some o =>
        obtain ⟨i, d, z, ht⟩ := hE.ty t ti hty
        obtain ⟨m, hm, rfl⟩ := hp
        have hO := hr.blk ho hm
        cases o with
        | cells n c e g fz ro mk =>
          simp only [hty, ho, Bool.cond_eq_ite] at h
          split at h
          case isFalse => cases h
          rename_i hc
          simp only [Bool.and_eq_true, Nat.beq_eq, Nat.ble_eq, Bool.not_eq_true'] at hc
          obtain ⟨c1, c2, c3, c4, c5⟩ := hc
          subst c5
          simp only [Option.some.injEq] at h
          subst h
          obtain ⟨cur, e', lo, hi, h1, h2, h3, h4, h5, h6, h7⟩ := hO
          obtain ⟨rfl, hb0⟩ := h2 rfl
          have hcells := hv.cells
          have hlen : cv.cells.toList.length = ti.size := by rw [← hcells.length, c1]
          have hlen' : cv.cells.size = ti.size := by simpa using hlen
          obtain ⟨w', cur', hrun, g1, g2, g3, g4⟩ := run_storeCells' (P := P) (m.base + off) cv.cells.toList 0 cur w h1 (by rw [hlen]; omega)
            (fun k hk hk2 hx => by have := h5 rfl k hx.1 hx.2 (by rw [hlen] at hk2; omega); omega) (VRels.ones hcells c2)
          refine ⟨_, w', rfl, ?_, ?_⟩
          · simp [storeVar, run_size ht, hlen', hrun]
          · refine hr.put ho rfl hm g4 _ ⟨cur', e', lo, hi, g1, fun _ => ⟨rfl, hb0⟩, by rw [g2]; exact h3, fun gs e => by rw [g2]; exact h4 gs e, fun _ i a b cc => h5 rfl i a b (by rw [← g2]; exact cc), fun a b => by rw [g2]; exact h6 a b, ?_⟩
            intro j u hu
            rcases Tr.get_putAll _ hu with ⟨q, rfl, hq⟩ | ⟨hj, hu⟩
            · obtain ⟨x, hx, r⟩ := hcells.get q u hq
              have hql : q < ti.size := by rw [← c1]; exact (List.getElem?_eq_some_iff.1 hq).1
              refine ⟨by omega, x, ?_, r⟩
              rw [g3, if_pos (by rw [hlen]; omega)]
              rw [show m.base + (off + q) - (m.base + off + 0) = q from by omega]
              exact hx
            · obtain ⟨a, x, hx, r⟩ := h7 j u hu
              refine ⟨a, x, ?_, r⟩
              rw [g3, if_neg (by rw [hlen]; rw [c1] at hj; omega)]
              exact hx
        | _ => simp [hty, ho] at h
  | _ => simp [storeVarA] at h

/-! ### New rows -/
theorem grown_push (w : World) (o : Obj) : w.grownBy { w with heap := w.heap.push o } none :=
  ⟨rfl, rfl, rfl, by simp, fun k hk _ => by simp [Array.getElem?_push, Nat.ne_of_lt hk]⟩

theorem newRow_sound {M : List MEnt} {H : AHeap} {w : World} (hr : HRel M H w) (e : TypeId) {cs : List AV} {vs : List Value} (h : VRels M cs vs) :
    HRel (M ++ [⟨w.heap.size, 0, 0, 0⟩]) (newRowA H e cs) { w with heap := w.heap.push (.cells vs.toArray e) } ∧
    Ext M H w (M ++ [⟨w.heap.size, 0, 0, 0⟩]) (newRowA H e cs) { w with heap := w.heap.push (.cells vs.toArray e) } := by
  refine hr.new (grown_push w _) _ _ (Nat.le_refl _) ⟨vs.toArray, e, 0, 0, by simp, fun _ => ⟨rfl, rfl⟩, by simp [h.length], fun gs e => (by cases e), fun _ i a b => by omega, fun _ _ => ⟨Nat.zero_le _, Nat.le_refl _⟩, ?_⟩
  intro i v hv
  rcases Tr.get_putAll _ hv with ⟨q, rfl, hq⟩ | ⟨_, hu⟩
  · obtain ⟨x, hx, r⟩ := h.get q v hq
    exact ⟨by simpa using (List.getElem?_eq_some_iff.1 hq).1, x, by simpa using hx, r.mono (List.prefix_append _ _)⟩
  · simp [Tr.get_nil] at hu
theorem newAt {M : List MEnt} {H : AHeap} {w : World} (hr : HRel M H w) (m : MEnt) : (M ++ [m])[H.next]? = some m := by rw [← hr.len]; simp
end Go.Vai
