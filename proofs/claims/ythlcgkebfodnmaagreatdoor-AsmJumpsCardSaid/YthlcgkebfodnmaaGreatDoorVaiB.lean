/- The interpreter's tables against the program's; operands; loads, stores, new rows.
Operations that touch no memory.
Comparisons, fields, places, built values, bounds.
Slices: bounds, append, copy, conversions, built rows.
append, copy, conversions, built rows. -/
import Derived.Test.YthlcgkebfodnmaaGreatDoorVaiA
import Derived.WalkKit
import Derived.Laws.StructEq
import Derived.Laws.BytesString
section
namespace Go.Vai
def isAggD : TypeDesc → Bool
  | .struct _ => true
  | .array _ _ => true
  | _ => false
def DRel (P : Program) (t : Nat) : AD → TypeDesc → Prop
  | .int k, d => d = .int k
  | .bool, d => d = .bool
  | .str, d => d = .string
  | .ptr e, d => d = .pointer e
  | .slice e, d => d = .slice e
  | .array n e, d => d = .array n e
  | .struct fs ok, d => ∃ F, d = .struct F ∧ F.toList.map (fun f => (f.offset, f.type)) = fs ∧
      (ok = true → (∀ f ∈ F.toList, f.name ≠ "_") ∧ P.stoodInHeld t = false ∧ P.eqGuardType P.depth t = false)
  | .func, d => ∃ a b c, d = .func a b c
  | .iface, d => ∃ ms, d = .interface ms
  | .uptr, d => d = .unsafePointer
  | .other, d => ∀ ms, d ≠ .interface ms
  | .map k e, d => d = .map k e
structure TyOk (P : Program) (t : Nat) (ti : ATy) (i : TypeInfo) (d : TypeDesc) (z : Value) : Prop where
  info : P.info? t = some i
  und : P.underlying t = some d
  desc : DRel P t ti.d d
  size : i.size = ti.size
  bytes : i.bytes = ti.bytes
  zero : i.zero = some z
  zrel : VRels [] ti.zero z.cells.toList
  zlen : z.cells.size = ti.size
  agg : ti.agg = isAggD d
  zagg : ti.agg = true → ∃ cs, z = .agg cs
  zone : ti.agg = false → z.oneCell' = true
  cmp : ti.cmp = true → i.comparable = true
structure TysOk (E : Env) (P : Program) : Prop where
  lay : ∀ e u n off k, E.ra e u n off k = true → liesAt P P.depth e (n / P.cellsOf e) off u k = true
  ty : ∀ t ti, E.ty t = some ti → ∃ i d z, TyOk P t ti i d z
  fields : ∀ t ti F, E.ty t = some ti → P.underlying t = some (.struct F) → ∀ f ∈ F.toList, ∃ i, P.info? f.type = some i
def GRel (E : Env) (M : List MEnt) : Prop := ∀ g, g < E.ng → ∃ m, M[g]? = some m ∧ m.block = g ∧ m.base = 0
theorem GRel.mono {E : Env} {M M' : List MEnt} (h : GRel E M) (hp : M <+: M') : GRel E M' := fun g hg => by
  obtain ⟨m, hm, r⟩ := h g hg
  exact ⟨m, pre_get hp hm, r⟩
section
variable {E : Env} {P : Program} {w : World}
theorem run_und {t : Nat} {ti : ATy} {i : TypeInfo} {d : TypeDesc} {z : Value} (h : TyOk P t ti i d z) : (underlying t).run P w = .ok d w := by simp [underlying, h.und]
theorem run_info {t : Nat} {ti : ATy} {i : TypeInfo} {d : TypeDesc} {z : Value} (h : TyOk P t ti i d z) : (typeInfo t).run P w = .ok i w := by simp [typeInfo, h.info]
theorem run_size {t : Nat} {ti : ATy} {i : TypeInfo} {d : TypeDesc} {z : Value} (h : TyOk P t ti i d z) : (sizeOf t).run P w = .ok ti.size w := by simp [sizeOf, run_info h, h.size]
theorem run_zero {t : Nat} {ti : ATy} {i : TypeInfo} {d : TypeDesc} {z : Value} (h : TyOk P t ti i d z) : (zeroValue t).run P w = .ok z w := by simp [zeroValue, run_info h, h.zero]
theorem run_agg {t : Nat} {ti : ATy} {i : TypeInfo} {d : TypeDesc} {z : Value} (h : TyOk P t ti i d z) : (isAgg t).run P w = .ok ti.agg w := by
  have := h.agg
  simp only [isAgg, Sem.run_bind, run_und h, Result.andThen_ok]
  cases d <;> simp_all [isAggD]
end
theorem addr_add (b o n : Nat) : (⟨b, o, none⟩ : Addr).add n = ⟨b, o + n, none⟩ := by
  unfold Addr.add; split <;> simp_all
theorem cell_at {w : World} {b o : Nat} {cur : Array Value} {e : TypeId} {lo hi : Nat} (h : w.heap[b]? = some (.cells cur e (lo, hi))) : w.cell? ⟨b, o, none⟩ = cur[o]? := by
  simp [World.cell?, h]
theorem frozen_at {w : World} {b o : Nat} {cur : Array Value} {e : TypeId} {lo hi : Nat} (h : w.heap[b]? = some (.cells cur e (lo, hi))) : w.frozen? ⟨b, o, none⟩ = (decide (lo ≤ o) && decide (o < hi)) := by
  simp [World.frozen?, h]
theorem run_loadCellsFrom {P : Program} {w : World} {b : Nat} {cur : Array Value} {e : TypeId} {lo hi : Nat} (h : w.heap[b]? = some (.cells cur e (lo, hi))) (off : Nat) :
    ∀ (n i : Nat) (acc : Array Value) (vs : List Value), vs.length = n → (∀ j v, vs[j]? = some v → cur[off + i + j]? = some v) →
      (loadCellsFrom ⟨b, off, none⟩ i n acc).run P w = .ok (acc ++ vs.toArray) w := by
  intro n
  induction n with
  | zero => intro i acc vs hl _; have : vs = [] := List.eq_nil_of_length_eq_zero hl; subst this; simp [loadCellsFrom]
  | succ n ih =>
    intro i acc vs hl hv
    cases vs with
    | nil => simp at hl
    | cons v vs =>
      have h0 := hv 0 v (by simp)
      simp only [Nat.add_zero] at h0
      simp only [loadCellsFrom, Sem.run_bind, run_load, addr_add, cell_at h, h0, Result.andThen_ok]
      rw [ih (i + 1) (acc.push v) vs (by simpa using hl) (fun j u hu => by have := hv (j + 1) u (by simpa using hu); rw [← this]; congr 1; omega)]
      simp
theorem run_loadCells' {P : Program} {w : World} {b off : Nat} {cur : Array Value} {e : TypeId} {lo hi : Nat} (h : w.heap[b]? = some (.cells cur e (lo, hi)))
    (vs : List Value) (hv : ∀ j v, vs[j]? = some v → cur[off + j]? = some v) : (loadCells ⟨b, off, none⟩ vs.length).run P w = .ok vs.toArray w := by
  have := run_loadCellsFrom (P := P) h off vs.length 0 #[] vs rfl (by simpa using hv)
  simpa [loadCells] using this
theorem heap_setCell {w : World} {b o : Nat} {v : Value} {cur : Array Value} {e : TypeId} {lo hi : Nat} (h : w.heap[b]? = some (.cells cur e (lo, hi))) :
    (w.setCell ⟨b, o, none⟩ v).heap[b]? = some (.cells (cur.setIfInBounds o v) e (lo, hi)) := by
  simp [World.setCell, Array.getElem?_modify, h]
theorem grown_setCell (w : World) (b o : Nat) (v : Value) : w.grownBy (w.setCell ⟨b, o, none⟩ v) (some b) :=
  ⟨rfl, rfl, rfl, by simp [World.setCell], fun k _ hne => by
    simp only [World.setCell, Array.getElem?_modify]
    rw [if_neg (by intro e; apply hne; rw [e])]⟩
theorem grown_trans {a b c : World} {row : Option Nat} (h : a.grownBy b row) (k : b.grownBy c row) : a.grownBy c row :=
  ⟨k.os.trans h.os, k.tape.trans h.tape, k.output.trans h.output, Nat.le_trans h.size k.size, fun i hi hne => (k.block i (Nat.lt_of_lt_of_le hi h.size) hne).trans (h.block i hi hne)⟩
theorem grown_refl (a : World) (row : Option Nat) : a.grownBy a row := ⟨rfl, rfl, rfl, Nat.le_refl _, fun _ _ _ => rfl⟩
theorem run_storeCells' {P : Program} {b : Nat} {e : TypeId} {lo hi : Nat} (off : Nat) : ∀ (vs : List Value) (i : Nat) (cur : Array Value) (w : World),
    w.heap[b]? = some (.cells cur e (lo, hi)) → off + i + vs.length ≤ cur.size → (∀ k, off + i ≤ k → k < off + i + vs.length → ¬ (lo ≤ k ∧ k < hi)) → (∀ v ∈ vs, v.oneCell' = true) →
    ∃ w' cur', (storeCells ⟨b, off, none⟩ vs i).run P w = .ok () w' ∧ w'.heap[b]? = some (.cells cur' e (lo, hi)) ∧ cur'.size = cur.size ∧
      (∀ k, cur'[k]? = if off + i ≤ k ∧ k < off + i + vs.length then vs[k - (off + i)]? else cur[k]?) ∧ w.grownBy w' (some b) := by
  intro vs
  induction vs with
  | nil =>
    intro i cur w h _ _ _
    exact ⟨w, cur, by simp [storeCells], h, rfl, fun k => by rw [if_neg (by intro h; simp only [List.length_nil] at h; omega)], grown_refl _ _⟩
  | cons v vs ih =>
    intro i cur w h hs hf h1
    simp only [List.length_cons] at hs hf
    have hlt : off + i < cur.size := by omega
    have hcell : w.cell? ⟨b, off + i, none⟩ = some cur[off + i] := by rw [cell_at h]; exact Array.getElem?_eq_getElem hlt
    have hfr : w.frozen? ⟨b, off + i, none⟩ = false := by
      rw [frozen_at h]
      have := hf (off + i) (Nat.le_refl _) (by omega)
      simpa using this
    obtain ⟨w', cur', hrun, hw', hsz, hc, hg⟩ := ih (i + 1) (cur.setIfInBounds (off + i) v) (w.setCell ⟨b, off + i, none⟩ v) (heap_setCell h) (by simp; omega)
      (fun k hk hk2 => hf k (by omega) (by omega)) (fun u hu => h1 u (List.mem_cons_of_mem _ hu))
    refine ⟨w', cur', ?_, hw', by simpa using hsz, fun k => ?_, grown_trans (grown_setCell w b (off + i) v) hg⟩
    · simp only [storeCells, Sem.run_bind, addr_add]
      rw [run_store P w _ v .plain (h1 v (by simp))]
      simp only [hcell, hfr, Bool.false_eq_true, if_false, Result.andThen_ok]
      exact hrun
    · rw [hc k]
      by_cases h2 : off + (i + 1) ≤ k ∧ k < off + (i + 1) + vs.length
      · rw [if_pos h2, if_pos (by simp; omega)]
        rw [show k - (off + i) = (k - (off + (i + 1))) + 1 from by omega, List.getElem?_cons_succ]
      · rw [if_neg h2]
        by_cases h3 : k = off + i
        · subst h3
          rw [if_pos (by simp)]
          simp [hlt]
        · rw [if_neg (by simp; omega), Array.getElem?_setIfInBounds_ne (by omega)]
theorem ofCells_rel (M : List MEnt) : ∀ (cs : List Value) (l : List AV), ofCells cs = some l → VRels M l cs
  | [], l, h => by simp [ofCells] at h; subst h; trivial
  | c :: cs, l, h => by
    have step : ∀ x, (match ofCells cs with | some l => some (x :: l) | none => none) = some l → VRel M x c → VRels M l (c :: cs) := fun x hx hr => by
      cases ho : ofCells cs with
      | none => simp [ho] at hx
      | some l' => simp only [ho, Option.some.injEq] at hx; subst hx; exact ⟨hr, ofCells_rel M cs l' ho⟩
    cases c with
    | int k n => exact step _ h rfl
    | bool b => exact step _ h rfl
    | string s => exact step _ h rfl
    | pointer a => cases a with
      | none => exact step _ h rfl
      | some a => simp [ofCells] at h
    | slice a n c => cases a with
      | none => cases n with
        | zero => cases c with
          | zero => exact step _ h rfl
          | succ c => simp [ofCells] at h
        | succ n => simp [ofCells] at h
      | some a => simp [ofCells] at h
    | nilFunc => exact step _ h rfl
    | nilIface => exact step _ h rfl
    | map a => cases a with
      | none => exact step _ h rfl
      | some a => simp [ofCells] at h
    | _ => simp [ofCells] at h
theorem constA_rel (M : List MEnt) {c : Value} {v : AV} (h : constA c = some v) : VRel M v c := by
  cases c with
  | int k n => simp [constA] at h; subst h; rfl
  | bool b => simp [constA] at h; subst h; rfl
  | string s => simp [constA] at h; subst h; rfl
  | pointer a => cases a with
    | none => simp [constA] at h; subst h; rfl
    | some a => simp [constA] at h
  | slice a n c => cases a with
    | none => cases n with
      | zero => cases c with
        | zero => simp [constA] at h; subst h; rfl
        | succ c => simp [constA] at h
      | succ n => simp [constA] at h
    | some a => simp [constA] at h
  | nilFunc => simp [constA] at h; subst h; rfl
  | nilIface => simp [constA] at h; subst h; rfl
  | map a => cases a with
    | none => simp [constA] at h; subst h; rfl
    | some a => simp [constA] at h
  | agg cs =>
    simp only [constA] at h
    cases ho : ofCells cs.toList with
    | none => simp [ho] at h
    | some l => simp only [ho, Option.some.injEq] at h; subst h; exact ⟨cs.toList, rfl, ofCells_rel M _ _ ho⟩
  | tuple cs =>
    simp only [constA] at h
    cases ho : ofCells cs.toList with
    | none => simp [ho] at h
    | some l => simp only [ho, Option.some.injEq] at h; subst h; exact ⟨cs.toList, rfl, ofCells_rel M _ _ ho⟩
  | _ => simp [constA] at h
theorem opd_rel {E : Env} {M : List MEnt} (hG : GRel E M) {fr : Tr AV} {a : Act} (hf : TRel M fr a.tmps) {x : Operand} {v : AV} (h : opd E fr x = some v) : VRel M v (a.eval x) := by
  cases x with
  | tmp t =>
    obtain ⟨cv, hc, r⟩ := hf t v h
    have : a.eval (.tmp t) = cv := by simp [Act.eval, Array.getD_eq_getD_getElem?, hc]
    rw [this]; exact r
  | const c => exact constA_rel M h
  | global g =>
    simp only [opd, blt_iff] at h
    by_cases hg : g < E.ng
    · simp only [hg, decide_true, cond_true, Option.some.injEq] at h
      subst h
      obtain ⟨m, hm, hb, h0⟩ := hG g hg
      exact ⟨m, hm, by simp [Act.eval, hb, h0]⟩
    · simp [hg] at h
  | func f => simp only [opd, Option.some.injEq] at h; subst h; exact ⟨[], [], rfl, trivial, trivial⟩
theorem opds_rel {E : Env} {M : List MEnt} (hG : GRel E M) {fr : Tr AV} {a : Act} (hf : TRel M fr a.tmps) : ∀ {xs : List Operand} {vs : List AV}, opds E fr xs = some vs → VRels M vs (xs.map a.eval)
  | [], vs, h => by simp [opds] at h; subst h; trivial
  | x :: xs, vs, h => by
    simp only [opds] at h
    cases hx : opd E fr x with
    | none => simp [hx] at h
    | some v =>
      simp only [hx] at h
      cases hxs : opds E fr xs with
      | none => simp [hxs] at h
      | some us =>
        simp only [hxs, Option.some.injEq] at h
        subst h
        exact ⟨opd_rel hG hf hx, opds_rel hG hf hxs⟩
theorem partsA_rel {E : Env} {M : List MEnt} (hG : GRel E M) {fr : Tr AV} {a : Act} (hf : TRel M fr a.tmps) : ∀ {xs : List (Nat × Operand)} {ps : List (Nat × AV)}, partsA E fr xs = some ps →
    ps.map (·.1) = xs.map (·.1) ∧ VRels M (ps.map (·.2)) (xs.map fun p => a.eval p.2)
  | [], vs, h => by simp [partsA] at h; subst h; exact ⟨rfl, trivial⟩
  | (i, x) :: xs, vs, h => by
    simp only [partsA] at h
    cases hx : opd E fr x with
    | none => simp [hx] at h
    | some v =>
      simp only [hx] at h
      cases hxs : partsA E fr xs with
      | none => simp [hxs] at h
      | some us =>
        simp only [hxs, Option.some.injEq] at h
        subst h
        obtain ⟨h1, h2⟩ := partsA_rel hG hf hxs
        exact ⟨by simp [h1], opd_rel hG hf hx, h2⟩
theorem VRel.one {M : List MEnt} {v : AV} {c : Value} (h : VRel M v c) (h1 : v.one = true) : c.oneCell' = true := by
  cases v <;> simp [AV.one] at h1 <;> simp only [VRel] at h
  case ptr => obtain ⟨_, _, rfl⟩ := h; rfl
  case sl => obtain ⟨_, _, _, rfl, _⟩ := h; rfl
  case sl0 => obtain ⟨_, _, rfl⟩ := h; rfl
  case fn => obtain ⟨_, _, rfl, _⟩ := h; rfl
  case yld => obtain ⟨_, _, rfl⟩ := h; rfl
  case iface => obtain ⟨_, rfl, _⟩ := h; rfl
  case mapv => obtain ⟨_, _, rfl⟩ := h; rfl
  case opq =>
    obtain ⟨h1, h2, _⟩ := h
    cases c <;> first | rfl | exact absurd rfl (h1 _) | exact absurd rfl (h2 _)
  case ext j k b o n d => subst h; cases k <;> rfl
  all_goals (subst h; rfl)
theorem VRel.cells {M : List MEnt} {v : AV} {c : Value} (h : VRel M v c) : VRels M v.cells c.cells.toList := by
  cases v <;> simp only [VRel] at h
  case ptr => obtain ⟨m, hm, rfl⟩ := h; exact ⟨⟨m, hm, rfl⟩, trivial⟩
  case sl => obtain ⟨m, c, hm, rfl, r⟩ := h; exact ⟨⟨m, c, hm, rfl, r⟩, trivial⟩
  case sl0 => obtain ⟨a, c, rfl⟩ := h; exact ⟨⟨a, c, rfl⟩, trivial⟩
  case fn => obtain ⟨a, b, rfl, r⟩ := h; exact ⟨⟨a, b, rfl, r⟩, trivial⟩
  case yld => obtain ⟨m, hm, rfl⟩ := h; exact ⟨⟨m, hm, rfl⟩, trivial⟩
  case iface => obtain ⟨y, rfl, r⟩ := h; exact ⟨⟨y, rfl, r⟩, trivial⟩
  case agg => obtain ⟨vs, rfl, r⟩ := h; simpa [AV.cells, Value.cells] using r
  case tup => obtain ⟨vs, rfl, r⟩ := h; exact ⟨⟨vs, rfl, r⟩, trivial⟩
  case mapv => obtain ⟨m, hm, rfl⟩ := h; exact ⟨⟨m, hm, rfl⟩, trivial⟩
  case opq =>
    obtain ⟨h1, h2, h3⟩ := h
    cases c <;> first | exact absurd rfl (h1 _) | exact absurd rfl (h2 _) | exact ⟨⟨fun _ e => (by cases e), fun _ e => (by cases e), h3⟩, trivial⟩
  case ext j k b o n d => subst h; cases k <;> exact ⟨rfl, trivial⟩
  all_goals (subst h; exact ⟨rfl, trivial⟩)
theorem VRels.ones {M : List MEnt} : ∀ {l : List AV} {cs : List Value}, VRels M l cs → l.all AV.one = true → ∀ c ∈ cs, c.oneCell' = true
  | [], [], _, _, c, h => by simp at h
  | a :: asz, v :: vs, h, h1, c, hc => by
    simp only [List.all_cons, Bool.and_eq_true] at h1
    rcases List.mem_cons.1 hc with rfl | hc
    · exact h.1.one h1.1
    · exact VRels.ones h.2 h1.2 c hc
theorem ORel.vals {M : List MEnt} {m : MEnt} {w : World} {n : Nat} {t : Tr AV} {e : TypeId} {g : Option Nat} {fz : Nat} {ro mk : Bool} (h : ORel M m w (.cells n t e g fz ro mk))
    {k q : Nat} {l : List AV} (hl : t.getAll k q = some l) : ∃ cur e' lo hi vs, w.heap[m.block]? = some (.cells cur e' (lo, hi)) ∧ VRels M l vs ∧ vs.length = q ∧ (∀ j v, vs[j]? = some v → cur[m.base + k + j]? = some v) := by
  obtain ⟨cur, e', lo, hi, h1, _, h3, _, _, _, h7⟩ := h
  obtain ⟨hq, hg⟩ := Tr.getAll_spec q hl
  refine ⟨cur, e', lo, hi, (cur.toList.drop (m.base + k)).take q, h1, ?_, ?_, ?_⟩
  · have hlen : ∀ i, i < q → m.base + k + i < cur.size := fun i hi => by
      cases hx : l[i]? with
      | none => rw [List.getElem?_eq_none_iff] at hx; omega
      | some v =>
        have := (h7 (k + i) v (by rw [hg i hi, hx])).1
        omega
    refine VRels.of ?_ fun i a v ha hv => ?_
    · simp only [List.length_take, List.length_drop, Array.length_toList, hq]
      by_cases h0 : q = 0
      · omega
      · have := hlen (q - 1) (by omega); omega
    · rw [List.getElem?_take] at hv
      split at hv
      · rename_i hi
        rw [List.getElem?_drop] at hv
        obtain ⟨_, cv, hc, r⟩ := h7 (k + i) a (by rw [hg i hi, ha])
        rw [← Nat.add_assoc] at hc
        rw [Array.getElem?_toList, hc] at hv
        cases hv; exact r
      · cases hv
  · simp only [List.length_take, List.length_drop, Array.length_toList]
    by_cases h0 : q = 0
    · omega
    · cases hx : l[q - 1]? with
      | none => rw [List.getElem?_eq_none_iff] at hx; omega
      | some v =>
        have := (h7 (k + (q - 1)) v (by rw [hg _ (by omega), hx])).1
        omega
  · intro j v hv
    rw [List.getElem?_take] at hv
    split at hv
    · rwa [List.getElem?_drop, Array.getElem?_toList] at hv
    · cases hv
theorem loadVar_sound {E : Env} {P : Program} (hE : TysOk E P) {M : List MEnt} {H : AHeap} {w : World} (hr : HRel M H w) {t : TypeId} {p v : AV} {cp : Value} (hp : VRel M p cp)
    (h : loadVarA E H t p = some v) : ∃ a cv, cp = .pointer (some a) ∧ (loadVar t a).run P w = .ok cv w ∧ VRel M v cv := by
  cases p with
  | ptr id off =>
    simp only [loadVarA] at h
    cases hty : E.ty t with
    | none => simp [hty] at h
    | some ti =>
      cases ho : H.get id with
      | none => simp [hty, ho] at h
      | some o =>
        obtain ⟨i, d, z, ht⟩ := hE.ty t ti hty
        obtain ⟨m, hm, rfl⟩ := hp
        have hO := hr.blk ho hm
        cases o with
        | cells n c e g fz ro mk =>
          simp only [hty, ho] at h
          refine ⟨⟨m.block, m.base + off, none⟩, ?_⟩
          cases hagg : ti.agg with
          | true =>
            simp only [hagg, cond_true] at h
            cases hg : c.getAll off ti.size with
            | none => simp [hg] at h
            | some l =>
              simp only [hg, Option.some.injEq] at h
              subst h
              obtain ⟨cur, e', lo, hi, vs, h1, h2, h3, h4⟩ := hO.vals hg
              refine ⟨.agg vs.toArray, rfl, ?_, ⟨vs, rfl, h2⟩⟩
              have := run_loadCells' (P := P) (off := m.base + off) h1 vs h4
              rw [h3] at this
              simp [loadVar, run_agg ht, hagg, run_size ht, this]
          | false =>
            simp only [hagg, cond_false] at h
            obtain ⟨cur, e', lo, hi, h1, _, _, _, _, _, h7⟩ := hO
            obtain ⟨_, cv, hc, r⟩ := h7 off v h
            refine ⟨cv, rfl, ?_, r⟩
            simp [loadVar, run_agg ht, hagg, cell_at h1, hc]
        | _ => simp [hty, ho] at h
  | _ => simp [loadVarA] at h
theorem storeVar_sound {E : Env} {P : Program} (hE : TysOk E P) {M : List MEnt} {H H' : AHeap} {w : World} (hr : HRel M H w) {t : TypeId} {p v : AV} {cp cv : Value} (hp : VRel M p cp) (hv : VRel M v cv)
    (h : storeVarA E H t p v = some H') : ∃ a w', cp = .pointer (some a) ∧ (storeVar t a cv).run P w = .ok () w' ∧ HRel M H' w' ∧ Ext M H w M H' w' := by
  cases p with
  | ptr id off =>
    simp only [storeVarA] at h
    cases hty : E.ty t with
    | none => simp [hty] at h
    | some ti =>
      cases ho : H.get id with
      | none => simp [hty, ho] at h
      | some o =>
        obtain ⟨i, d, z, ht⟩ := hE.ty t ti hty
        obtain ⟨m, hm, rfl⟩ := hp
        have hO := hr.blk ho hm
        cases o with
        | cells n c e g fz ro mk =>
          simp only [hty, ho, Bool.cond_eq_ite] at h
          split at h
          case isFalse => cases h
          rename_i hc
          simp only [Bool.and_eq_true, Nat.beq_eq, Nat.ble_eq, Bool.not_eq_true'] at hc
          obtain ⟨c1, c2, c3, c4, c5⟩ := hc
          subst c5
          simp only [Option.some.injEq] at h
          subst h
          obtain ⟨cur, e', lo, hi, h1, h2, h3, h4, h5, h6, h7⟩ := hO
          obtain ⟨rfl, hb0⟩ := h2 rfl
          have hcells := hv.cells
          have hlen : cv.cells.toList.length = ti.size := by rw [← hcells.length, c1]
          have hlen' : cv.cells.size = ti.size := by simpa using hlen
          obtain ⟨w', cur', hrun, g1, g2, g3, g4⟩ := run_storeCells' (P := P) (m.base + off) cv.cells.toList 0 cur w h1 (by rw [hlen]; omega)
            (fun k hk hk2 hx => by have := h5 rfl k hx.1 hx.2 (by rw [hlen] at hk2; omega); omega) (VRels.ones hcells c2)
          refine ⟨_, w', rfl, ?_, ?_⟩
          · simp [storeVar, run_size ht, hlen', hrun]
          · refine hr.put ho rfl hm g4 _ ⟨cur', e', lo, hi, g1, fun _ => ⟨rfl, hb0⟩, by rw [g2]; exact h3, fun gs e => by rw [g2]; exact h4 gs e, fun _ i a b cc => h5 rfl i a b (by rw [← g2]; exact cc), fun a b => by rw [g2]; exact h6 a b, ?_⟩
            intro j u hu
            rcases Tr.get_putAll _ hu with ⟨q, rfl, hq⟩ | ⟨hj, hu⟩
            · obtain ⟨x, hx, r⟩ := hcells.get q u hq
              have hql : q < ti.size := by rw [← c1]; exact (List.getElem?_eq_some_iff.1 hq).1
              refine ⟨by omega, x, ?_, r⟩
              rw [g3, if_pos (by rw [hlen]; omega)]
              rw [show m.base + (off + q) - (m.base + off + 0) = q from by omega]
              exact hx
            · obtain ⟨a, x, hx, r⟩ := h7 j u hu
              refine ⟨a, x, ?_, r⟩
              rw [g3, if_neg (by rw [hlen]; rw [c1] at hj; omega)]
              exact hx
        | _ => simp [hty, ho] at h
  | _ => simp [storeVarA] at h
theorem grown_push (w : World) (o : Obj) : w.grownBy { w with heap := w.heap.push o } none :=
  ⟨rfl, rfl, rfl, by simp, fun k hk _ => by simp [Array.getElem?_push, Nat.ne_of_lt hk]⟩
theorem newRow_sound {M : List MEnt} {H : AHeap} {w : World} (hr : HRel M H w) (e : TypeId) {cs : List AV} {vs : List Value} (h : VRels M cs vs) :
    HRel (M ++ [⟨w.heap.size, 0, 0, 0⟩]) (newRowA H e cs) { w with heap := w.heap.push (.cells vs.toArray e) } ∧
    Ext M H w (M ++ [⟨w.heap.size, 0, 0, 0⟩]) (newRowA H e cs) { w with heap := w.heap.push (.cells vs.toArray e) } := by
  refine hr.new (grown_push w _) _ _ (Nat.le_refl _) ⟨vs.toArray, e, 0, 0, by simp, fun _ => ⟨rfl, rfl⟩, by simp [h.length], fun gs e => (by cases e), fun _ i a b => by omega, fun _ _ => ⟨Nat.zero_le _, Nat.le_refl _⟩, ?_⟩
  intro i v hv
  rcases Tr.get_putAll _ hv with ⟨q, rfl, hq⟩ | ⟨_, hu⟩
  · obtain ⟨x, hx, r⟩ := h.get q v hq
    exact ⟨by simpa using (List.getElem?_eq_some_iff.1 hq).1, x, by simpa using hx, r.mono (List.prefix_append _ _)⟩
  · simp [Tr.get_nil] at hu
theorem newAt {M : List MEnt} {H : AHeap} {w : World} (hr : HRel M H w) (m : MEnt) : (M ++ [m])[H.next]? = some m := by rw [← hr.len]; simp
end Go.Vai
end
section
namespace Go.Vai
section
variable {E : Env} {P : Program} {M : List MEnt} {w : World}
theorem beq_dec (a b : List UInt8) : (a == b) = decide (a = b) := by rw [Bool.eq_iff_iff]; simp
def Keep (p : Prop) : Prop := p
theorem Keep.out {p : Prop} (h : Keep p) : p := h
theorem intBin_sound {op : BinOp} {k : IntKind} {x y : Int} {v : AV} (hs : op ≠ .shl ∧ op ≠ .shr) (h : intBin op k x y = some v) (xt : TypeId) :
    ∃ cv, (binOp op xt (.int k x) (.int k y)).run P w = .ok cv w ∧ VRel M v cv := by
  cases op <;> simp only [intBin, Option.some.injEq] at h
  case shl => exact absurd rfl hs.1
  case shr => exact absurd rfl hs.2
  case quo =>
    simp only [ieq_iff] at h
    by_cases hy : y = 0
    · simp [hy] at h
    · simp only [hy, decide_false, cond_false, Option.some.injEq] at h
      subst h
      exact ⟨_, by simp [binOp, Op.intDiv, hy] <;> rfl, rfl⟩
  case rem =>
    simp only [ieq_iff] at h
    by_cases hy : y = 0
    · simp [hy] at h
    · simp only [hy, decide_false, cond_false, Option.some.injEq] at h
      subst h
      exact ⟨_, by simp [binOp, Op.intDiv, hy] <;> rfl, rfl⟩
  all_goals subst h
  case and =>
    refine ⟨_, by simp [binOp, Op.intBits] <;> rfl, ?_⟩
    simp only [VRel, bitsOf_eq]; rfl
  case or =>
    refine ⟨_, by simp [binOp, Op.intBits] <;> rfl, ?_⟩
    simp only [VRel, bitsOf_eq]; rfl
  case xor =>
    refine ⟨_, by simp [binOp, Op.intBits] <;> rfl, ?_⟩
    simp only [VRel, bitsOf_eq]; rfl
  case andNot =>
    refine ⟨_, by simp only [binOp, Op.intBits, ne_eq, not_true_eq_false, if_false]; exact Sem.run_pure P w _, ?_⟩
    have e : (BitVec.ofInt k.bits x &&& ~~~(BitVec.ofInt k.bits y)).toNat = Nat.land (bitsOf k x) (Nat.xor (2 ^ k.bits - 1) (bitsOf k y)) := by
      rw [BitVec.toNat_and, bitsOf_eq, bitsOf_eq, ← BitVec.xor_allOnes, BitVec.xor_comm, BitVec.toNat_xor, BitVec.toNat_allOnes]
      rfl
    simp only [VRel, e]
  case eql => exact ⟨_, by simp [binOp, Op.intCmp] <;> rfl, by simp only [VRel, ieq_iff]; rfl⟩
  case neq => exact ⟨_, by simp [binOp, Op.intCmp] <;> rfl, by simp only [VRel, ieq_iff]; rfl⟩
  case lss => exact ⟨_, by simp [binOp, Op.intCmp] <;> rfl, by simp only [VRel, ilt_iff]⟩
  case gtr => exact ⟨_, by simp [binOp, Op.intCmp] <;> rfl, by simp only [VRel, ilt_iff]⟩
  case leq => exact ⟨_, by simp [binOp, Op.intCmp] <;> rfl, by simp only [VRel, ilt_iff, Value.bool.injEq]; rw [Bool.eq_iff_iff]; simp⟩
  case geq => exact ⟨_, by simp [binOp, Op.intCmp] <;> rfl, by simp only [VRel, ilt_iff, Value.bool.injEq]; rw [Bool.eq_iff_iff]; simp⟩
  all_goals exact ⟨_, by simp [binOp, Op.intArith] <;> rfl, rfl⟩
theorem intShift_sound {op : BinOp} {k j : IntKind} {x y : Int} {v : AV} (h : intShift op k x y = some v) (xt : TypeId) :
    ∃ cv, (binOp op xt (.int k x) (.int j y)).run P w = .ok cv w ∧ VRel M v cv := by
  simp only [intShift, ilt_iff] at h
  by_cases hy : y < 0
  · simp [hy] at h
  · simp only [hy, decide_false, cond_false] at h
    cases op <;> simp only [Option.some.injEq] at h <;> first | (cases h; done) | subst h
    · exact ⟨_, by simp [binOp, Op.shift, hy] <;> rfl, rfl⟩
    · exact ⟨_, by simp [binOp, Op.shift, hy] <;> rfl, rfl⟩
theorem strBin_sound {op : BinOp} {a b : List UInt8} {v : AV} (h : strBin op a b = some v) (xt : TypeId) :
    ∃ cv, (binOp op xt (.string ⟨⟨a⟩⟩) (.string ⟨⟨b⟩⟩)).run P w = .ok cv w ∧ VRel M v cv := by
  have ta : (ByteArray.mk ⟨a⟩).toList = a := ByteArray.toList_mk a
  have tb : (ByteArray.mk ⟨b⟩).toList = b := ByteArray.toList_mk b
  cases op <;> simp only [strBin, Option.some.injEq] at h <;> first | (cases h; done) | skip
  case add =>
    simp only [ble_iff] at h
    by_cases hl : lenU a + lenU b ≤ 1099511627776
    · simp only [hl, decide_true, cond_true, Option.some.injEq] at h
      subst h
      have hs : ¬ ((((ByteArray.mk ⟨a⟩).size + (ByteArray.mk ⟨b⟩).size : Nat) : Int) > IntKind.i64.max) := by
        simp only [lenU] at hl
        show ¬ (((a.length + b.length : Nat) : Int) > IntKind.i64.max)
        have : IntKind.i64.max = 9223372036854775807 := by decide
        rw [this]; omega
      refine ⟨.string (ByteArray.mk ⟨a⟩ ++ ByteArray.mk ⟨b⟩), ?_, ?_⟩
      · simp only [binOp, Op.stringOp]
        rw [if_neg hs]
        rfl
      · simp only [VRel, Value.string.injEq]
        apply ByteArray.ext
        simp
    · simp [hl] at h
  all_goals
    subst h
    refine ⟨_, by simp only [binOp, Op.stringOp]; exact Sem.run_pure P w _, ?_⟩
    simp only [VRel, ta, tb, leq_iff, llt_iff, beq_dec]
theorem partA_sound (hE : TysOk E P) {t : TypeId} {cs : List AV} {vs : List Value} {off : Nat} {v : AV} (hc : VRels M cs vs) (h : partA E t cs off = some v) :
    ∃ cv, (part t vs.toArray off).run P w = .ok cv w ∧ VRel M v cv := by
  simp only [partA] at h
  cases hty : E.ty t with
  | none => simp [hty] at h
  | some ti =>
    obtain ⟨i, d, z, ht⟩ := hE.ty t ti hty
    simp only [hty] at h
    cases hagg : ti.agg with
    | true =>
      simp only [hagg, cond_true, ble_iff] at h
      by_cases hl : off + ti.size ≤ cs.length
      · simp only [hl, decide_true, cond_true, Option.some.injEq] at h
        subst h
        refine ⟨.agg ((vs.drop off).take ti.size).toArray, ?_, ⟨_, rfl, (hc.drop off).take ti.size⟩⟩
        simp only [part, Sem.run_bind, run_agg ht, hagg, Result.andThen_ok, if_true, run_size ht, Sem.run_pure]
        congr 2
        simp [List.extract_toArray]
      · simp [hl] at h
    | false =>
      simp only [hagg, cond_false] at h
      rw [List.head?_drop] at h
      obtain ⟨cv, hcv, r⟩ := hc.get off v h
      refine ⟨cv, ?_, r⟩
      simp [part, run_agg ht, hagg, hcv]
set_option maxHeartbeats 1000000 in
theorem eqv_sound (hE : TysOk E P) : ∀ (d n : Nat) (t : TypeId) (x y : AV) (b : Bool) (cx cy : Value), d ≤ n → eqv E d t x y = some b → VRel M x cx → VRel M y cy → (Op.equalIn n t cx cy).run P w = .ok b w := by
  intro d
  induction d with
  | zero => intro n t x y b cx cy _ h; simp [eqv] at h
  | succ d ih =>
    intro n t x y b cx cy hn h hx hy
    obtain ⟨n, rfl⟩ : ∃ m, n = m + 1 := ⟨n - 1, by omega⟩
    simp only [eqv] at h
    cases hty : E.ty t with
    | none => simp [hty] at h
    | some ti =>
      obtain ⟨i, td, z, ht⟩ := hE.ty t ti hty
      simp only [hty] at h
      have hd := ht.desc
      have hu := ht.und
      have K : Keep (∀ (n : Nat) (t : TypeId) (x y : AV) (b : Bool) (cx cy : Value), d ≤ n → eqv E d t x y = some b → VRel M x cx → VRel M y cy → (Op.equalIn n t cx cy).run P w = .ok b w) := ih
      have KE : Keep (TysOk E P) := hE
      clear ih hE ht hty
      split at h <;> simp_all only [DRel, VRel, Option.some.injEq]
      case h_1 => subst h; simp [Op.equalIn, run_underlying hu]
      case h_2 =>
        rename_i k a k' b' _
        simp only [Bool.cond_eq_ite, sameKind_iff] at h
        split at h
        · rename_i hk
          simp only [Option.some.injEq] at h
          subst hk; subst h
          simp [Op.equalIn, run_underlying hu, ieq_iff]
          rfl
        · cases h
      case h_3 =>
        subst h
        simp only [Op.equalIn, Sem.run_bind, run_underlying hu, Result.andThen_ok, Sem.run_pure, beq_toListBytes]
        rw [show (ByteArray.mk ⟨_⟩).toList = _ from ByteArray.toList_mk _, show (ByteArray.mk ⟨_⟩).toList = _ from ByteArray.toList_mk _, leq_iff, beq_dec]
      case h_4 => subst h; simp [Op.equalIn, run_underlying hu]
      case h_5 => obtain ⟨m, _, rfl⟩ := hy; subst h; simp [Op.equalIn, run_underlying hu]
      case h_6 => obtain ⟨m, _, rfl⟩ := hx; subst h; simp [Op.equalIn, run_underlying hu]
      case h_7 =>
        rename_i e i' a j b' _
        obtain ⟨m, hm, rfl⟩ := hx
        obtain ⟨k, hk, rfl⟩ := hy
        cases hte : E.ty e with
        | none => simp [hte] at h
        | some ei =>
          obtain ⟨ii, dd, zz, he⟩ := KE.out.ty e ei hte
          simp only [hte, Bool.cond_eq_ite] at h
          split at h
          · rename_i hc
            simp only [Bool.and_eq_true, Nat.beq_eq, Bool.not_eq_true'] at hc
            obtain ⟨rfl, hz⟩ := hc
            rw [hm] at hk; cases hk
            have hz' : ei.size ≠ 0 := Nat.ne_of_beq_eq_false hz
            simp only [Option.some.injEq] at h
            subst h
            simp [Op.equalIn, run_underlying hu, run_size he, hz', sameAddr, beq_iff]
            rw [Bool.eq_iff_iff]; simp
          · cases h
      case h_8 => subst h; simp [Op.equalIn, run_underlying hu]
      case h_9 => obtain ⟨m, c, _, rfl, _⟩ := hy; subst h; simp [Op.equalIn, run_underlying hu]
      case h_10 => obtain ⟨m, c, _, rfl, _⟩ := hx; subst h; simp [Op.equalIn, run_underlying hu]
      case h_11 => obtain ⟨a, c, rfl⟩ := hy; subst h; simp [Op.equalIn, run_underlying hu]
      case h_12 => obtain ⟨a, c, rfl⟩ := hx; subst h; simp [Op.equalIn, run_underlying hu]
      case h_13 => obtain ⟨_, _, _, rfl⟩ := hd; subst h; simp [Op.equalIn, run_underlying hu]
      case h_14 => obtain ⟨_, _, _, rfl⟩ := hd; obtain ⟨_, _, rfl, _⟩ := hy; subst h; simp [Op.equalIn, run_underlying hu]
      case h_15 => obtain ⟨_, _, _, rfl⟩ := hd; obtain ⟨_, _, rfl, _⟩ := hx; subst h; simp [Op.equalIn, run_underlying hu]
      case h_16 => obtain ⟨_, rfl⟩ := hd; subst h; simp [Op.equalIn, run_underlying hu]
      case h_17 => obtain ⟨_, rfl⟩ := hd; obtain ⟨_, rfl, _⟩ := hy; subst h; simp [Op.equalIn, run_underlying hu]
      case h_18 => obtain ⟨_, rfl⟩ := hd; obtain ⟨_, rfl, _⟩ := hx; subst h; simp [Op.equalIn, run_underlying hu]
      case h_19 =>
        rename_i a v b' u _
        obtain ⟨_, rfl⟩ := hd
        obtain ⟨cv, rfl, hv⟩ := hx
        obtain ⟨cu, rfl, hu'⟩ := hy
        simp only [Bool.cond_eq_ite, Nat.beq_eq] at h
        split at h
        · rename_i hab
          subst hab
          cases hta : E.ty a with
          | none => simp [hta] at h
          | some ai =>
            obtain ⟨ii, dd, zz, ha⟩ := KE.out.ty a ai hta
            simp only [hta] at h
            split at h
            · rename_i hc
              have := K.out n a v u b cv cu (by omega) h hv hu'
              simp [Op.equalIn, run_underlying hu, run_info ha, ha.cmp hc, this]
            · cases h
        · rename_i hab
          simp only [Option.some.injEq] at h
          subst h
          simp [Op.equalIn, run_underlying hu, hab]
      case h_20 =>
        rename_i fs eqok asz bs hq0
        clear hq0
        obtain ⟨F, rfl, hF, hok⟩ := hd
        obtain ⟨xs, rfl, hxs⟩ := hx
        obtain ⟨ys, rfl, hys⟩ := hy
        simp only [Bool.cond_eq_ite] at h
        split at h
        case isFalse => cases h
        rename_i hq
        obtain ⟨hn_, hst, _⟩ := hok hq
        have hfo : P.fieldsOf t = F := by simp [Program.fieldsOf, hu]
        rw [run_equalIn_struct w n t xs.toArray ys.toArray (by rw [hfo]; exact hu) hst, hfo]
        clear hfo hq hok hu
        generalize F.toList = FL at hF hn_
        clear hst
        induction FL generalizing fs with
        | nil =>
          simp only [List.map_nil] at hF; subst hF
          simp only [eqFs, Option.some.injEq] at h; subst h
          simp [Op.eqFields]
        | cons f FL ihF =>
          simp only [List.map_cons] at hF; subst hF
          simp only [eqFs] at h
          cases hpx : partA E f.type asz f.offset with
          | none => simp [hpx] at h
          | some px =>
            cases hpy : partA E f.type bs f.offset with
            | none => simp [hpx, hpy] at h
            | some py =>
              obtain ⟨cpx, rx, vx⟩ := partA_sound (w := w) KE.out hxs hpx
              obtain ⟨cpy, ry, vy⟩ := partA_sound (w := w) KE.out hys hpy
              simp only [hpx, hpy] at h
              cases hq : eqv E d f.type px py with
              | none => simp [hq] at h
              | some q =>
                have hr := K.out n f.type px py q cpx cpy (by omega) hq vx vy
                simp only [hq] at h
                have hname : f.name ≠ "_" := hn_ f (by simp)
                simp only [Op.eqFields, hname, ne_eq, not_false_eq_true, if_true, Sem.run_bind, rx, ry, hr, Result.andThen_ok]
                cases q with
                | false => simp only [Option.some.injEq] at h; subst h; simp
                | true => simpa using ihF _ h rfl (fun g hg => hn_ g (List.mem_cons_of_mem _ hg))
      case h_21 => subst h; simp [Op.equalIn, run_underlying hu]
      case h_22 => obtain ⟨_, _, rfl⟩ := hy; subst h; simp [Op.equalIn, run_underlying hu]
      case h_23 => obtain ⟨_, _, rfl⟩ := hx; subst h; simp [Op.equalIn, run_underlying hu]
      case h_24 => cases h
end
end Go.Vai
end
section
namespace Go.Vai
section
variable {E : Env} {P : Program} {M : List MEnt} {w : World}
def plainEq : Value → Bool
  | .int _ _ => false
  | .float _ _ => false
  | .complex _ _ _ => false
  | .string _ => false
  | _ => true
theorem eqv_opqL {E : Env} {d t : Nat} {o : Option IntKind} {y : AV} {b : Bool} : eqv E d t (.opq o) y ≠ some b := by
  intro h
  cases d with
  | zero => simp [eqv] at h
  | succ d =>
    simp only [eqv] at h
    cases hty : E.ty t with
    | none => simp [hty] at h
    | some ti =>
      simp only [hty] at h
      split at h <;> simp_all
theorem eqv_opqR {E : Env} {d t : Nat} {o : Option IntKind} {x : AV} {b : Bool} : eqv E d t x (.opq o) ≠ some b := by
  intro h
  cases d with
  | zero => simp [eqv] at h
  | succ d =>
    simp only [eqv] at h
    cases hty : E.ty t with
    | none => simp [hty] at h
    | some ti =>
      simp only [hty] at h
      split at h <;> simp_all
theorem eqv_extL {E : Env} {d t : Nat} {j k' b' o' n' c' : Nat} {y : AV} {b : Bool} : eqv E d t (.ext j k' b' o' n' c') y ≠ some b := by
  intro h
  cases d with
  | zero => simp [eqv] at h
  | succ d =>
    simp only [eqv] at h
    cases hty : E.ty t with
    | none => simp [hty] at h
    | some ti =>
      simp only [hty] at h
      split at h <;> simp_all
theorem eqv_extR {E : Env} {d t : Nat} {j k' b' o' n' c' : Nat} {x : AV} {b : Bool} : eqv E d t x (.ext j k' b' o' n' c') ≠ some b := by
  intro h
  cases d with
  | zero => simp [eqv] at h
  | succ d =>
    simp only [eqv] at h
    cases hty : E.ty t with
    | none => simp [hty] at h
    | some ti =>
      simp only [hty] at h
      split at h <;> simp_all
theorem eqv_plain {d t : Nat} {x y : AV} {b : Bool} {cx : Value} (h : eqv E d t x y = some b) (h1 : ∀ k a j c, x = .int k a → y = .int j c → False) (h2 : ∀ s u, x = .str s → y = .str u → False)
    (hx : VRel M x cx) : plainEq cx = true := by
  cases x <;> simp only [VRel] at hx
  case int k n =>
    exfalso
    cases d with
    | zero => simp [eqv] at h
    | succ d =>
      simp only [eqv] at h
      cases hty : E.ty t with
      | none => simp [hty] at h
      | some ti =>
        simp only [hty] at h
        split at h <;> simp_all
        exact h1 _ _ _ _ rfl rfl rfl rfl
  case str s =>
    exfalso
    cases d with
    | zero => simp [eqv] at h
    | succ d =>
      simp only [eqv] at h
      cases hty : E.ty t with
      | none => simp [hty] at h
      | some ti =>
        simp only [hty] at h
        split at h <;> simp_all
  case ptr => obtain ⟨_, _, rfl⟩ := hx; rfl
  case sl => obtain ⟨_, _, _, rfl, _⟩ := hx; rfl
  case sl0 => obtain ⟨_, _, rfl⟩ := hx; rfl
  case fn => obtain ⟨_, _, rfl, _⟩ := hx; rfl
  case yld => obtain ⟨_, _, rfl⟩ := hx; rfl
  case iface => obtain ⟨_, rfl, _⟩ := hx; rfl
  case agg => obtain ⟨_, rfl, _⟩ := hx; rfl
  case tup => obtain ⟨_, rfl, _⟩ := hx; rfl
  case mapv => obtain ⟨_, _, rfl⟩ := hx; rfl
  case opq => exact absurd h eqv_opqL
  case ext => exact absurd h eqv_extL
  all_goals (subst hx; rfl)
theorem binOp_eql {t : TypeId} {x y : Value} (h : plainEq x = true) : binOp .eql t x y = (do pure (.bool (← Op.equal t x y)) : Sem Value) := by
  cases x <;> simp [plainEq] at h <;> cases y <;> rfl
theorem binOp_neq {t : TypeId} {x y : Value} (h : plainEq x = true) : binOp .neq t x y = (do pure (.bool (!(← Op.equal t x y))) : Sem Value) := by
  cases x <;> simp [plainEq] at h <;> cases y <;> rfl
theorem guard_int {op : BinOp} {t : TypeId} {X Y : Operand} {k j : IntKind} {a b : Int} : (eqGuard op t X Y (.int k a) (.int j b)).run P w = .ok () w := by
  unfold eqGuard; split <;> rfl
theorem guard_str {op : BinOp} {t : TypeId} {X Y : Operand} {a b : ByteArray} : (eqGuard op t X Y (.string a) (.string b)).run P w = .ok () w := by
  unfold eqGuard; split <;> rfl
theorem guard_eq (hE : TysOk E P) {d : Nat} {op : BinOp} {t : TypeId} {X Y : Operand} {x y : AV} {b : Bool} {cx cy : Value} (h : eqv E d t x y = some b) (hx : VRel M x cx) (hy : VRel M y cy)
    (hn : x = .nili → y = .nili → (isConst X || isConst Y) = true) : (eqGuard op t X Y cx cy).run P w = .ok () w := by
  by_cases ha : ∃ asz bs, x = .agg asz ∧ y = .agg bs
  · obtain ⟨asz, bs, rfl, rfl⟩ := ha
    obtain ⟨xs, rfl, _⟩ := hx
    obtain ⟨ys, rfl, _⟩ := hy
    cases d with
    | zero => simp [eqv] at h
    | succ d =>
      simp only [eqv] at h
      cases hty : E.ty t with
      | none => simp [hty] at h
      | some ti =>
        obtain ⟨i, td, z, ht⟩ := hE.ty t ti hty
        have hd := ht.desc
        simp only [hty] at h
        split at h <;> first | (cases h; done) | (rename_i e _; cases e; done) | skip
        case h_20 =>
          rename_i fs eqok as' bs' hq _ _
          rw [hq] at hd
          obtain ⟨F, rfl, _, hok⟩ := hd
          simp only [Bool.cond_eq_ite] at h
          split at h
          case isFalse => cases h
          rename_i hq
          have := (hok hq).2.2
          cases op <;> simp [eqGuard, this]
        all_goals simp_all
  · by_cases hi : x = .nili ∧ y = .nili
    · obtain ⟨rfl, rfl⟩ := hi
      have hc := hn rfl rfl
      simp only [VRel] at hx hy
      subst hx; subst hy
      cases X <;> cases Y <;> simp [isConst] at hc <;> cases op <;> simp [eqGuard]
    · have h1 : ∀ asz bs, ¬ (cx = .agg asz ∧ cy = .agg bs) := by
        rintro asz bs ⟨rfl, rfl⟩
        apply ha
        cases x <;> simp only [VRel] at hx <;> first | (cases hx; done) | (obtain ⟨_, _, h⟩ := hx; cases h; done) | (obtain ⟨_, h, _⟩ := hx; cases h; done) | (obtain ⟨_, _, h, _⟩ := hx; cases h; done) | (obtain ⟨_, _, _, h, _⟩ := hx; cases h; done) | (exact absurd h eqv_opqL) | (exact absurd h eqv_extL) | skip
        cases y <;> simp only [VRel] at hy <;> first | (cases hy; done) | (obtain ⟨_, _, h⟩ := hy; cases h; done) | (obtain ⟨_, h, _⟩ := hy; cases h; done) | (obtain ⟨_, _, h, _⟩ := hy; cases h; done) | (obtain ⟨_, _, _, h, _⟩ := hy; cases h; done) | (exact absurd h eqv_opqR) | (exact absurd h eqv_extR) | skip
        exact ⟨_, _, rfl, rfl⟩
      have h2 : ¬ (cx = .nilIface ∧ cy = .nilIface) := by
        rintro ⟨rfl, rfl⟩
        apply hi
        cases x <;> simp only [VRel] at hx <;> first | (cases hx; done) | (obtain ⟨_, _, h⟩ := hx; cases h; done) | (obtain ⟨_, h, _⟩ := hx; cases h; done) | (obtain ⟨_, _, h, _⟩ := hx; cases h; done) | (obtain ⟨_, _, _, h, _⟩ := hx; cases h; done) | (exact absurd h eqv_opqL) | (exact absurd h eqv_extL) | skip
        cases y <;> simp only [VRel] at hy <;> first | (cases hy; done) | (obtain ⟨_, _, h⟩ := hy; cases h; done) | (obtain ⟨_, h, _⟩ := hy; cases h; done) | (obtain ⟨_, _, h, _⟩ := hy; cases h; done) | (obtain ⟨_, _, _, h, _⟩ := hy; cases h; done) | (exact absurd h eqv_opqR) | (exact absurd h eqv_extR) | skip
        exact ⟨rfl, rfl⟩
      have h3 : ∀ (s : Sem Unit), (match cx, cy with | .nilIface, .nilIface => s | .agg _, .agg _ => s | _, _ => pure ()) = pure () := by
        intro s
        split
        · exact absurd ⟨rfl, rfl⟩ h2
        · exact absurd ⟨rfl, rfl⟩ (h1 _ _)
        · rfl
      unfold eqGuard
      split <;> first | rfl | skip
      all_goals
        split
        · rfl
        · split
          · exact absurd ⟨rfl, rfl⟩ h2
          · exact absurd ⟨rfl, rfl⟩ (h1 _ _)
          · rfl
theorem binA_sound (hE : TysOk E P) {op : BinOp} {t : TypeId} {X Y : Operand} {x y v : AV} {cx cy : Value} (h : binA E op t x y = some v) (hx : VRel M x cx) (hy : VRel M y cy)
    (hn : x = .nili → y = .nili → (isConst X || isConst Y) = true) : ∃ cv, ((do eqGuard op t X Y cx cy; binOp op t cx cy) : Sem Value).run P w = .ok cv w ∧ VRel M v cv := by
  unfold binA at h
  split at h
  · simp only [VRel] at hx hy; subst hx; subst hy
    obtain ⟨cv, hr, r⟩ := intShift_sound (M := M) (P := P) (w := w) h t
    exact ⟨cv, by simp only [Sem.run_bind, guard_int, Result.andThen_ok]; exact hr, r⟩
  · simp only [VRel] at hx hy; subst hx; subst hy
    obtain ⟨cv, hr, r⟩ := intShift_sound (M := M) (P := P) (w := w) h t
    exact ⟨cv, by simp only [Sem.run_bind, guard_int, Result.andThen_ok]; exact hr, r⟩
  · rename_i op' k a k' b h1 h2
    simp only [VRel] at hx hy; subst hx; subst hy
    simp only [Bool.cond_eq_ite, sameKind_iff] at h
    split at h
    case isFalse => cases h
    rename_i hk
    subst hk
    obtain ⟨cv, hr, r⟩ := intBin_sound (M := M) (P := P) (w := w) ⟨h1, h2⟩ h t
    exact ⟨cv, by simp only [Sem.run_bind, guard_int, Result.andThen_ok]; exact hr, r⟩
  · simp only [VRel] at hx hy; subst hx; subst hy
    obtain ⟨cv, hr, r⟩ := strBin_sound (M := M) (P := P) (w := w) h t
    exact ⟨cv, by simp only [Sem.run_bind, guard_str, Result.andThen_ok]; exact hr, r⟩
  · rename_i h1 h2
    cases he : eqv E 6 t x y with
    | none => simp [he] at h
    | some b =>
      simp only [he, Option.some.injEq] at h
      subst h
      have hp := eqv_plain he (fun k a j c e1 e2 => h1 _ _ _ _ e1 e2) (fun s u e1 e2 => h2 _ _ e1 e2) hx
      refine ⟨.bool b, ?_, rfl⟩
      simp only [Sem.run_bind, guard_eq hE he hx hy hn, Result.andThen_ok, binOp_eql hp, Op.equal]
      rw [eqv_sound hE 6 Op.maxDepth t x y b cx cy (by decide) he hx hy]
      rfl
  · rename_i h1 h2
    cases he : eqv E 6 t x y with
    | none => simp [he] at h
    | some b =>
      simp only [he, Option.some.injEq] at h
      subst h
      have hp := eqv_plain he (fun k a j c e1 e2 => h1 _ _ _ _ e1 e2) (fun s u e1 e2 => h2 _ _ e1 e2) hx
      refine ⟨.bool (!b), ?_, rfl⟩
      simp only [Sem.run_bind, guard_eq hE he hx hy hn, Result.andThen_ok, binOp_neq hp, Op.equal]
      rw [eqv_sound hE 6 Op.maxDepth t x y b cx cy (by decide) he hx hy]
      rfl
  · cases h
theorem unA_sound {op : UnOp} {x v : AV} {cx : Value} (h : unA op x = some v) (hx : VRel M x cx) : ∃ cv, (Op.unary op cx).run P w = .ok cv w ∧ VRel M v cv := by
  unfold unA at h
  split at h
  · simp only [VRel] at hx; subst hx; simp only [Option.some.injEq] at h; subst h
    exact ⟨_, by simp [Op.unary, Op.intArith] <;> rfl, by simp [VRel]⟩
  · rename_i k n
    simp only [VRel] at hx; subst hx; simp only [Option.some.injEq] at h; subst h
    refine ⟨_, by simp [Op.unary, Op.intBits] <;> rfl, ?_⟩
    have e : (BitVec.ofInt k.bits (if k.signed = true then -1 else k.max)).toNat = 2 ^ k.bits - 1 := by cases k <;> decide
    simp only [VRel, bitsOf_eq]
    congr 2
    rw [← e]; rfl
  · simp only [VRel] at hx; subst hx; simp only [Option.some.injEq] at h; subst h
    exact ⟨_, by simp [Op.unary] <;> rfl, rfl⟩
  · cases h
theorem field_of {F : Array Field} {fs : List (Nat × Nat)} (hF : F.toList.map (fun f => (f.offset, f.type)) = fs) {f o ft : Nat} (h : nthF fs f = some (o, ft)) :
    ∃ fd, F[f]? = some fd ∧ fd.offset = o ∧ fd.type = ft := by
  rw [nthF_eq, ← hF, List.getElem?_map] at h
  cases hx : F.toList[f]? with
  | none => simp [hx] at h
  | some fd =>
    simp only [hx, Option.map_some, Option.some.injEq, Prod.mk.injEq] at h
    exact ⟨fd, by simpa using hx, h.1, h.2⟩
theorem fieldA_sound (hE : TysOk E P) {t : TypeId} {x v : AV} {f : Nat} {cx : Value} (h : fieldA E t x f = some v) (hx : VRel M x cx) : ∃ cv, (Instr.field t cx f).run P w = .ok cv w ∧ VRel M v cv := by
  unfold fieldA at h
  split at h
  case h_2 => cases h
  rename_i ti cs hty
  obtain ⟨i, d, z, ht⟩ := hE.ty t ti hty
  have hd := ht.desc
  split at h
  case h_2 => cases h
  rename_i fs ok hq
  rw [hq] at hd
  obtain ⟨F, rfl, hF, _⟩ := hd
  split at h
  case h_2 => cases h
  rename_i o ft hn
  obtain ⟨fd, h1, rfl, rfl⟩ := field_of hF hn
  obtain ⟨vs, rfl, r⟩ := hx
  obtain ⟨cv, hr, rv⟩ := partA_sound (w := w) hE r h
  exact ⟨cv, by simp [Instr.field, run_und ht, h1, asAgg, hr], rv⟩
theorem fieldAddrA_sound (hE : TysOk E P) {t : TypeId} {x v : AV} {f : Nat} {cx : Value} (h : fieldAddrA E t x f = some v) (hx : VRel M x cx) :
    ∃ cv, (Instr.fieldAt t cx f).run P w = .ok cv w ∧ VRel M v cv := by
  unfold fieldAddrA at h
  split at h
  case h_2 => cases h
  rename_i ti id off hty
  obtain ⟨i, d, z, ht⟩ := hE.ty t ti hty
  have hd := ht.desc
  split at h
  case h_2 => cases h
  rename_i fs ok hq
  rw [hq] at hd
  obtain ⟨F, rfl, hF, _⟩ := hd
  split at h
  case h_2 => cases h
  rename_i o ft hn
  split at h
  case h_2 => cases h
  rename_i fi hfi
  obtain ⟨fd, h1, rfl, rfl⟩ := field_of hF hn
  obtain ⟨fii, fdd, fz, hf⟩ := hE.ty _ _ hfi
  obtain ⟨m, hm, rfl⟩ := hx
  simp only [Bool.cond_eq_ite, Nat.beq_eq] at h
  split at h
  · cases h
  rename_i hz
  simp only [Option.some.injEq] at h
  subst h
  refine ⟨.pointer (some ⟨m.block, m.base + (off + fd.offset), none⟩), ?_, ⟨m, hm, rfl⟩⟩
  simp [Instr.fieldAt, run_und ht, h1, Instr.sureAddr, fieldPlace, run_size hf, hz, addr_add, Nat.add_assoc]
theorem indexA_sound (hE : TysOk E P) {t : TypeId} {x i v : AV} {cx ci : Value} (h : indexA E t x i = some v) (hx : VRel M x cx) (hi : VRel M i ci) : ∃ cv, (Instr.index t cx ci).run P w = .ok cv w ∧ VRel M v cv := by
  unfold indexA at h
  split at h
  case h_2 => cases h
  rename_i ti k n hty
  obtain ⟨ii, d, z, ht⟩ := hE.ty t ti hty
  have hd := ht.desc
  simp only [VRel] at hi
  subst hi
  simp only [ilt_iff] at h
  by_cases h0 : n < 0
  · simp [h0] at h
  simp only [h0, decide_false, cond_false] at h
  have h0' : 0 ≤ n := by omega
  split at h
  · rename_i len e cs hq
    rw [hq] at hd
    simp only [DRel] at hd
    subst hd
    obtain ⟨vs, rfl, r⟩ := hx
    cases hte : E.ty e with
    | none => simp [hte] at h
    | some ei =>
      obtain ⟨_, _, _, he⟩ := hE.ty e ei hte
      simp only [hte, blt_iff] at h
      by_cases hl : n.toNat < len
      · simp only [hl, decide_true, cond_true] at h
        obtain ⟨cv, hr, rv⟩ := partA_sound (w := w) hE r h
        refine ⟨cv, ?_, rv⟩
        have hl' : n < (len : Int) := by omega
        simp [Instr.index, asIntOf, run_und ht, h0', hl', run_size he, hr]
      · simp [hl] at h
  · rename_i s hq
    rw [hq] at hd
    simp only [DRel] at hd
    subst hd
    simp only [VRel] at hx
    subst hx
    cases hn : nth s n.toNat with
    | none => simp [hn] at h
    | some b =>
      simp only [hn, Option.some.injEq] at h
      subst h
      rw [nth_eq] at hn
      refine ⟨.int .u8 b.toNat, ?_, rfl⟩
      have hg : (ByteArray.mk ⟨s⟩)[n.toNat]? = some b := by
        obtain ⟨hlt, he⟩ := List.getElem?_eq_some_iff.1 hn
        have : n.toNat < (ByteArray.mk ⟨s⟩).size := hlt
        rw [getElem?_pos (ByteArray.mk ⟨s⟩) n.toNat this]
        rw [← he]; rfl
      simp [Instr.index, asIntOf, run_und ht, h0', hg]
  · cases h
theorem indexAddrA_sound (hE : TysOk E P) {t : TypeId} {x i v : AV} {cx ci : Value} (h : indexAddrA E t x i = some v) (hx : VRel M x cx) (hi : VRel M i ci) : ∃ cv, (Instr.indexAt t cx ci).run P w = .ok cv w ∧ VRel M v cv := by
  unfold indexAddrA at h
  split at h
  case h_2 => cases h
  rename_i ti k n hty
  obtain ⟨ii, d, z, ht⟩ := hE.ty t ti hty
  have hd := ht.desc
  simp only [VRel] at hi
  subst hi
  simp only [ilt_iff] at h
  by_cases h0 : n < 0
  · simp [h0] at h
  simp only [h0, decide_false, cond_false] at h
  have h0' : 0 ≤ n := by omega
  split at h
  · rename_i len e id off hq
    rw [hq] at hd
    simp only [DRel] at hd
    subst hd
    obtain ⟨m, hm, rfl⟩ := hx
    cases hte : E.ty e with
    | none => simp [hte] at h
    | some ei =>
      obtain ⟨_, _, _, he⟩ := hE.ty e ei hte
      simp only [hte, blt_iff] at h
      by_cases hl : n.toNat < len
      · simp only [hl, decide_true, cond_true, Option.some.injEq] at h
        subst h
        have hl' : n < (len : Int) := by omega
        refine ⟨_, ?_, ⟨m, hm, rfl⟩⟩
        simp [Instr.indexAt, asIntOf, run_und ht, h0', hl', run_size he, Instr.sureAddr, addr_add, Nat.add_assoc]
      · simp [hl] at h
  · rename_i e id off len cap hq
    rw [hq] at hd
    simp only [DRel] at hd
    subst hd
    obtain ⟨m, c, hm, rfl, _⟩ := hx
    cases hte : E.ty e with
    | none => simp [hte] at h
    | some ei =>
      obtain ⟨_, _, _, he⟩ := hE.ty e ei hte
      simp only [hte, blt_iff] at h
      by_cases hl : n.toNat < len
      · simp only [hl, decide_true, cond_true, Option.some.injEq] at h
        subst h
        have hl' : n < (len : Int) := by omega
        refine ⟨_, ?_, ⟨m, hm, rfl⟩⟩
        simp [Instr.indexAt, asIntOf, run_und ht, h0', hl', run_size he, addr_add, Nat.add_assoc]
      · simp [hl] at h
  · cases h
theorem extract_sound {vs : List AV} {i : Nat} {v : AV} {cx : Value} (hx : VRel M (.tup vs) cx) (h : (vs.drop i).head? = some v) : ∃ cv, (Instr.extract cx i).run P w = .ok cv w ∧ VRel M v cv := by
  obtain ⟨us, rfl, r⟩ := hx
  rw [List.head?_drop] at h
  obtain ⟨cv, hc, rv⟩ := r.get i v h
  exact ⟨cv, by simp [Instr.extract, hc], rv⟩
theorem zeroVal_rel {t : Nat} {ti : ATy} {i : TypeInfo} {d : TypeDesc} {z : Value} (ht : TyOk P t ti i d z) {v : AV} (h : typeAssertA.zeroVal ti = some v) : VRel M v z := by
  unfold typeAssertA.zeroVal at h
  have hz := (ht.zrel).mono (List.nil_prefix (l := M))
  cases ha : ti.agg with
  | true =>
    obtain ⟨cs, rfl⟩ := ht.zagg ha
    simp only [ha, cond_true, Option.some.injEq] at h
    subst h
    exact ⟨cs.toList, rfl, by simpa [Value.cells] using hz⟩
  | false =>
    simp only [ha, cond_false] at h
    have h1 := ht.zone ha
    have hc : z.cells.toList = [z] := by cases z <;> simp_all [Value.oneCell', Value.cells]
    rw [hc] at hz
    split at h
    · rename_i y hy
      simp only [Option.some.injEq] at h
      subst h
      rw [hy] at hz
      exact hz.1
    · cases h
theorem typeAssertA_sound (hE : TysOk E P) {t xt : TypeId} {ok : Bool} {x v : AV} {cx : Value} (h : typeAssertA E x t ok = some v) (hx : VRel M x cx) : ∃ cv, (Instr.typeAssert cx xt t ok).run P w = .ok cv w ∧ VRel M v cv := by
  unfold typeAssertA at h
  split at h
  · cases h
  rename_i ti hty
  obtain ⟨i, d, z, ht⟩ := hE.ty t ti hty
  have hd := ht.desc
  have hnf : ti.d ≠ .iface → ∀ ms, d ≠ .interface ms := by
    intro hne ms e
    subst e
    cases hq : ti.d <;> rw [hq] at hd <;> simp_all [DRel]
  have hz : ∀ y, typeAssertA.zeroVal ti = some y → VRel M y z := fun y hy => zeroVal_rel ht hy
  split at h
  · cases h
  · rename_i hni
    have hni' := hnf (fun e => hni e)
    simp only [VRel] at hx
    subst hx
    cases ok with
    | false => simp at h
    | true =>
      simp only [cond_true] at h
      split at h
      case h_2 => cases h
      rename_i y hy
      simp only [Option.some.injEq] at h
      subst h
      refine ⟨.tuple #[z, .bool false], ?_, ⟨[z, .bool false], rfl, hz y hy, rfl, trivial⟩⟩
      cases d <;> first | exact absurd rfl (hni' _) | simp [Instr.typeAssert, run_und ht, run_zero ht]
  · rename_i u y hni
    have hni' := hnf (fun e => hni e)
    obtain ⟨cy, rfl, ry⟩ := hx
    simp only [Bool.cond_eq_ite, Nat.beq_eq] at h
    split at h
    · rename_i hu
      subst hu
      cases ok with
      | false =>
        simp only [Bool.false_eq_true, if_false, Option.some.injEq] at h
        subst h
        refine ⟨cy, ?_, ry⟩
        cases d <;> first | exact absurd rfl (hni' _) | simp [Instr.typeAssert, run_und ht]
      | true =>
        simp only [if_true, Option.some.injEq] at h
        subst h
        refine ⟨.tuple #[cy, .bool true], ?_, ⟨[cy, .bool true], rfl, ry, rfl, trivial⟩⟩
        cases d <;> first | exact absurd rfl (hni' _) | simp [Instr.typeAssert, run_und ht]
    · rename_i hu
      cases ok with
      | false => simp at h
      | true =>
        simp only [if_true] at h
        split at h
        case h_2 => cases h
        rename_i y' hy
        simp only [Option.some.injEq] at h
        subst h
        refine ⟨.tuple #[z, .bool false], ?_, ⟨[z, .bool false], rfl, hz y' hy, rfl, trivial⟩⟩
        cases d <;> first | exact absurd rfl (hni' _) | simp [Instr.typeAssert, run_und ht, run_zero ht, hu]
  · cases h
end
end Go.Vai
end
section
namespace Go.Vai
section
variable {E : Env} {P : Program} {M : List MEnt} {H : AHeap} {w : World}
def ORelO (M : List MEnt) : Option AV → Option Value → Prop
  | none, none => True
  | some a, some v => VRel M a v
  | _, _ => False
theorem bndV_sound {v : AV} {cv : Value} {top r : Nat} {code : BoundsCode} (h : bndV v top = some r) (hv : VRel M v cv) (big : Nat) (hb : top ≤ big) :
    (Instr.sliceBound cv big code).run P w = .ok r w ∧ r ≤ top := by
  unfold bndV at h
  split at h
  case h_2 => cases h
  rename_i k i
  simp only [VRel] at hv
  subst hv
  simp only [ilt_iff, ble_iff] at h
  by_cases h0 : i < 0
  · simp [h0] at h
  · by_cases h1 : i.toNat ≤ top
    · simp only [h0, h1, decide_false, decide_true, cond_false, cond_true, Option.some.injEq] at h
      subst h
      have a : 0 ≤ i := by omega
      have b : i ≤ (big : Int) := by omega
      simp [Instr.sliceBound, asIntOf, a, b, h1]
    · simp [h0, h1] at h
def topOf (mx : Option AV) (big m : Nat) : Nat :=
  match mx with
  | none => big
  | some _ => m
theorem bnds_sound {len cap l h m : Nat} {lo hi mx : Option AV} {clo chi cmx : Option Value} {b : Bool} (hh : bnds len cap lo hi mx = some (l, h, m)) (h1 : ORelO M lo clo) (h2 : ORelO M hi chi) (h3 : ORelO M mx cmx)
    (big : Nat) (hb : cap ≤ big) : (Instr.sliceBounds b len big clo chi cmx).run P w = .ok (l, h, topOf mx big m) w ∧ l ≤ h ∧ m ≤ cap ∧ (mx = none → m = cap) ∧ (hi = none → h = len ∧ mx = none) ∧ (hi ≠ none → h ≤ m) := by
  unfold bnds at hh
  cases mx with
  | none =>
    cases cmx with
    | some _ => exact h3.elim
    | none =>
      simp only at hh
      cases hi with
      | none =>
        cases chi with
        | some _ => exact h2.elim
        | none =>
          simp only at hh
          cases lo with
          | none =>
            cases clo with
            | some _ => exact h1.elim
            | none =>
              simp only [Option.some.injEq, Prod.mk.injEq] at hh
              obtain ⟨rfl, rfl, rfl⟩ := hh
              refine ⟨?_, Nat.zero_le _, Nat.le_refl _, fun _ => rfl, fun _ => ⟨rfl, rfl⟩, fun e => absurd rfl e⟩
              simp [topOf, Instr.sliceBounds]
          | some lv =>
            cases clo with
            | none => exact h1.elim
            | some clv =>
              simp only at hh
              cases hl : bndV lv len with
              | none => simp [hl] at hh
              | some r =>
                simp only [hl, Option.some.injEq, Prod.mk.injEq] at hh
                obtain ⟨rfl, rfl, rfl⟩ := hh
                obtain ⟨a, b'⟩ := bndV_sound (P := P) (w := w) (code := .sliceB) hl h1 len (Nat.le_refl _)
                refine ⟨?_, b', Nat.le_refl _, fun _ => rfl, fun _ => ⟨rfl, rfl⟩, fun e => absurd rfl e⟩
                simp [topOf, Instr.sliceBounds, a]
      | some hv =>
        cases chi with
        | none => exact h2.elim
        | some chv =>
          simp only at hh
          cases hq : bndV hv cap with
          | none => simp [hq] at hh
          | some r =>
            simp only [hq] at hh
            obtain ⟨a, b'⟩ := bndV_sound (P := P) (w := w) (code := if b then .sliceAcap else .sliceAlen) hq h2 big hb
            cases lo with
            | none =>
              cases clo with
              | some _ => exact h1.elim
              | none =>
                simp only [Option.some.injEq, Prod.mk.injEq] at hh
                obtain ⟨rfl, rfl, rfl⟩ := hh
                refine ⟨?_, Nat.zero_le _, Nat.le_refl _, fun _ => rfl, (fun e => by cases e), fun _ => b'⟩
                simp [topOf, Instr.sliceBounds, a]
            | some lv =>
              cases clo with
              | none => exact h1.elim
              | some clv =>
                simp only at hh
                cases hl : bndV lv r with
                | none => simp [hl] at hh
                | some r2 =>
                  simp only [hl, Option.some.injEq, Prod.mk.injEq] at hh
                  obtain ⟨rfl, rfl, rfl⟩ := hh
                  obtain ⟨c, d⟩ := bndV_sound (P := P) (w := w) (code := .sliceB) hl h1 r (Nat.le_refl _)
                  refine ⟨?_, d, Nat.le_refl _, fun _ => rfl, (fun e => by cases e), fun _ => b'⟩
                  simp [topOf, Instr.sliceBounds, a, c]
  | some mv =>
    cases cmx with
    | none => exact h3.elim
    | some cmv =>
      simp only at hh
      cases hm : bndV mv cap with
      | none => simp [hm] at hh
      | some m0 =>
        simp only [hm] at hh
        obtain ⟨am, bm⟩ := bndV_sound (P := P) (w := w) (code := if b then .slice3Acap else .slice3Alen) hm h3 big hb
        cases hi with
        | none => simp at hh
        | some hv =>
          cases chi with
          | none => exact h2.elim
          | some chv =>
            simp only at hh
            cases hq : bndV hv m0 with
            | none => simp [hq] at hh
            | some r =>
              simp only [hq] at hh
              obtain ⟨a, b'⟩ := bndV_sound (P := P) (w := w) (code := .slice3B) hq h2 m0 (Nat.le_refl _)
              cases lo with
              | none =>
                cases clo with
                | some _ => exact h1.elim
                | none =>
                  simp only [Option.some.injEq, Prod.mk.injEq] at hh
                  obtain ⟨rfl, rfl, rfl⟩ := hh
                  refine ⟨?_, Nat.zero_le _, bm, (fun e => by cases e), (fun e => by cases e), fun _ => b'⟩
                  simp [topOf, Instr.sliceBounds, a, am]
              | some lv =>
                cases clo with
                | none => exact h1.elim
                | some clv =>
                  simp only at hh
                  cases hl : bndV lv r with
                  | none => simp [hl] at hh
                  | some r2 =>
                    simp only [hl, Option.some.injEq, Prod.mk.injEq] at hh
                    obtain ⟨rfl, rfl, rfl⟩ := hh
                    obtain ⟨c, d⟩ := bndV_sound (P := P) (w := w) (code := .slice3C) hl h1 r (Nat.le_refl _)
                    refine ⟨?_, d, bm, (fun e => by cases e), (fun e => by cases e), fun _ => b'⟩
                    simp [topOf, Instr.sliceBounds, a, c, am]
theorem extract_mk (s : List UInt8) (l h : Nat) : (ByteArray.mk ⟨s⟩).extract l h = ⟨⟨(s.drop l).take (h - l)⟩⟩ := by
  apply ByteArray.ext
  simp [ByteArray.data_extract, List.extract_toArray]
set_option maxHeartbeats 1000000 in
theorem sliceA_sound (hE : TysOk E P) (hr : HRel M H w) {t : TypeId} {x v : AV} {cx : Value} {lo hi mx : Option AV} {clo chi cmx : Option Value} (h : sliceA E H t x lo hi mx = some v) (hx : VRel M x cx)
    (h1 : ORelO M lo clo) (h2 : ORelO M hi chi) (h3 : ORelO M mx cmx) : ∃ cv, (Instr.sliceAt t cx clo chi cmx).run P w = .ok cv w ∧ VRel M v cv := by
  unfold sliceA at h
  split at h
  · cases h
  rename_i ti hty
  obtain ⟨i, d, z, ht⟩ := hE.ty t ti hty
  have hd := ht.desc
  split at h
  · 
    rename_i s hq
    rw [hq] at hd
    simp only [DRel] at hd; subst hd
    simp only [VRel] at hx; subst hx
    cases mx with
    | some _ => simp at h
    | none =>
      cases cmx with
      | some _ => exact h3.elim
      | none =>
        simp only at h
        split at h
        case h_2 => cases h
        rename_i l hh m hb
        obtain ⟨a, b, c, _, e, f⟩ := bnds_sound (P := P) (w := w) (b := false) hb h1 h2 (show ORelO M none none from trivial) (lenU s) (Nat.le_refl _)
        have hsz : (ByteArray.mk ⟨s⟩).size = lenU s := rfl
        refine ⟨.string ((ByteArray.mk ⟨s⟩).extract l hh), ?_, ?_⟩
        · simp [Instr.sliceAt, Instr.slice, run_und ht, hsz, a]
        · rw [extract_mk]
          cases hi with
          | none =>
            simp only [Option.some.injEq] at h
            subst h
            obtain ⟨rfl, _⟩ := e rfl
            simp only [VRel, lenU]
            congr 3
            rw [List.take_of_length_le (by simp)]
          | some _ => simp only [Option.some.injEq] at h; subst h; rfl
  · 
    rename_i e hq
    rw [hq] at hd
    simp only [DRel] at hd; subst hd
    simp only [VRel] at hx; subst hx
    split at h
    case h_2 => cases h
    rename_i ei r hte hb
    obtain ⟨_, _, _, he⟩ := hE.ty e ei hte
    obtain ⟨l, hh, m⟩ := r
    simp only [Option.some.injEq] at h
    subst h
    obtain ⟨a, b, c, d1, e1, f⟩ := bnds_sound (P := P) (w := w) (b := true) hb h1 h2 h3 0 (Nat.le_refl _)
    have hm : topOf mx 0 m = 0 := by cases mx <;> simp [topOf]; omega
    rw [hm] at a
    have hh0 : hh = 0 := by
      cases hi with
      | none => exact (e1 rfl).1
      | some _ => have := f (by simp); omega
    have hl0 : l = 0 := by omega
    subst hh0; subst hl0
    exact ⟨_, by simp [Instr.sliceAt, Instr.slice, run_und ht, a, run_size he] <;> rfl, rfl⟩
  · 
    rename_i e hq
    rw [hq] at hd
    simp only [DRel] at hd; subst hd
    obtain ⟨ad, c, rfl⟩ := hx
    cases mx with
    | some _ => simp at h
    | none =>
      cases cmx with
      | some _ => exact h3.elim
      | none =>
        simp only at h
        split at h
        case h_2 => cases h
        rename_i ei r hte hb
        obtain ⟨_, _, _, he⟩ := hE.ty e ei hte
        obtain ⟨l, hh, m⟩ := r
        simp only [Option.some.injEq] at h
        subst h
        obtain ⟨a, b, c1, d1, e1, f⟩ := bnds_sound (P := P) (w := w) (b := true) hb h1 h2 (show ORelO M none none from trivial) c (Nat.zero_le _)
        have hh0 : hh = 0 := by
          cases hi with
          | none => exact (e1 rfl).1
          | some _ => have := f (by simp); omega
        have hl0 : l = 0 := by omega
        subst hh0; subst hl0
        simp only [topOf] at a
        by_cases hc : c = 0
        · exact ⟨.slice (some ad) 0 c, by simp [Instr.sliceAt, Instr.slice, run_und ht, a, run_size he] <;> simp [hc], ⟨_, _, rfl⟩⟩
        · exact ⟨.slice (some (ad.add 0)) 0 c, by simp [Instr.sliceAt, Instr.slice, run_und ht, a, run_size he] <;> simp [hc], ⟨_, _, rfl⟩⟩
  · 
    rename_i e id off len c hq
    rw [hq] at hd
    simp only [DRel] at hd; subst hd
    obtain ⟨me, c', hm, rfl, hc, _⟩ := hx
    have := hc c rfl; subst this
    cases hte : E.ty e with
    | none => simp [hte] at h
    | some ei =>
      obtain ⟨_, _, _, he⟩ := hE.ty e ei hte
      simp only [hte] at h
      split at h
      case h_2 => cases h
      rename_i l hh m hb
      simp only [Option.some.injEq] at h
      subst h
      obtain ⟨a, b, c1, d1, e1, f⟩ := bnds_sound (P := P) (w := w) (b := true) hb h1 h2 h3 c' (Nat.le_refl _)
      have hmt : topOf mx c' m = m := by cases mx <;> simp [topOf]; exact (d1 rfl).symm
      rw [hmt] at a
      by_cases hml : m = l
      · refine ⟨.slice (some ⟨me.block, me.base + off, none⟩) (hh - l) (m - l), by simp [Instr.sliceAt, Instr.slice, run_und ht, a, run_size he] <;> simp [hml], ⟨me, m - l, hm, ?_, (fun _ e => by cases e; rfl), (fun e => by cases e)⟩⟩
        simp [hml]
      · refine ⟨.slice (some ⟨me.block, me.base + off + l * ei.size, none⟩) (hh - l) (m - l), by simp [Instr.sliceAt, Instr.slice, run_und ht, a, run_size he, addr_add] <;> simp [hml], ⟨me, m - l, hm, ?_, (fun _ e => by cases e; rfl), (fun e => by cases e)⟩⟩
        simp [beq_iff, hml, Nat.add_assoc]
  · 
    rename_i e id off len hq
    rw [hq] at hd
    simp only [DRel] at hd; subst hd
    obtain ⟨me, c, hm, rfl, _, hcap⟩ := hx
    obtain ⟨hc1, hc2, hc3⟩ := hcap rfl
    split at h
    case h_2 => cases h
    rename_i ei n _ _ gs _ _ _ hte ho
    obtain ⟨_, _, _, he⟩ := hE.ty e ei hte
    obtain ⟨cur, e', lo', hi', g1, g2, g3, g4, _, _, _⟩ := hr.blk ho hm
    obtain ⟨k1, k2, k3⟩ := g4 gs rfl
    simp only [Bool.cond_eq_ite] at h
    split at h
    case isFalse => cases h
    rename_i hcond
    simp only [Bool.and_eq_true, Nat.beq_eq, Bool.not_eq_true', Nat.ble_eq] at hcond
    obtain ⟨q1, q2, q3⟩ := hcond
    have q2' : gs ≠ 0 := Nat.ne_of_beq_eq_false q2
    have hle : (n - off) / gs ≤ c := by
      rw [Nat.div_le_iff_le_mul_add_pred (by omega)]
      have : n ≤ off + c * gs := by rw [← k1, hc2, k2]; rw [k3] at g3; omega
      have hcm : gs * c = c * gs := Nat.mul_comm _ _
      omega
    have hlen : len ≤ (n - off) / gs := by
      rw [Nat.le_div_iff_mul_le (by omega)]; omega
    have hmul : (n - off) / gs * gs ≤ n - off := Nat.div_mul_le_self _ _
    split at h
    case h_2 => cases h
    rename_i l hh m hb
    obtain ⟨a, b, c1, d1, e1, f⟩ := bnds_sound (P := P) (w := w) (b := true) hb h1 h2 h3 c hle
    have hhm : hh ≤ (n - off) / gs := by
      cases hi with
      | none => rw [(e1 rfl).1]; exact hlen
      | some _ => have := f (by simp); omega
    cases mx with
    | none =>
      simp only [topOf] at a
      simp only at h
      have hlc : l ≤ c := by omega
      have hsub : (c - l) * gs = c * gs - l * gs := Nat.sub_mul _ _ _
      have hlg : l * gs ≤ c * gs := Nat.mul_le_mul_right _ hlc
      split at h
      · rename_i hcc
        simp only [Option.some.injEq] at h
        subst h
        simp only [Bool.or_eq_true, Nat.beq_eq, blt_iff, decide_eq_true_eq] at hcc
        by_cases hml : c = l
        · have hl0 : l = 0 := by
            rcases hcc with hcc | hcc
            · exfalso
              rw [k3] at g3
              have : off + l * gs < off + c * gs := by rw [← k1] at *; omega
              rw [hml] at this; omega
            · exact hcc
          refine ⟨.slice (some ⟨me.block, me.base + off, none⟩) (hh - l) (c - l), by simp [Instr.sliceAt, Instr.slice, run_und ht, a, run_size he] <;> simp [hml], ⟨me, c - l, hm, ?_, (fun _ e => by cases e), fun _ => ⟨by omega, ?_, by omega⟩⟩⟩
          · simp [hl0]
          · rw [k1] at hc2 ⊢; omega
        · refine ⟨.slice (some ⟨me.block, me.base + off + l * ei.size, none⟩) (hh - l) (c - l), by simp [Instr.sliceAt, Instr.slice, run_und ht, a, run_size he, addr_add] <;> simp [hml], ⟨me, c - l, hm, ?_, (fun _ e => by cases e), fun _ => ⟨by omega, ?_, by omega⟩⟩⟩
          · rw [q1]; simp [Nat.add_assoc]
          · rw [k1] at hc2 ⊢; omega
      · rename_i hcc
        simp only [Option.some.injEq] at h
        subst h
        simp only [Bool.or_eq_true, Nat.beq_eq, blt_iff, decide_eq_true_eq, not_or] at hcc
        have hh1 : hh * gs ≤ (n - off) / gs * gs := Nat.mul_le_mul_right _ hhm
        have hhl : hh = l := by
          rcases Nat.lt_or_ge l hh with hlt | hge
          · exfalso
            have : (l + 1) * gs ≤ hh * gs := Nat.mul_le_mul_right _ hlt
            rw [Nat.add_mul] at this
            omega
          · omega
        subst hhl
        by_cases hml : c = hh
        · exact ⟨.slice (some ⟨me.block, me.base + off, none⟩) (hh - hh) (c - hh), by simp [Instr.sliceAt, Instr.slice, run_und ht, a, run_size he] <;> simp [hml], ⟨_, c - hh, by rw [Nat.sub_self]⟩⟩
        · exact ⟨.slice (some ⟨me.block, me.base + off + hh * ei.size, none⟩) (hh - hh) (c - hh), by simp [Instr.sliceAt, Instr.slice, run_und ht, a, run_size he, addr_add] <;> simp [hml], ⟨_, c - hh, by rw [Nat.sub_self]⟩⟩
    | some mv =>
      simp only [topOf] at a
      simp only [Option.some.injEq] at h
      subst h
      by_cases hml : m = l
      · refine ⟨.slice (some ⟨me.block, me.base + off, none⟩) (hh - l) (m - l), by simp [Instr.sliceAt, Instr.slice, run_und ht, a, run_size he] <;> simp [hml], ⟨me, m - l, hm, ?_, (fun _ e => by cases e; rfl), (fun e => by cases e)⟩⟩
        simp [hml]
      · refine ⟨.slice (some ⟨me.block, me.base + off + l * ei.size, none⟩) (hh - l) (m - l), by simp [Instr.sliceAt, Instr.slice, run_und ht, a, run_size he, addr_add] <;> simp [hml], ⟨me, m - l, hm, ?_, (fun _ e => by cases e; rfl), (fun e => by cases e)⟩⟩
        simp [beq_iff, hml, Nat.add_assoc, q1]
  · 
    rename_i n e id off hq
    rw [hq] at hd
    simp only [DRel] at hd; subst hd
    obtain ⟨me, hm, rfl⟩ := hx
    cases hte : E.ty e with
    | none => simp [hte] at h
    | some ei =>
      obtain ⟨_, _, _, he⟩ := hE.ty e ei hte
      simp only [hte] at h
      split at h
      case h_2 => cases h
      rename_i l hh m hb
      simp only [Option.some.injEq] at h
      subst h
      obtain ⟨a, b, c1, d1, e1, f⟩ := bnds_sound (P := P) (w := w) (b := false) hb h1 h2 h3 n (Nat.le_refl _)
      have hmt : topOf mx n m = m := by cases mx <;> simp [topOf]; exact (d1 rfl).symm
      rw [hmt] at a
      by_cases hml : m = l
      · refine ⟨.slice (some ⟨me.block, me.base + off, none⟩) (hh - l) (m - l), by simp [Instr.sliceAt, run_und ht, Instr.sureAddr, a, run_size he] <;> simp [hml], ⟨me, m - l, hm, ?_, (fun _ e => by cases e; rfl), (fun e => by cases e)⟩⟩
        simp [hml]
      · refine ⟨.slice (some ⟨me.block, me.base + off + l * ei.size, none⟩) (hh - l) (m - l), by simp [Instr.sliceAt, run_und ht, Instr.sureAddr, a, run_size he, addr_add] <;> simp [hml], ⟨me, m - l, hm, ?_, (fun _ e => by cases e; rfl), (fun e => by cases e)⟩⟩
        simp [beq_iff, hml, Nat.add_assoc]
  · cases h
end
end Go.Vai
end
section
namespace Go.Vai
section
variable {E : Env} {P : Program} {M : List MEnt} {H : AHeap} {w : World}
theorem lenA_sound {x : AV} {cx : Value} {m : Nat} (h : lenA x = some m) (hx : VRel M x cx) : (Builtin.lenOf cx).run P w = .ok m w := by
  cases x <;> simp only [lenA, Option.some.injEq] at h <;> first | (cases h; done) | skip
  · simp only [VRel] at hx; subst hx; subst h; rfl
  · simp only [VRel] at hx; subst hx; subst h; rfl
  · obtain ⟨_, _, _, rfl, _⟩ := hx; subst h; rfl
  · obtain ⟨_, _, rfl⟩ := hx; subst h; rfl
theorem byteAV_rel (s : List UInt8) : VRels M (s.map byteAV) (s.map fun b => Value.int .u8 b.toNat) := by
  induction s with
  | nil => trivial
  | cons b s ih => exact ⟨rfl, ih⟩
theorem sliceCells_sound (hr : HRel M H w) {es n : Nat} {x : AV} {cx : Value} {cs : List AV} (h : sliceCells H es n x = some cs) (hx : VRel M x cx) (hl : ∃ m, lenA x = some m ∧ n ≤ m) :
    ∃ vs, (Builtin.firstCells es n cx).run P w = .ok (List.toArray vs) w ∧ VRels M cs vs ∧ cs.length = n * es := by
  obtain ⟨m, hm, hnm⟩ := hl
  cases x <;> simp only [sliceCells] at h <;> first | (cases h; done) | skip
  case str s =>
    simp only [Bool.cond_eq_ite, Nat.beq_eq] at h
    split at h
    case isFalse => cases h
    rename_i h1
    subst h1
    simp only [Option.some.injEq] at h
    simp only [VRel] at hx
    subst hx; subst h
    simp only [lenA, Option.some.injEq] at hm
    refine ⟨(s.take n).map fun b => Value.int .u8 b.toNat, ?_, byteAV_rel _, by simp [lenU] at hm ⊢; omega⟩
    simp only [Builtin.firstCells, Sem.run_pure]
    rw [extract_mk]
    simp
  case nils =>
    simp only [Option.some.injEq] at h
    simp only [VRel] at hx
    subst hx; subst h
    simp only [lenA, Option.some.injEq] at hm
    have : n = 0 := by omega
    subst this
    exact ⟨[], by simp [Builtin.firstCells], trivial, by simp⟩
  case sl id off len cap =>
    obtain ⟨me, c, hme, rfl, _⟩ := hx
    cases ho : H.get id with
    | none => simp [ho] at h
    | some o =>
      cases o <;> simp only [ho] at h <;> first | (cases h; done) | skip
      obtain ⟨cur, e', lo, hi, vs, g1, g2, g3, g4⟩ := (hr.blk ho hme).vals h
      refine ⟨vs, ?_, g2, by rw [g2.length, g3]⟩
      have := run_loadCells' (P := P) (off := me.base + off) g1 vs g4
      rw [g3] at this
      simp [Builtin.firstCells, this]
  case sl0 =>
    obtain ⟨a, c, rfl⟩ := hx
    simp only [Bool.cond_eq_ite, Nat.beq_eq] at h
    split at h
    · rename_i hn
      subst hn
      simp only [Option.some.injEq] at h
      subst h
      exact ⟨[], by simp [Builtin.firstCells, loadCells, loadCellsFrom], trivial, by simp⟩
    · cases h
theorem growBy_le (newLen c : Nat) : Builtin.growBy newLen 4 c ≤ 3 * c + 1200 := by
  unfold Builtin.growBy Builtin.growBy Builtin.growBy Builtin.growBy Builtin.growBy
  (repeat' split) <;> omega
theorem nextcap_le (need cap : Nat) (h : cap < need) : Builtin.nextslicecap need cap ≤ 3 * need + 1200 := by
  unfold Builtin.nextslicecap
  split
  · omega
  · split
    · omega
    · have := growBy_le need cap; omega
theorem growBy_le' (newLen c : Nat) (h : c < newLen) : Builtin.growBy newLen 4 c ≤ newLen + (newLen + 768) / 4 := by
  unfold Builtin.growBy Builtin.growBy Builtin.growBy Builtin.growBy Builtin.growBy
  (repeat' split) <;> omega
theorem nextcap_le' (need cap : Nat) (h : cap < need) : Builtin.nextslicecap need cap ≤ need + (need + 768) / 4 + 512 := by
  unfold Builtin.nextslicecap
  split
  · omega
  · split
    · omega
    · have := growBy_le' need cap h; omega
theorem roomy_cases {need b : Nat} (h : roomy need b = true) : (need + 1) * (b + 1) ≤ 68719476736 ∨ (b ≤ 1000 ∧ (need + 1) * (b + 1) ≤ 211106232532992) := by
  simpa only [roomy, Bool.or_eq_true, Bool.and_eq_true, Nat.ble_eq] using h
theorem room_ok {need cap b : Nat} (h : roomy need b = true) (hc : cap < need) : ¬ (Builtin.nextslicecap need cap * b > 2 ^ 48) := by
  rcases roomy_cases h with h | ⟨hb, h⟩
  case inr =>
    have h1 := nextcap_le' need cap hc
    have h2 : 4 * (Builtin.nextslicecap need cap * b) ≤ (5 * need + 2816) * b := by
      rw [← Nat.mul_assoc]
      exact Nat.mul_le_mul_right _ (by omega)
    have h3 : (5 * need + 2816) * b ≤ 5 * ((need + 1) * (b + 1)) + 2816 * b := by
      have : need * b ≤ (need + 1) * (b + 1) := Nat.mul_le_mul (by omega) (by omega)
      rw [Nat.add_mul, Nat.mul_assoc]; omega
    have h5 : (2 : Nat) ^ 48 = 281474976710656 := by decide
    omega
  have h1 := nextcap_le need cap hc
  have h2 : Builtin.nextslicecap need cap * b ≤ (3 * need + 1200) * b := Nat.mul_le_mul_right _ h1
  have h3 : (3 * need + 1200) * b ≤ (1200 * (need + 1)) * (b + 1) := Nat.mul_le_mul (by omega) (by omega)
  have h4 : (1200 * (need + 1)) * (b + 1) = 1200 * ((need + 1) * (b + 1)) := Nat.mul_assoc _ _ _
  have h5 : (2 : Nat) ^ 48 = 281474976710656 := by decide
  omega
theorem room_small {need b : Nat} (h : roomy need b = true) : need ≤ 211106232532992 := by
  replace h := roomy_cases h
  have : (need + 1) * 1 ≤ (need + 1) * (b + 1) := Nat.mul_le_mul_left _ (by omega)
  omega
theorem zeroCells_size (z : Array Value) (n : Nat) : (Builtin.zeroCells z n).size = n * z.size := by simp [Builtin.zeroCells]
set_option maxHeartbeats 1000000 in
theorem run_append_fits' {t xt : TypeId} {ty : TypeId} {ti xi ei : ATy} {i1 i2 i3 : TypeInfo} {d1 d2 d3 : TypeDesc} {z1 z2 z3 : Value} {e : Nat} (ht : TyOk P t ti i1 d1 z1) (hd : d1 = .slice e) (hx : TyOk P xt xi i2 d2 z2) (hxi : (∃ e2, d2 = .slice e2) ∨ d2 = .string)
    (he : TyOk P e ei i3 d3 z3) {rest : List TypeId} {base : Option Addr} {len cap m : Nat} {x : Value} {vs : List Value} (hlen : (Builtin.lenOf x).run P w = .ok m w) (hcs : (Builtin.firstCells ei.size m x).run P w = .ok (List.toArray vs) w)
    (hfit : len + m ≤ cap) {w' : World} (hst : (match base with | some a => storeCells (a.add (len * ei.size)) vs | none => pure ()).run P w = .ok () w') :
    (Builtin.append_ (List.toArray (t :: xt :: rest)) ty #[.slice base len cap, x]).run P w = .ok (.slice base (len + m) cap) w' := by
  subst hd
  cases base with
  | none =>
    simp only [Sem.run_pure, Result.ok.injEq, true_and] at hst
    subst hst
    rcases hxi with ⟨_, rfl⟩ | rfl <;> simp [Builtin.append_, run_und ht, run_und hx, run_size he, hlen, hcs, hfit]
  | some a =>
    rcases hxi with ⟨_, rfl⟩ | rfl <;> simp [Builtin.append_, run_und ht, run_und hx, run_size he, hlen, hcs, hfit, hst]
set_option maxHeartbeats 1000000 in
theorem run_append_grows' {t xt : TypeId} {ty : TypeId} {ti xi ei : ATy} {i1 i2 i3 : TypeInfo} {d1 d2 d3 : TypeDesc} {z1 z2 z3 : Value} {e : Nat} (ht : TyOk P t ti i1 d1 z1) (hd : d1 = .slice e) (hx : TyOk P xt xi i2 d2 z2) (hxi : (∃ e2, d2 = .slice e2) ∨ d2 = .string)
    (he : TyOk P e ei i3 d3 z3) {rest : List TypeId} {base : Option Addr} {len cap m : Nat} {x : Value} {vs olds : List Value} (hlen : (Builtin.lenOf x).run P w = .ok m w)
    (hcs : (Builtin.firstCells ei.size m x).run P w.drew = .ok (List.toArray vs) w.drew) (hold : (Builtin.firstCells ei.size len (.slice base len cap)).run P w.drew = .ok (List.toArray olds) w.drew)
    (hfit : cap < len + m) (hroom : roomy (len + m) ei.bytes = true) :
    ∃ (rest' : List Value) (nc : Nat), (Builtin.append_ (List.toArray (t :: xt :: rest)) ty #[.slice base len cap, x]).run P w = .ok (.slice (some ⟨w.heap.size, 0, none⟩) (len + m) nc) (w.drew.alloc (.cells (olds ++ vs ++ rest').toArray e)) ∧
      len + m ≤ nc ∧ rest'.length = (nc - (len + m)) * ei.size := by
  subst hd
  have hsmall := room_small hroom
  have hro := room_ok hroom hfit
  rw [← he.bytes] at hro
  have hng : ¬ (len + m ≤ cap) := by omega
  refine ⟨(Builtin.zeroCells z3.cells (w.tape w.drawn (.appendCap (len + m) cap e) % (2 ^ 63 - (len + m)))).toList, (len + m) + w.tape w.drawn (.appendCap (len + m) cap e) % (2 ^ 63 - (len + m)), ?_, by omega, ?_⟩
  · have hmax' : ¬ (9223372036854775807 < (len : Int) + (m : Int)) := by omega
    rcases hxi with ⟨_, rfl⟩ | rfl
    all_goals
      simp [Builtin.append_, run_und ht, run_und hx, run_size he, hlen, hng, hmax', run_info he, hro, Question.forced, Question.cut, hcs, hold, run_zero he, newRow]
      congr 2
      apply Array.ext'
      simp
  · simp [zeroCells_size, he.zlen]
theorem grown_drew_push (w : World) (o : Obj) : w.grownBy (w.drew.alloc o) none :=
  ⟨rfl, rfl, rfl, by simp, fun k hk _ => by
    show (w.heap.push o)[k]? = w.heap[k]?
    simp [Array.getElem?_push, Nat.ne_of_lt hk]⟩
theorem newGrow_sound (hr : HRel M H w) (e : TypeId) {es n nc : Nat} {cs : List AV} {vs rest : List Value} (h : VRels M cs vs) (hl : cs.length = n * es) (hnc : n ≤ nc) (hrest : rest.length = (nc - n) * es) {w' : World}
    (hg : w.grownBy w' none) (hw : w'.heap[w.heap.size]? = some (.cells (vs ++ rest).toArray e)) (mk : Bool) :
    HRel (M ++ [⟨w.heap.size, 0, nc * es, es⟩]) (H.new (.cells (n * es) (Tr.nil.putAll 0 cs) e (some es) 0 false mk)) w' ∧
    Ext M H w (M ++ [⟨w.heap.size, 0, nc * es, es⟩]) (H.new (.cells (n * es) (Tr.nil.putAll 0 cs) e (some es) 0 false mk)) w' := by
  have hvl : vs.length = n * es := by rw [← h.length, hl]
  have htot : (vs ++ rest).length = nc * es := by
    rw [List.length_append, hvl, hrest, ← Nat.add_mul]; congr 1; omega
  refine hr.new hg _ _ (Nat.le_refl _) ⟨(vs ++ rest).toArray, e, 0, 0, hw, fun _ => ⟨rfl, rfl⟩, ?_, fun gs eg => ⟨by cases eg; rfl, by simp only [List.size_toArray]; exact htot.symm, rfl⟩, fun _ i a b => by omega, fun _ _ => ⟨Nat.zero_le _, Nat.le_refl _⟩, ?_⟩
  · simp only [List.size_toArray, htot, Nat.zero_add]; exact Nat.mul_le_mul_right _ hnc
  · intro i v hv
    rcases Tr.get_putAll _ hv with ⟨q, rfl, hq⟩ | ⟨_, hu⟩
    · obtain ⟨x, hx, r⟩ := h.get q v hq
      have hlt := (List.getElem?_eq_some_iff.1 hq).1
      refine ⟨by omega, x, ?_, r.mono (List.prefix_append _ _)⟩
      simp only [Nat.zero_add, List.getElem?_toArray]
      rw [List.getElem?_append_left (by omega)]
      exact hx
    · simp [Tr.get_nil] at hu
theorem append_push (vs rest : List Value) (w : World) (e : TypeId) : (w.drew.alloc (.cells (vs ++ rest).toArray e)).heap[w.heap.size]? = some (.cells (vs ++ rest).toArray e) := by
  show (w.heap.push _)[w.heap.size]? = _
  simp
theorem rep_len (z : List AV) : ∀ n, (rep z n).length = n * z.length
  | 0 => by simp [rep]
  | n + 1 => by simp [rep, rep_len z n, Nat.add_mul]; omega
theorem rep_rel {zs : List AV} {z : Array Value} (h : VRels M zs z.toList) : ∀ n, VRels M (rep zs n) (((Array.range (n * z.size)).map (z[· % z.size]!)).toList) := by
  intro n
  by_cases h0 : z.size = 0
  · have : zs = [] := List.eq_nil_of_length_eq_zero (by rw [h.length]; simpa using h0)
    subst this
    have hr : ∀ k, rep ([] : List AV) k = [] := fun k => by induction k <;> simp_all [rep]
    rw [hr, h0]
    simp
    trivial
  · refine VRels.of (by simp [rep_len, h.length]) fun i a v ha hv => ?_
    have hi : i < n * z.size := by
      have := (List.getElem?_eq_some_iff.1 ha).1
      rw [rep_len, h.length] at this
      simpa using this
    have key : ∀ n i, i < n * z.size → (rep zs n)[i]? = zs[i % z.size]? := by
      intro n
      induction n with
      | zero => intro i hi; simp at hi
      | succ n ih =>
        intro i hi
        have hzl : zs.length = z.size := by rw [h.length]; simp
        simp only [rep]
        by_cases hlt : i < z.size
        · rw [List.getElem?_append_left (by omega), Nat.mod_eq_of_lt hlt]
        · rw [Nat.add_mul] at hi
          rw [List.getElem?_append_right (by omega), hzl, ih (i - z.size) (by omega)]
          rw [← Nat.mod_eq_sub_mod (by omega)]
    rw [key n i hi] at ha
    obtain ⟨x, hx, r⟩ := h.get _ _ ha
    rw [Array.getElem?_toList] at hv hx
    simp only [Array.getElem?_map, Array.getElem?_range, hi, if_true, Option.map_some, Option.some.injEq] at hv
    rw [getElem!_def, hx] at hv
    simp only at hv
    rw [← hv]; exact r
theorem wrap_small {n : Int} (h0 : 0 ≤ n) (h1 : n < 9223372036854775808) : IntKind.i64.wrap n = n := by
  exact IntWalk.i64_in _ (by omega)
theorem zeros_room {m b s : Nat} {ib : Nat} (h : roomy m (b + s) = true) (hb : ib = b) : IntKind.i64.wrap (m : Int) = m ∧ ¬ ((281474976710656 : Int) < (m : Int) * (ib : Int)) := by
  have hs := room_small h
  refine ⟨wrap_small (by omega) (by omega), ?_⟩
  subst hb
  replace h := roomy_cases h
  have h2 : m * ib ≤ (m + 1) * (ib + s + 1) := Nat.mul_le_mul (by omega) (by omega)
  have h3 : ((m * ib : Nat) : Int) ≤ 211106232532992 := by omega
  push_cast at h3
  omega
set_option maxHeartbeats 1000000 in
theorem run_append_fitsZ {t xt : TypeId} {ty : TypeId} {ti xi ei : ATy} {i1 i2 i3 : TypeInfo} {d1 d3 : TypeDesc} {z1 z2 z3 : Value} {e : Nat} {k kx : IntKind} (ht : TyOk P t ti i1 d1 z1) (hd : d1 = .slice e) (hx : TyOk P xt xi i2 (.int k) z2)
    (he : TyOk P e ei i3 d3 z3) {rest : List TypeId} {base : Option Addr} {len cap m : Nat} (hroom : roomy m (ei.bytes + ei.size) = true)
    (hfit : len + m ≤ cap) {w' : World} (hst : (match base with | some a => storeCells (a.add (len * ei.size)) (Builtin.zeroCells z3.cells m).toList | none => pure ()).run P w = .ok () w') :
    (Builtin.append_ (List.toArray (t :: xt :: rest)) ty #[.slice base len cap, .int kx m]).run P w = .ok (.slice base (len + m) cap) w' := by
  subst hd
  obtain ⟨wm, hb⟩ := zeros_room hroom he.bytes
  have hn : ¬ ((m : Int) < 0) := by omega
  have zz : m * ei.size = 0 → Builtin.zeroCells z3.cells m = #[] := fun h0 => Array.eq_empty_of_size_eq_zero (by rw [zeroCells_size, he.zlen, h0])
  cases base with
  | none =>
    simp only [Sem.run_pure, Result.ok.injEq, true_and] at hst
    subst hst
    by_cases h0 : m * ei.size = 0
    · simp [Builtin.append_, run_und ht, run_und hx, run_size he, run_info he, asInt, asIntOf, wm, hb, hn, hfit, h0]
    · simp [Builtin.append_, run_und ht, run_und hx, run_size he, run_info he, asInt, asIntOf, wm, hb, hn, hfit, run_zero he]
  | some a =>
    by_cases h0 : m * ei.size = 0
    · rw [zz h0] at hst
      simp only [] at hst
      simp [Builtin.append_, run_und ht, run_und hx, run_size he, run_info he, asInt, asIntOf, wm, hb, hn, hfit, h0, hst]
    · simp [Builtin.append_, run_und ht, run_und hx, run_size he, run_info he, asInt, asIntOf, wm, hb, hn, hfit, h0, run_zero he, hst]
set_option maxHeartbeats 1000000 in
theorem run_append_growsZ {t xt : TypeId} {ty : TypeId} {ti xi ei : ATy} {i1 i2 i3 : TypeInfo} {d1 d3 : TypeDesc} {z1 z2 z3 : Value} {e : Nat} {k kx : IntKind} (ht : TyOk P t ti i1 d1 z1) (hd : d1 = .slice e) (hx : TyOk P xt xi i2 (.int k) z2)
    (he : TyOk P e ei i3 d3 z3) {rest : List TypeId} {base : Option Addr} {len cap m : Nat} {olds : List Value} (hroomZ : roomy m (ei.bytes + ei.size) = true)
    (hold : (Builtin.firstCells ei.size len (.slice base len cap)).run P w.drew = .ok (List.toArray olds) w.drew)
    (hfit : cap < len + m) (hroom : roomy (len + m) ei.bytes = true) :
    ∃ (rest' : List Value) (nc : Nat), (Builtin.append_ (List.toArray (t :: xt :: rest)) ty #[.slice base len cap, .int kx m]).run P w = .ok (.slice (some ⟨w.heap.size, 0, none⟩) (len + m) nc) (w.drew.alloc (.cells (olds ++ (Builtin.zeroCells z3.cells m).toList ++ rest').toArray e)) ∧
      len + m ≤ nc ∧ rest'.length = (nc - (len + m)) * ei.size := by
  subst hd
  obtain ⟨wm, hb⟩ := zeros_room hroomZ he.bytes
  have hn : ¬ ((m : Int) < 0) := by omega
  have hsmall := room_small hroom
  have hro := room_ok hroom hfit
  rw [← he.bytes] at hro
  have hng : ¬ (len + m ≤ cap) := by omega
  have zz : m * ei.size = 0 → Builtin.zeroCells z3.cells m = #[] := fun h0 => Array.eq_empty_of_size_eq_zero (by rw [zeroCells_size, he.zlen, h0])
  refine ⟨(Builtin.zeroCells z3.cells (w.tape w.drawn (.appendCap (len + m) cap e) % (2 ^ 63 - (len + m)))).toList, (len + m) + w.tape w.drawn (.appendCap (len + m) cap e) % (2 ^ 63 - (len + m)), ?_, by omega, ?_⟩
  · have hmax' : ¬ (9223372036854775807 < (len : Int) + (m : Int)) := by omega
    by_cases h0 : m * ei.size = 0
    · simp [Builtin.append_, run_und ht, run_und hx, run_size he, hng, hmax', run_info he, hro, Question.forced, Question.cut, hold, run_zero he, newRow, asInt, asIntOf, wm, hb, hn, zz h0]
      try (congr 2; apply Array.ext'; simp)
    · simp [Builtin.append_, run_und ht, run_und hx, run_size he, hng, hmax', run_info he, hro, Question.forced, Question.cut, hold, run_zero he, newRow, asInt, asIntOf, wm, hb, hn, h0]
      try (congr 2; apply Array.ext'; simp)
  · simp [zeroCells_size, he.zlen]
set_option maxHeartbeats 2000000 in
theorem appendCells_sound (hr : HRel M H w) {t xt ty : TypeId} {rest : List TypeId} {ei : ATy} {e m : Nat} {news : List AV} {vs vs' : List Value} {s v : AV} {H' : AHeap} {cs cx : Value} (hes : ei.size ≠ 0)
    (h : appendCells H e ei.size ei.bytes m news s = some (v, H')) (hs : VRel M s cs) (f2 : VRels M news vs) (f2' : VRels M news vs') (f3 : news.length = m * ei.size)
    (hF : ∀ {base : Option Addr} {len cap : Nat} {w' : World}, len + m ≤ cap → (match base with | some a => storeCells (a.add (len * ei.size)) vs | none => pure ()).run P w = .ok () w' →
      (Builtin.append_ (List.toArray (t :: xt :: rest)) ty #[.slice base len cap, cx]).run P w = .ok (.slice base (len + m) cap) w')
    (hG : ∀ {base : Option Addr} {len cap : Nat} {olds : List Value}, (Builtin.firstCells ei.size len (.slice base len cap)).run P w.drew = .ok (List.toArray olds) w.drew → cap < len + m → roomy (len + m) ei.bytes = true →
      ∃ (rest' : List Value) (nc : Nat), (Builtin.append_ (List.toArray (t :: xt :: rest)) ty #[.slice base len cap, cx]).run P w = .ok (.slice (some ⟨w.heap.size, 0, none⟩) (len + m) nc) (w.drew.alloc (.cells (olds ++ vs' ++ rest').toArray e)) ∧
      len + m ≤ nc ∧ rest'.length = (nc - (len + m)) * ei.size) :
    ∃ cv w' M', (Builtin.append_ (List.toArray (t :: xt :: rest)) ty #[cs, cx]).run P w = .ok cv w' ∧ Ext M H w M' H' w' ∧ HRel M' H' w' ∧ VRel M' v cv := by
  have hvl : vs.length = m * ei.size := by rw [← f2.length, f3]
  cases s <;> simp only [appendCells] at h <;> first | (cases h; done) | skip
  case nils =>
    simp only [VRel] at hs
    subst hs
    simp only [Bool.cond_eq_ite, Nat.beq_eq] at h
    split at h
    · rename_i hm0
      subst hm0
      simp only [Option.some.injEq, Prod.mk.injEq] at h
      obtain ⟨rfl, rfl⟩ := h
      exact ⟨_, w, M, hF (Nat.le_refl _) rfl, Ext.refl _ _ _, hr, rfl⟩
    · rename_i hm0
      split at h
      case isFalse => cases h
      rename_i hroom
      simp only [Option.some.injEq, Prod.mk.injEq] at h
      obtain ⟨rfl, rfl⟩ := h
      obtain ⟨rest', nc, hrun, hnc, hrl⟩ := hG (base := none) (len := 0) (cap := 0) (olds := []) (by simp [Builtin.firstCells]) (by omega) (by simpa using hroom)
      rw [List.nil_append] at hrun
      simp only [Nat.zero_add] at hrun hnc hrl
      obtain ⟨g1, g2⟩ := newGrow_sound hr e f2' f3 hnc hrl (grown_drew_push w _) (append_push vs' rest' w e) false
      exact ⟨_, _, _, hrun, g2, g1, ⟨_, nc, newAt hr _, by simp, (fun _ e => by cases e), fun _ => ⟨hnc, by simp, by show 0 < ei.size; omega⟩⟩⟩
  case sl id off len cap =>
    obtain ⟨me, c, hme, rfl, hc, hcn⟩ := hs
    cases cap with
    | some c0 =>
      have := hc c0 rfl; subst this
      simp only [Bool.cond_eq_ite, Nat.ble_eq] at h
      split at h
      · rename_i hfit
        split at h
        · rename_i hm0
          simp only [Nat.beq_eq] at hm0
          subst hm0
          simp only [Option.some.injEq, Prod.mk.injEq] at h
          obtain ⟨rfl, rfl⟩ := h
          have hv0 : vs = [] := List.eq_nil_of_length_eq_zero (by simpa using hvl)
          subst hv0
          exact ⟨_, w, M, hF hfit (by simp [storeCells]), Ext.refl _ _ _, hr, ⟨me, c, hme, rfl, fun _ e => by cases e; rfl, (fun e => by cases e)⟩⟩
        · split at h
          case h_2 => cases h
          rename_i n c0 e0 g fz ro mk ho
          split at h
          case isFalse => cases h
          rename_i hcond
          simp only [Bool.and_eq_true, Nat.ble_eq, Bool.not_eq_true'] at hcond
          obtain ⟨q1, q2, rfl, q4⟩ := hcond
          simp only [Option.some.injEq, Prod.mk.injEq] at h
          obtain ⟨rfl, rfl⟩ := h
          obtain ⟨cur, e', lo, hi, k1, k2, k3, k4, k5, k6, k7⟩ := hr.blk ho hme
          obtain ⟨rfl, hb0⟩ := k2 rfl
          rw [Nat.add_mul] at q1
          obtain ⟨w', cur', hrun, j1, j2, j3, j4⟩ := run_storeCells' (P := P) (me.base + off + len * ei.size) vs 0 cur w k1 (by rw [hvl]; omega)
            (fun k hk hk2 hx => by have := k5 rfl k hx.1 hx.2 (by rw [hvl] at hk2; omega); omega) (VRels.ones f2 q4)
          refine ⟨_, w', M, hF hfit (by simpa [addr_add] using hrun), ?_⟩
          have hO : ORel M me w' (.cells n (c0.putAll (off + len * ei.size) news) e' g fz false mk) := by
            refine ⟨cur', e', lo, hi, j1, fun _ => ⟨rfl, hb0⟩, by rw [j2]; exact k3, fun gs e => by rw [j2]; exact k4 gs e,
            fun _ i a b cc => k5 rfl i a b (by rw [← j2]; exact cc), fun a b => by rw [j2]; exact k6 a b, ?_⟩
            intro j u hu
            rcases Tr.get_putAll _ hu with ⟨q, rfl, hq⟩ | ⟨hj, hu⟩
            · obtain ⟨x, hx, r⟩ := f2.get q u hq
              have hql : q < m * ei.size := by rw [← f3]; exact (List.getElem?_eq_some_iff.1 hq).1
              refine ⟨by omega, x, ?_, r⟩
              rw [j3, if_pos (by rw [hvl]; omega)]
              rw [show me.base + (off + len * ei.size + q) - (me.base + off + len * ei.size + 0) = q from by omega]
              exact hx
            · obtain ⟨a, x, hx, r⟩ := k7 j u hu
              refine ⟨a, x, ?_, r⟩
              rw [j3, if_neg (by rw [hvl]; rw [f3] at hj; omega)]
              exact hx
          obtain ⟨r1, r2⟩ := hr.put ho rfl hme j4 _ hO
          exact ⟨r2, r1, ⟨me, c, hme, rfl, fun _ e => by cases e; rfl, (fun e => by cases e)⟩⟩
      · rename_i hfit
        split at h
        case isFalse => cases h
        rename_i hroom
        split at h
        case h_2 => cases h
        rename_i olds hol
        simp only [Option.some.injEq, Prod.mk.injEq] at h
        obtain ⟨rfl, rfl⟩ := h
        have hsl : VRel M (.sl id off len (some c)) (.slice (some ⟨me.block, me.base + off, none⟩) len c) := ⟨me, c, hme, rfl, fun _ e => by cases e; rfl, (fun e => by cases e)⟩
        obtain ⟨us, p1, p2, p3⟩ := sliceCells_sound (P := P) (w := w.drew) (hr.drew rfl) hol hsl ⟨len, rfl, Nat.le_refl _⟩
        obtain ⟨rest', nc, hrun, hnc, hrl⟩ := hG p1 (by omega) hroom
        obtain ⟨g1, g2⟩ := newGrow_sound hr e (p2.append f2') (by rw [List.length_append, p3, f3, Nat.add_mul]) hnc hrl (grown_drew_push w _) (append_push (us ++ vs') rest' w e) false
        exact ⟨_, _, _, hrun, g2, g1, ⟨_, nc, newAt hr _, by simp, (fun _ e => by cases e), fun _ => ⟨hnc, by simp, by show 0 < ei.size; omega⟩⟩⟩
    | none =>
      obtain ⟨c1, c2, c3⟩ := hcn rfl
      simp only [Bool.cond_eq_ite, Nat.beq_eq] at h
      split at h
      · rename_i hm0
        subst hm0
        simp only [Option.some.injEq, Prod.mk.injEq] at h
        obtain ⟨rfl, rfl⟩ := h
        have hv0 : vs = [] := List.eq_nil_of_length_eq_zero (by simpa using hvl)
        subst hv0
        exact ⟨_, w, M, hF (by omega) (by simp [storeCells]), Ext.refl _ _ _, hr, ⟨me, c, hme, by simp, (fun _ e => by cases e), hcn⟩⟩
      · rename_i hm0
        split at h
        case h_2 => cases h
        rename_i n c0 e0 gs fz mk ho
        split at h
        case isFalse => cases h
        rename_i hcond
        simp only [Bool.and_eq_true, Nat.beq_eq, Nat.ble_eq] at hcond
        obtain ⟨rfl, rfl, rfl, rfl, q5, q6, q7⟩ := hcond
        simp only [Option.some.injEq, Prod.mk.injEq] at h
        obtain ⟨rfl, rfl⟩ := h
        obtain ⟨cur, e', lo, hi, k1, k2, k3, k4, k5, k6, k7⟩ := hr.blk ho hme
        obtain ⟨rfl, hb0⟩ := k2 rfl
        obtain ⟨g1, g2, _⟩ := k4 _ rfl
        rw [hb0] at k3 k7
        simp only [Nat.zero_add] at k3 k7 c2
        by_cases hfit : len + m ≤ c
        · have hcm : (len + m) * ei.size ≤ c * ei.size := Nat.mul_le_mul_right _ hfit
          rw [Nat.add_mul] at hcm
          rw [g1, g2] at c2
          obtain ⟨w', cur', hrun, j1, j2, j3, j4⟩ := run_storeCells' (P := P) (me.base + 0 + len * ei.size) vs 0 cur w k1 (by rw [hvl, hb0]; omega)
            (fun k hk hk2 hx => by have := k5 rfl k hx.1 hx.2 (by rw [hvl, hb0] at hk2; omega); rw [hb0] at hk; omega) (VRels.ones f2 q7)
          have hpre : M <+: M ++ [⟨me.block, 0, cur.size, ei.size⟩] := List.prefix_append _ _
          have hO : ORel (M ++ [⟨me.block, 0, cur.size, ei.size⟩]) ⟨me.block, 0, cur.size, ei.size⟩ w' (.cells (len * ei.size + m * ei.size) (c0.putAll (len * ei.size) news) e' (some ei.size) fz false mk) := by
            refine ⟨cur', e', lo, hi, j1, fun _ => ⟨rfl, rfl⟩, by rw [j2]; simp only [Nat.zero_add]; omega, fun gs eg => ⟨by cases eg; rfl, by rw [j2], rfl⟩, fun _ i a b cc => k5 rfl i a b (by rw [← j2]; exact cc), fun a b => by rw [j2]; exact k6 a b, ?_⟩
            intro j u hu
            simp only [Nat.zero_add]
            rcases Tr.get_putAll _ hu with ⟨q, rfl, hq⟩ | ⟨hj, hu⟩
            · obtain ⟨x, hx, r⟩ := f2.get q u hq
              have hql : q < m * ei.size := by rw [← f3]; exact (List.getElem?_eq_some_iff.1 hq).1
              refine ⟨by omega, x, ?_, r.mono hpre⟩
              rw [j3, if_pos (by rw [hvl, hb0]; omega), hb0]
              rw [show len * ei.size + q - (0 + 0 + len * ei.size + 0) = q from by omega]
              exact hx
            · obtain ⟨a, x, hx, r⟩ := k7 j u hu
              refine ⟨by omega, x, ?_, r.mono hpre⟩
              rw [j3, if_neg (by rw [hvl, hb0]; rw [f3] at hj; omega)]
              exact hx
          obtain ⟨r1, r2⟩ := hr.rename ho rfl hme j4 _ ⟨me.block, 0, cur.size, ei.size⟩ rfl hO
          exact ⟨_, w', _, hF hfit (by simpa [addr_add] using hrun), r2, r1,
              ⟨_, c, newAt hr _, by simp [hb0], (fun _ e => by cases e), fun _ => ⟨hfit, by simp; exact c2, by show 0 < ei.size; omega⟩⟩⟩
        · have hold : (Builtin.firstCells ei.size len (.slice (some ⟨me.block, me.base + 0, none⟩) len c)).run P w.drew = .ok (List.toArray (cur.toList.take (len * ei.size))) w.drew := by
            have := run_loadCells' (P := P) (w := w.drew) (off := me.base + 0) k1 (cur.toList.take (len * ei.size)) (fun j v hv => by
              rw [List.getElem?_take] at hv
              split at hv
              · rw [hb0]; simpa using hv
              · cases hv)
            rw [show (cur.toList.take (len * ei.size)).length = len * ei.size from by simp; omega] at this
            simpa [Builtin.firstCells] using this
          obtain ⟨rest', nc, hrun, hnc, hrl⟩ := hG hold (by omega) q6
          obtain ⟨kr, ke⟩ := hr.kill id
          have hpre : M <+: M ++ [⟨w.heap.size, 0, nc * ei.size, ei.size⟩] := List.prefix_append _ _
          have hvl' : vs'.length = m * ei.size := by rw [← f2'.length, f3]
          have htl : (cur.toList.take (len * ei.size)).length = len * ei.size := by simp; omega
          have htot : (cur.toList.take (len * ei.size) ++ vs' ++ rest').length = nc * ei.size := by
            rw [List.length_append, List.length_append, htl, hvl', hrl, ← Nat.add_mul, ← Nat.add_mul]; congr 1; omega
          have hncm : (len + m) * ei.size ≤ nc * ei.size := Nat.mul_le_mul_right _ hnc
          rw [Nat.add_mul] at hncm
          have hO : ORel (M ++ [⟨w.heap.size, 0, nc * ei.size, ei.size⟩]) ⟨w.heap.size, 0, nc * ei.size, ei.size⟩ (w.drew.alloc (.cells (cur.toList.take (len * ei.size) ++ vs' ++ rest').toArray e')) (.cells (len * ei.size + m * ei.size) (c0.putAll (len * ei.size) news) e' (some ei.size) fz false mk) := by
            refine ⟨(cur.toList.take (len * ei.size) ++ vs' ++ rest').toArray, e', 0, 0, append_push _ rest' w e', fun _ => ⟨rfl, rfl⟩, by simp only [List.size_toArray, htot, Nat.zero_add]; exact hncm, fun gs eg => ⟨by cases eg; rfl, by simp only [List.size_toArray]; exact htot.symm, rfl⟩, fun _ i a b => by omega, fun _ _ => ⟨Nat.zero_le _, Nat.le_refl _⟩, ?_⟩
            intro j u hu
            simp only [Nat.zero_add, List.getElem?_toArray]
            rcases Tr.get_putAll _ hu with ⟨q, rfl, hq⟩ | ⟨hj, hu⟩
            · obtain ⟨x, hx, r⟩ := f2'.get q u hq
              have hql : q < m * ei.size := by rw [← f3]; exact (List.getElem?_eq_some_iff.1 hq).1
              refine ⟨by omega, x, ?_, r.mono hpre⟩
              rw [List.append_assoc, List.getElem?_append_right (by rw [htl]; omega), htl, Nat.add_sub_cancel_left, List.getElem?_append_left (by omega)]
              exact hx
            · obtain ⟨a, x, hx, r⟩ := k7 j u hu
              refine ⟨by omega, x, ?_, r.mono hpre⟩
              rw [List.append_assoc, List.getElem?_append_left (by rw [htl]; exact a), List.getElem?_take, if_pos a]
              simpa using hx
          obtain ⟨r1, r2⟩ := kr.new (grown_drew_push w _) _ _ (Nat.le_refl _) hO
          exact ⟨_, _, _, hrun, ke.trans r2, r1, ⟨_, nc, newAt hr _, by simp, (fun _ e => by cases e), fun _ => ⟨hnc, by simp, by show 0 < ei.size; omega⟩⟩⟩
set_option maxHeartbeats 2000000 in
theorem appendA_sound (hE : TysOk E P) (hr : HRel M H w) {t xt ty : TypeId} {rest : List TypeId} {s x v : AV} {H' : AHeap} {cs cx : Value} (h : appendA E H t xt s x = some (v, H')) (hs : VRel M s cs) (hx : VRel M x cx) :
    ∃ cv w' M', (Builtin.append_ (List.toArray (t :: xt :: rest)) ty #[cs, cx]).run P w = .ok cv w' ∧ Ext M H w M' H' w' ∧ HRel M' H' w' ∧ VRel M' v cv := by
  unfold appendA at h
  split at h
  · cases h
  rename_i ti hty
  obtain ⟨i1, d1, z1, ht⟩ := hE.ty t ti hty
  have hd := ht.desc
  split at h
  case h_2 => cases h
  rename_i e hq
  rw [hq] at hd
  simp only [DRel] at hd
  subst hd
  split at h
  · cases h
  rename_i ei hte
  obtain ⟨i3, d3, z3, he⟩ := hE.ty e ei hte
  simp only [Bool.cond_eq_ite] at h
  split at h
  · rename_i hsrc
    simp only [Bool.and_eq_true, Bool.not_eq_true'] at hsrc
    obtain ⟨hsrc, hz⟩ := hsrc
    have hes : ei.size ≠ 0 := Nat.ne_of_beq_eq_false hz
    obtain ⟨xi, i2, d2, z2, htx, hxi⟩ : ∃ xi i2 d2 z2, TyOk P xt xi i2 d2 z2 ∧ ((∃ e2, d2 = .slice e2) ∨ d2 = .string) := by
      unfold srcTy at hsrc
      split at hsrc
      case h_2 => cases hsrc
      rename_i xi hxi
      obtain ⟨i2, d2, z2, h2⟩ := hE.ty xt xi hxi
      have hd2 := h2.desc
      refine ⟨xi, i2, d2, z2, h2, ?_⟩
      split at hsrc
      · rename_i e2 hq2; rw [hq2] at hd2; exact .inl ⟨e2, hd2⟩
      · rename_i hq2; rw [hq2] at hd2; exact .inr hd2
      · cases hsrc
    split at h
    · cases h
    rename_i m hm
    split at h
    · cases h
    rename_i news hn
    obtain ⟨vs, f1, f2, f3⟩ := sliceCells_sound (P := P) hr hn hx ⟨m, hm, Nat.le_refl _⟩
    obtain ⟨vs', f1', f2', _⟩ := sliceCells_sound (P := P) (w := w.drew) (hr.drew rfl) hn hx ⟨m, hm, Nat.le_refl _⟩
    have hlen := lenA_sound (P := P) (w := w) hm hx
    exact appendCells_sound hr hes h hs f2 f2' f3 (fun hf hst => run_append_fits' ht rfl htx hxi he hlen f1 hf hst) (fun ho hf hroom => run_append_grows' ht rfl htx hxi he hlen f1' ho hf hroom)
  · split at h
    case isFalse => cases h
    rename_i _ hsrc
    simp only [Bool.and_eq_true, Bool.not_eq_true'] at hsrc
    obtain ⟨hsrc, hz⟩ := hsrc
    have hes : ei.size ≠ 0 := Nat.ne_of_beq_eq_false hz
    obtain ⟨xi, i2, k2, z2, htx⟩ : ∃ xi i2 k2 z2, TyOk P xt xi i2 (.int k2) z2 := by
      unfold intTy at hsrc
      split at hsrc
      case h_2 => cases hsrc
      rename_i xi hxi
      obtain ⟨i2, d2, z2, h2⟩ := hE.ty xt xi hxi
      have hd2 := h2.desc
      split at hsrc
      case h_2 => cases hsrc
      rename_i k2 hq2
      rw [hq2] at hd2
      simp only [DRel] at hd2
      subst hd2
      exact ⟨xi, i2, k2, z2, h2⟩
    split at h
    case h_2 => cases h
    rename_i kx n
    split at h
    case isFalse => cases h
    rename_i hb
    simp only [Bool.and_eq_true, Bool.not_eq_true', ilt_iff, decide_eq_false_iff_not] at hb
    obtain ⟨hb0, hroomZ⟩ := hb
    simp only [VRel] at hx
    subst hx
    obtain ⟨m, rfl⟩ := Int.eq_ofNat_of_zero_le (show 0 ≤ n by omega)
    simp only [Int.toNat_natCast] at h hroomZ
    have hzr := rep_rel (he.zrel.mono (List.nil_prefix (l := M))) m
    have e : ((Array.range (m * z3.cells.size)).map (z3.cells[· % z3.cells.size]!)).toList = (Builtin.zeroCells z3.cells m).toList := rfl
    rw [e] at hzr
    have f3 : (rep ei.zero m).length = m * ei.size := by rw [hzr.length]; simp [zeroCells_size, he.zlen]
    exact appendCells_sound hr hes h hs hzr hzr f3 (fun hf hst => run_append_fitsZ ht rfl htx he hroomZ hf hst) (fun ho hf hroom => run_append_growsZ ht rfl htx he hroomZ ho hf hroom)
end
end Go.Vai
end
