/- Listed package-level variables of plain data, av rows that may be read. -/
import Derived.Test.YtopjbfgikglncaaGreatDoorVaiOpen
import Derived.Lib.LaidU8
import Derived.MakeChecks
namespace Go.Vai

def catD (P : Program) (rec : TypeId → DataW Unit → Option (List AV)) : List (TypeId × DataW Unit) → Option (List AV)
  | [] => some []
  | (t, d) :: r => match rec t d with
    | some av => bif Nat.beq av.length (P.cellsOf t) then (match catD P rec r with
        | some bs => some (av ++ bs)
        | none => none) else none
    | none => none
def zipD : List (TypeId × Nat) → List (DataW Unit) → Nat → (TypeId → Nat) → Option (List (TypeId × DataW Unit))
  | [], [], _, _ => some []
  | (t, o) :: fs, d :: ds, at_, c => bif Nat.beq o at_ then (match zipD fs ds (at_ + c t) c with
      | some r => some ((t, d) :: r)
      | none => none) else none
  | _, _, _, _ => none
def cellsD (P : Program) : Nat → TypeId → DataW Unit → Option (List AV)
  | 0, _, _ => none
  | f + 1, t, d => match P.underlying t, d with
    | some (.int k), .lit (.int k' n) => bif sameKind k k' then some [.int k n] else none
    | some .bool, .lit (.bool b) => some [.bool b]
    | some .string, .lit (.string s) => some [.str s]
    | some (.array n e), .agg ps => bif Nat.beq ps.length n && Nat.beq (P.cellsOf t) (n * P.cellsOf e) then catD P (cellsD P f) (ps.map fun d => (e, d)) else none
    | some (.struct fs), .agg ps => match zipD (fs.toList.map fun x => (x.type, x.offset)) ps 0 P.cellsOf with
      | some l => bif Nat.beq (P.cellsOf t) (l.map fun y => P.cellsOf y.1).sum then catD P (cellsD P f) l else none
      | none => none
    | _, _ => none

section
variable {enc : TypeId × Value → Unit} {P : Program} {w : World} {base : Nat} {spare : Nat → Bool} {held : Bool}

theorem catD_open {rec : TypeId → DataW Unit → Option (List AV)} {n : Nat} (ih : ∀ t d av cs p, rec t d = some av → DataW.trod enc P w base spare held n t cs = some (d, p) → VRels [] av cs) :
    ∀ (l : List (TypeId × DataW Unit)) (o : Nat) (av : List AV) (cs : List Value), catD P rec l = some av → (∀ (i : Nat) x, l[i]? = some x → ∃ p, DataW.trod enc P w base spare held n x.1 ((cs.drop (o + ((l.take i).map fun y => P.cellsOf y.1).sum)).take (P.cellsOf x.1)) = some (x.2, p)) →
      cs.length = o + (l.map fun y => P.cellsOf y.1).sum → VRels [] av (cs.drop o) := by
  intro l
  induction l with
  | nil =>
    intro o av cs h _ hl
    simp only [catD, Option.some.injEq] at h; subst h
    simp at hl
    rw [List.drop_of_length_le (by omega)]; trivial
  | cons x l ihl =>
    intro o av cs h hf hl
    obtain ⟨t, d⟩ := x
    simp only [catD] at h
    split at h
    case h_2 => cases h
    rename_i a1 ha1
    simp only [Bool.cond_eq_ite, Nat.beq_eq] at h
    split at h
    case isFalse => cases h
    split at h
    case h_2 => cases h
    rename_i r hr
    simp only [Option.some.injEq] at h; subst h
    simp only [List.map_cons, List.sum_cons] at hl
    obtain ⟨p, hp⟩ := hf 0 (t, d) rfl
    simp only [List.take_zero, List.map_nil, List.sum_nil, Nat.add_zero] at hp
    have h1 := ih t d a1 _ p ha1 hp
    have h2 := ihl (o + P.cellsOf t) r cs hr (fun i y hy => by
      obtain ⟨q, hq⟩ := hf (i + 1) y (by simpa using hy)
      refine ⟨q, ?_⟩
      rw [← hq]
      simp only [List.take_succ_cons, List.map_cons, List.sum_cons]
      rw [Nat.add_assoc]) (by omega)
    have : cs.drop o = (cs.drop o).take (P.cellsOf t) ++ cs.drop (o + P.cellsOf t) := by
      rw [← List.drop_drop, List.take_append_drop]
    rw [this]
    exact h1.append h2

theorem zipD_spec {c : TypeId → Nat} : ∀ {fs : List (TypeId × Nat)} {ds : List (DataW Unit)} {at_ : Nat} {l : List (TypeId × DataW Unit)}, zipD fs ds at_ c = some l →
    l.length = fs.length ∧ l.length = ds.length ∧ ∀ (i : Nat) x, l[i]? = some x → fs[i]? = some (x.1, at_ + ((l.take i).map fun y => c y.1).sum) ∧ ds[i]? = some x.2
  | [], [], at_, l, h => by
    simp only [zipD, Option.some.injEq] at h; subst h
    exact ⟨rfl, rfl, fun i x hx => by simp at hx⟩
  | [], _ :: _, _, _, h => by simp [zipD] at h
  | _ :: _, [], _, _, h => by simp [zipD] at h
  | (t, o) :: fs, d :: ds, at_, l, h => by
    simp only [zipD, Bool.cond_eq_ite, Nat.beq_eq] at h
    split at h
    case isFalse => cases h
    rename_i ho
    split at h
    case h_2 => cases h
    rename_i r hr
    simp only [Option.some.injEq] at h; subst h; subst ho
    obtain ⟨a, b, e⟩ := zipD_spec hr
    refine ⟨by simp [a], by simp [b], fun i x hx => ?_⟩
    cases i with
    | zero => simp at hx; subst hx; simp
    | succ i =>
      obtain ⟨p, q⟩ := e i x (by simpa using hx)
      refine ⟨?_, by simpa using q⟩
      simp only [List.getElem?_cons_succ, p, List.take_succ_cons, List.map_cons, List.sum_cons]
      rw [Nat.add_assoc]

theorem sum_const (n c : Nat) : (List.map (fun _ : Nat => c) (List.range n)).sum = n * c := by
  induction n with
  | zero => simp
  | succ n ih => rw [List.range_succ, List.map_append, List.sum_append, ih]; simp [Nat.succ_mul]

theorem cellsD_open : ∀ (f n : Nat) (t : TypeId) (d : DataW Unit) (av : List AV) (cs : List Value) (p : List MemPlace), cellsD P f t d = some av → DataW.trod enc P w base spare held n t cs = some (d, p) → VRels [] av cs := by
  intro f
  induction f with
  | zero => intro n t d av cs p h; simp [cellsD] at h
  | succ f ih =>
    intro n t d av cs p h hx
    simp only [cellsD] at h
    split at h
    · rename_i k k' m hu
      simp only [Bool.cond_eq_ite, sameKind_iff] at h
      split at h
      case isFalse => cases h
      simp only [Option.some.injEq] at h; subst h
      obtain ⟨m', rfl, e, _⟩ := DataW.trod_int hu hx
      simp only [Prod.mk.injEq, DataW.lit.injEq, Lit.int.injEq] at e
      obtain ⟨⟨_, rfl⟩, _⟩ := e
      exact ⟨rfl, trivial⟩
    · rename_i b hu
      simp only [Option.some.injEq] at h; subst h
      obtain ⟨b', rfl, e⟩ := DataW.trod_bool hu hx
      simp only [Prod.mk.injEq, DataW.lit.injEq, Lit.bool.injEq] at e
      obtain ⟨rfl, _⟩ := e
      exact ⟨rfl, trivial⟩
    · rename_i s hu
      simp only [Option.some.injEq] at h; subst h
      obtain ⟨s', rfl, e, _⟩ := DataW.trod_string hu hx
      simp only [Prod.mk.injEq, DataW.lit.injEq, Lit.string.injEq] at e
      obtain ⟨rfl, _⟩ := e
      exact ⟨by simp [VRel], trivial⟩
    · rename_i k e ps hu
      simp only [Bool.cond_eq_ite, Bool.and_eq_true, Nat.beq_eq] at h
      split at h
      case isFalse => cases h
      rename_i hlen
      obtain ⟨hlen, hct⟩ := hlen
      obtain ⟨xs, m, rfl, hx1, hcl, hxl, hel⟩ := DataW.trod_array hu hx
      simp only [Prod.mk.injEq, DataW.agg.injEq] at hx1
      obtain ⟨rfl, _⟩ := hx1
      have sm : ∀ i, i ≤ k → ((((xs.map (·.1)).map fun d => (e, d)).take i).map fun y => P.cellsOf y.1).sum = i * P.cellsOf e := fun i hi => by
        have : ((((xs.map (·.1)).map fun d => (e, d)).take i).map fun y => P.cellsOf y.1) = List.map (fun _ : Nat => P.cellsOf e) (List.range i) := by
          apply List.ext_getElem
          · simp; omega
          · intro j h1 h2; simp
        rw [this, sum_const]
      have key := catD_open (rec := cellsD P f) (n := m) (fun t d av cs p a b => ih m t d av cs p a b) _ 0 av cs h (fun i x hi => by
        simp only [List.getElem?_map, Option.map_eq_some_iff] at hi
        obtain ⟨g, ⟨y, hy, rfl⟩, rfl⟩ := hi
        have hik : i < k := by rw [← hxl]; exact (List.getElem?_eq_some_iff.1 hy).1
        refine ⟨y.2, ?_⟩
        rw [sm i (by omega), Nat.zero_add, hel i hik, hy]) (by
        have := sm k (Nat.le_refl _)
        rw [List.take_of_length_le (by simp; omega)] at this
        rw [Nat.zero_add, this, hcl, hct])
      simpa using key
    · rename_i fs ps hu
      split at h
      case h_2 => cases h
      rename_i l hl
      simp only [Bool.cond_eq_ite, Nat.beq_eq] at h
      split at h
      case isFalse => cases h
      rename_i hct
      obtain ⟨z1, z2, z3⟩ := zipD_spec hl
      obtain ⟨xs, m, rfl, hx1, hcl, hxl, hf⟩ := DataW.trod_struct hu hx
      simp only [Prod.mk.injEq, DataW.agg.injEq] at hx1
      obtain ⟨rfl, _⟩ := hx1
      have key := catD_open (rec := cellsD P f) (n := m) (fun t d av cs p a b => ih m t d av cs p a b) l 0 av cs h (fun i x hi => by
        obtain ⟨q1, q2⟩ := z3 i x hi
        simp only [List.getElem?_map, Option.map_eq_some_iff] at q1 q2
        obtain ⟨fl, hfl, e1⟩ := q1
        obtain ⟨y, hy, e2⟩ := q2
        simp only [Prod.mk.injEq] at e1
        obtain ⟨e3, e4⟩ := e1
        have := hf i fl (by simpa using hfl)
        rw [hy] at this
        refine ⟨y.2, ?_⟩
        rw [← e3, ← e4, this, ← e2]) (by rw [hcl, hct, Nat.zero_add])
      simpa using key
    · cases h

/-- One listed variable's cells. -/
theorem laid_cells {laid : List (String × DataW Unit)} (h : laidMetH P laid w) (hp : (laid.all fun x => x.2.handleName?.isNone) = true) {name : String} {d : DataW Unit} (hm : (name, d) ∈ laid) {g t : Nat} (hg : P.globalNamed name = some g) (ht : (P.globals[g]?).map (·.type) = some t)
    {f : Nat} {av : List AV} (hc : cellsD P f t d = some av) : ∃ cs e lo hi, w.heap[g]? = some (.cells cs e (lo, hi)) ∧ VRels [] av cs.toList := by
  rw [MakeChecks.laidMetH_plain _ _ _ hp] at h
  obtain ⟨g', t', cs, fuel, p, h1, h2, h3, h4⟩ := Lib.laidMet.reads h hm
  rw [hg] at h1; cases h1
  rw [ht] at h2; cases h2
  have := cellsD_open f fuel t d av cs.toList p hc h4
  unfold World.var? at h3
  rw [hg] at h3
  simp only [Option.bind_some] at h3
  cases hh : w.heap[g]? with
  | none => rw [hh] at h3; cases h3
  | some o =>
    rw [hh] at h3
    cases o with
    | cells cur e fz =>
      simp only [Option.some.injEq] at h3
      subst h3
      obtain ⟨lo, hi⟩ := fz
      exact ⟨_, e, lo, hi, rfl, this⟩
    | _ => simp at h3

end
end Go.Vai
