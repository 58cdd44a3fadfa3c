/- A region of open order that makes new rows and values out of them: names given ahead, each to its operation. -/
import Derived.Test.YteinliapjcgpfaaGreatDoorVaiMapLit
namespace Go.Vai
noncomputable section
mutual
/-- Are all the names that a value bears such? -/
def nmOk (p : Nat → Bool) : AV → Bool
  | .ptr i _ => p i
  | .sl i _ _ _ => p i
  | .yld i => p i
  | .mapv i => p i
  | .fn _ x y => nmOks p x && nmOks p y
  | .iface _ v => nmOk p v
  | .agg l => nmOks p l
  | .tup l => nmOks p l
  | .bool _ => true
  | .int _ _ => true
  | .str _ => true
  | .nilp => true
  | .nils => true
  | .sl0 => true
  | .nilf => true
  | .nili => true
  | .nilm => true
def nmOks (p : Nat → Bool) : List AV → Bool
  | [] => true
  | v :: vs => nmOk p v && nmOks p vs
end
end
mutual
theorem nmOk_rel {p : Nat → Bool} {M M' : List MEnt} (hM : ∀ i, p i = true → M'[i]? = M[i]?) : ∀ (v : AV) (cv : Value), nmOk p v = true → VRel M v cv → VRel M' v cv
  | .ptr i o, cv, h, r => by
    obtain ⟨m, hm, e2⟩ := r
    exact ⟨m, by rw [hM i h]; exact hm, e2⟩
  | .sl i o n c, cv, h, r => by
    obtain ⟨m, cc, hm, e2⟩ := r
    exact ⟨m, cc, by rw [hM i h]; exact hm, e2⟩
  | .yld i, cv, h, r => by
    obtain ⟨m, hm, e2⟩ := r
    exact ⟨m, by rw [hM i h]; exact hm, e2⟩
  | .mapv i, cv, h, r => by
    obtain ⟨m, hm, e2⟩ := r
    exact ⟨m, by rw [hM i h]; exact hm, e2⟩
  | .fn f x y, cv, h, r => by
    simp only [nmOk, Bool.and_eq_true] at h
    obtain ⟨fs, cs, e, r1, r2⟩ := r
    exact ⟨fs, cs, e, nmOks_rel hM _ _ h.1 r1, nmOks_rel hM _ _ h.2 r2⟩
  | .iface t x, cv, h, r => by
    obtain ⟨z, e, r1⟩ := r
    exact ⟨z, e, nmOk_rel hM _ _ (by simpa only [nmOk] using h) r1⟩
  | .agg l, cv, h, r => by
    obtain ⟨vs, e, r1⟩ := r
    exact ⟨vs, e, nmOks_rel hM _ _ (by simpa only [nmOk] using h) r1⟩
  | .tup l, cv, h, r => by
    obtain ⟨vs, e, r1⟩ := r
    exact ⟨vs, e, nmOks_rel hM _ _ (by simpa only [nmOk] using h) r1⟩
  | .bool _, _, _, r => r
  | .int _ _, _, _, r => r
  | .str _, _, _, r => r
  | .nilp, _, _, r => r
  | .nils, _, _, r => r
  | .sl0, _, _, r => r
  | .nilf, _, _, r => r
  | .nili, _, _, r => r
  | .nilm, _, _, r => r
theorem nmOks_rel {p : Nat → Bool} {M M' : List MEnt} (hM : ∀ i, p i = true → M'[i]? = M[i]?) : ∀ (v : List AV) (cv : List Value), nmOks p v = true → VRels M v cv → VRels M' v cv
  | [], [], _, r => r
  | [], _ :: _, _, r => r.elim
  | _ :: _, [], _, r => r.elim
  | a :: v, c :: cv, h, r => by
    simp only [nmOks, Bool.and_eq_true] at h
    exact ⟨nmOk_rel hM _ _ h.1 r.1, nmOks_rel hM _ _ h.2 r.2⟩
end

/-- What is known of such a region: of each operation but the last its value, of each that makes a row the row; the slots when all have run; the names that its value bears. -/
structure FLit (E : Env) (ops : Array Oper) (n0 m n : Nat) (val : Nat → AV) (row : Nat → TypeId × List AV) (frC : Tr AV) (nm : Nat → Nat → Bool) : Prop where
  size : ops.size = m + 1
  nle : n ≤ 1000000
  guard : ∀ (j : Nat) (o : Oper), ops[j]? = some o → o.guard = none
  low : ∀ (j : Nat) (o : Oper), ops[j]? = some o → ∀ e ∈ o.after.toList, Region.binds .any e = true → e.on < j
  dst : ∀ (j : Nat) (o : Oper), j < m → ops[j]? = some o → ∃ d, o.dst = some d ∧ d < n ∧ frC.get d = some (val j)
  uniq : ∀ (i j : Nat) (p o : Oper) (d : Tmp), ops[i]? = some p → ops[j]? = some o → p.dst = some d → o.dst = some d → i = j
  rd : ∀ (j : Nat) (o : Oper) (x : Operand), ops[j]? = some o → x ∈ o.op.operands.toList → ∀ t, x = .tmp t → ∃ i p, i < m ∧ ops[i]? = some p ∧ p.dst = some t ∧ hasEdge o i = true
  kind : ∀ (j : Nat) (o : Oper), j < m → ops[j]? = some o → (freshOp o.op = false ∧ ∀ H, execA E H frC o = some (.val (val j) H)) ∨ (freshOp o.op = true ∧ execA E ⟨.nil, n0 + j⟩ frC o = some (.val (val j) (newRowA ⟨.nil, n0 + j⟩ (row j).1 (row j).2)))
  rowlen : ∀ j, j < m → (row j).2.length ≤ 1000000
  nmV : ∀ j, j < m → nmOk (nm j) (val j) = true ∧ nmOks (nm j) (row j).2 = true
  nmR : ∀ (j : Nat) (o : Oper), j < m → ops[j]? = some o → freshOp o.op = true → nmOks (fun p => nm j p && decide (p ≠ n0 + j)) (row j).2 = true
  nmIn : ∀ (listed : Array Bool), Closed ops (SL listed) → ∀ j, j < m → SL listed j → ∀ i, nm j i = true → ∃ k o, k < m ∧ i = n0 + k ∧ ops[k]? = some o ∧ freshOp o.op = true ∧ SL listed k
  last : ∀ (o : Oper), ops[m]? = some o → ∀ j, j < m → hasEdge o j = true
section
variable {E : Env} {P : Program} {I : List MEnt → AHeap → World → Prop} {ih : Task → Option TRes} {ro : Option Nat} {ops : Array Oper} {n0 m n : Nat} {val : Nat → AV} {row : Nat → TypeId × List AV} {frC : Tr AV} {nm : Nat → Nat → Bool}
/-- The names: the old ones, one for each operation. -/
def MB (M0 : List MEnt) (m : Nat) (B : Nat → MEnt) : List MEnt := M0 ++ (List.range m).map B
theorem MB_len (M0 : List MEnt) (m : Nat) (B : Nat → MEnt) : (MB M0 m B).length = M0.length + m := by simp [MB]
theorem MB_at (M0 : List MEnt) {m : Nat} (B : Nat → MEnt) {k : Nat} (hk : k < m) : (MB M0 m B)[M0.length + k]? = some (B k) := by
  unfold MB
  rw [List.getElem?_append_right (by omega), show M0.length + k - M0.length = k by omega, List.getElem?_map, List.getElem?_range hk]
  rfl
theorem MB_pre (M0 : List MEnt) (m : Nat) (B : Nat → MEnt) : M0 <+: MB M0 m B := List.prefix_append _ _

structure FInv (E : Env) (ro : Option Nat) (ops : Array Oper) (n0 m n : Nat) (val : Nat → AV) (row : Nat → TypeId × List AV) (fr0 : AFr) (M0 : List MEnt) (w0 : World) (listed : Array Bool) (a : Act) (w : World) (B : Nat → MEnt) (fr : AFr) : Prop where
  size : listed.size = ops.size
  closed : Closed ops (SL listed)
  hsize : w0.heap.size ≤ w.heap.size
  old : ∀ b, b < w0.heap.size → w.heap[b]? = w0.heap[b]?
  os : w.os = w0.os
  tape : w.tape = w0.tape
  output : w.output = w0.output
  rd : fr.rd = ro.isSome
  fn : fr.n = n
  an : a.tmps.size = n
  df : DfRels M0 fr.df a.defers
  fdf : fr.df = fr0.df
  t : ∀ (x : Nat) (v : AV), fr.t.get x = some v → ∃ cv, a.tmps[x]? = some cv ∧ (VRel M0 v cv ∨ ∃ j, j < m ∧ SL listed j ∧ v = val j ∧ VRel (MB M0 m B) v cv)
  f1 : ∀ (j : Nat) (o : Oper) (d : Tmp), j < m → ops[j]? = some o → o.dst = some d → SL listed j → fr.t.get d = some (val j)
  f3 : ∀ (x : Nat) (v : AV), (∀ (j : Nat) (o : Oper), ops[j]? = some o → o.dst ≠ some x) → fr0.t.get x = some v → fr.t.get x = some v
  obj : ∀ (k : Nat) (o : Oper), k < m → ops[k]? = some o → freshOp o.op = true → SL listed k → B k = ⟨(B k).block, 0, 0, 0⟩ ∧ w0.heap.size ≤ (B k).block ∧ ∃ vs, w.heap[(B k).block]? = some (.cells (List.toArray vs) (row k).1) ∧ VRels (MB M0 m B) (row k).2 vs
  inj : ∀ (k l : Nat) (o p : Oper), k < m → l < m → ops[k]? = some o → ops[l]? = some p → freshOp o.op = true → freshOp p.op = true → SL listed k → SL listed l → (B k).block = (B l).block → k = l

theorem FInv.st (hE : EnvOk E P I) {fr0 : AFr} {M0 : List MEnt} {H0 : AHeap} {w0 w : World} {listed : Array Bool} {a : Act} {B : Nat → MEnt} {fr : AFr} (st0 : St E I M0 H0 w0) (hn0 : H0.next = n0)
    (inv : FInv E ro ops n0 m n val row fr0 M0 w0 listed a w B fr) : St E I (MB M0 m B) ⟨.nil, n0 + m⟩ w ∧ FRel ro (MB M0 m B) fr a := by
  have hl : M0.length = n0 := by rw [st0.hr.len, hn0]
  have none_ : ∀ (i : Nat) (o : AObj), (AHeap.mk .nil (n0 + m)).get i ≠ some o := fun i o h => by
    have : (Tr.nil : Tr AObj).get i = some o := h
    rw [Tr.get_nil] at this; cases this
  have x : Ext M0 H0 w0 (MB M0 m B) ⟨.nil, n0 + m⟩ w := ⟨MB_pre _ _ _, inv.hsize, inv.os, inv.tape, inv.output, fun b hb hn => ⟨inv.old b hb, fun ⟨id, o, _, e, _⟩ => none_ id o e⟩, fun b hb hn ⟨id, o, _, e, _⟩ => none_ id o e⟩
  refine ⟨⟨⟨by rw [MB_len, hl], fun id o e => absurd e (none_ id o), fun i j o p m k hi => absurd hi (none_ i o)⟩, st0.g.mono (MB_pre _ _ _), hE.carry _ _ _ _ _ _ st0.i x⟩, inv.rd, by rw [inv.fn]; exact inv.an, fun x v hx => ?_, inv.df.mono (MB_pre _ _ _)⟩
  obtain ⟨cv, h1, h2⟩ := inv.t x v hx
  refine ⟨cv, h1, ?_⟩
  rcases h2 with h2 | ⟨j, _, _, _, h2⟩
  · exact h2.mono (MB_pre _ _ _)
  · exact h2

theorem Tr.get_putAll_eq' (vs : List AV) (j : Nat) (h : vs.length ≤ 1000000) : (Tr.nil.putAll 0 vs).get j = vs[j]? := by
  have key : ∀ (vs : List AV) (t : Tr AV) (k : Nat), k + vs.length ≤ 1000000 → (t.putAll k vs).get j = if k ≤ j ∧ j < k + vs.length then vs[j - k]? else t.get j := by
    intro vs
    induction vs with
    | nil =>
      intro t k _
      rw [Tr.putAll_nil, if_neg]
      simp only [List.length_nil]; omega
    | cons v vs ih =>
      intro t k h
      simp only [List.length_cons] at h
      rw [Tr.putAll_cons, ih _ _ (by omega), Tr.get_set_eq _ _ _ (by omega)]
      by_cases e : j = k
      · subst e
        rw [if_neg (by omega), if_pos rfl, if_pos (by simp)]
        simp
      · by_cases e2 : k + 1 ≤ j ∧ j < k + 1 + vs.length
        · rw [if_pos e2, if_pos (by simp; omega)]
          rw [show j - k = (j - (k + 1)) + 1 by omega]
          simp
        · rw [if_neg e2, if_neg e, if_neg (by simp; omega)]
  rw [key vs .nil 0 (by omega)]
  by_cases e : j < vs.length
  · rw [if_pos (by omega), Nat.sub_zero]
  · rw [if_neg (by omega), Tr.get_nil, List.getElem?_eq_none (by omega)]
theorem row_inj {H : AHeap} {e e' : TypeId} {cs cs' : List AV} (hb : H.next < 1000000) (h1 : cs'.length ≤ 1000000) (h : newRowA H e cs = newRowA H e' cs') : e = e' ∧ cs = cs' := by
  have g : ∀ (e : TypeId) (cs : List AV), (newRowA H e cs).get H.next = some (.cells cs.length (Tr.nil.putAll 0 cs) e none 0 false false) := fun e cs => by
    show (H.objs.set _ _).get _ = _
    rw [Tr.get_set_eq _ _ _ (by omega), if_pos rfl]
  have h2 := g e cs
  rw [h, g e' cs'] at h2
  simp only [Option.some.injEq, AObj.cells.injEq] at h2
  obtain ⟨hl, ht, rfl, _⟩ := h2
  refine ⟨rfl, List.ext_getElem? fun i => ?_⟩
  have := congrArg (fun t => Tr.get t i) ht
  rw [Tr.get_putAll_eq' _ _ (by omega), Tr.get_putAll_eq' _ _ (by omega)] at this
  exact this.symm

theorem fresh_any (hE : EnvOk E P I) (hs : Sound E P I ih) (hm : FLit E ops n0 m n val row frC nm) {fr0 : AFr} {M0 : List MEnt} {H0 : AHeap} {w0 : World} (st0 : St E I M0 H0 w0) (hn0 : H0.next = n0) (hb : n0 + m < 1000000) {Q : Exit → Act → World → Prop}
    {next : Array Bool → Act → World → Prop} {listed : Array Bool} {a : Act} {w : World} {B : Nat → MEnt} {fr : AFr} (inv : FInv E ro ops n0 m n val row fr0 M0 w0 listed a w B fr) {i : Nat} (hi : i ∈ Region.ready .any ops listed)
    (hn : i ≠ m → ∀ a' w' B' fr', FInv E ro ops n0 m n val row fr0 M0 w0 (listed.setIfInBounds i true) a' w' B' fr' → next (listed.setIfInBounds i true) a' w')
    (hlast : ∀ o, i = m → ops[m]? = some o → (∀ j, j < m → SL listed j) → o.wpIn (FF ro) 0 P a w (next (listed.setIfInBounds i true)) Q) : wpOpIn (FF ro) 0 P ops Q i (next (listed.setIfInBounds i true)) a w := by
  obtain ⟨o, ho, hlf, hedge⟩ := ready_spec hi inv.size
  have hil : i < listed.size := (Array.getElem?_eq_some_iff.1 hlf).1
  have hni : ¬ SL listed i := by unfold SL; rw [hlf]; simp
  have hg := hm.guard i o ho
  have hw : Region.wanted o (yielded ops a.tmps) = true := by simp [Region.wanted, hg]
  have hl : M0.length = n0 := by rw [st0.hr.len, hn0]
  obtain ⟨st, hf⟩ := inv.st hE st0 hn0
  have hin : ∀ j, hasEdge o j = true → SL listed j := fun j h => by
    obtain ⟨e, he, hbi, rfl⟩ := hasEdge_spec h
    exact hedge e he hbi
  have hcl : Closed ops (SL (listed.setIfInBounds i true)) := fun j oj hj hsj e he hbi => by
    rw [SL_set hil] at hsj ⊢
    rcases hsj with hsj | rfl
    · exact .inl (inv.closed j oj hj hsj e he hbi)
    · rw [ho] at hj; cases hj
      exact .inl (hedge e he hbi)
  have hsz : (listed.setIfInBounds i true).size = ops.size := by simpa using inv.size
  have sl0 : ∀ j, SL (listed.setIfInBounds i true) j ↔ SL listed j ∨ j = i := fun j => SL_set hil
  simp only [wpOpIn, ho, hw, if_true]
  by_cases him : i = m
  · subst him
    exact hlast o rfl ho fun j hj => hin j (hm.last o ho j hj)
  have hi' : i < m := by
    have := (Array.getElem?_eq_some_iff.1 ho).1
    rw [hm.size] at this
    omega
  obtain ⟨d, hd, hdn, hC⟩ := hm.dst i o hi' ho
  -- the slots that it reads
  have hops : ∀ x ∈ o.op.operands.toList, opd E fr.t x = opd E frC x := fun x hx => opd_congr fun t ht => by
    have hxt : x = .tmp t := by
      cases x with
      | tmp u =>
        simp only [isTmp, Nat.beq_eq] at ht
        rw [ht]
      | _ => cases ht
    obtain ⟨k, p, k1, k2, k3, k4⟩ := hm.rd i o x ho hx t hxt
    rw [inv.f1 k p t k1 k2 k3 (hin k k4)]
    obtain ⟨d', h1, h2, h3⟩ := hm.dst k p k1 k2
    rw [k3] at h1; cases h1
    rw [h3]
  have hput : ∀ v, (fr.put o.dst v).t = fr.t.set d v := fun v => by
    rw [hd]
    simp only [AFr.put, inv.fn, Bool.cond_eq_ite, Nat.blt_eq, hdn, if_true]
  have hdb : d < 1000001 := Nat.lt_of_lt_of_le hdn (Nat.le_trans hm.nle (by decide))
  -- what goes on, from the names B'
  have fin : ∀ (cv : Value) (w' : World) (B' : Nat → MEnt), w.heap.size ≤ w'.heap.size → (∀ b, b < w.heap.size → w'.heap[b]? = w.heap[b]?) → w'.os = w.os → w'.tape = w.tape → w'.output = w.output →
      (∀ k, k ≠ i → B' k = B k) → (freshOp o.op = false → B' i = B i) → VRel (MB M0 m B') (val i) cv →
      (freshOp o.op = true → B' i = ⟨w.heap.size, 0, 0, 0⟩ ∧ ∃ vs, w'.heap[w.heap.size]? = some (.cells (List.toArray vs) (row i).1) ∧ VRels (MB M0 m B') (row i).2 vs) → next (listed.setIfInBounds i true) (a.put o.dst cv) w' := by
    intro cv w' B' y1 y2 y3 y4 y5 hB hBi hv hfr
    have agree : ∀ j, j < m → SL listed j → ∀ p, nm j p = true → (MB M0 m B')[p]? = (MB M0 m B)[p]? := fun j hj hsj p hp => by
      obtain ⟨k, ok, k1, rfl, k2, k3, k4⟩ := hm.nmIn listed inv.closed j hj hsj p hp
      have hki : k ≠ i := fun e => by subst e; exact hni k4
      rw [← hl, MB_at M0 B' k1, MB_at M0 B k1, hB k hki]
    refine hn him _ _ B' (fr.put o.dst (val i)) ⟨hsz, hcl, Nat.le_trans inv.hsize y1, fun b hb => (y2 b (Nat.lt_of_lt_of_le hb inv.hsize)).trans (inv.old b hb), y3.trans inv.os, y4.trans inv.tape, y5.trans inv.output, ?_, ?_, ?_, ?_, ?_, ?_, ?_, ?_, ?_, ?_⟩
    · rw [hd]; simp only [AFr.put, Bool.cond_eq_ite]; split <;> exact inv.rd
    · rw [hd]; simp only [AFr.put, Bool.cond_eq_ite]; split <;> exact inv.fn
    · rw [hd]; simpa [Act.put] using inv.an
    · rw [hd]; simp only [AFr.put, Bool.cond_eq_ite]; split <;> exact inv.df
    · rw [hd]; simp only [AFr.put, Bool.cond_eq_ite]; split <;> exact inv.fdf
    · intro x v hx
      rw [hput, Tr.get_set_eq _ _ _ hdb] at hx
      by_cases hxd : x = d
      · rw [if_pos hxd] at hx
        cases hx
        refine ⟨cv, ?_, .inr ⟨i, hi', (sl0 i).2 (.inr rfl), rfl, hv⟩⟩
        rw [hd, hxd]
        simp only [Act.put]
        rw [Array.getElem?_setIfInBounds_self_of_lt (by rw [inv.an]; exact hdn)]
      · rw [if_neg hxd] at hx
        obtain ⟨c, h1, h2⟩ := inv.t x v hx
        refine ⟨c, ?_, ?_⟩
        · rw [hd]
          simp only [Act.put]
          rw [Array.getElem?_setIfInBounds_ne (Ne.symm hxd)]
          exact h1
        · rcases h2 with h2 | ⟨j, j1, j2, rfl, j4⟩
          · exact .inl h2
          · exact .inr ⟨j, j1, (sl0 j).2 (.inl j2), rfl, nmOk_rel (agree j j1 j2) _ _ (hm.nmV j j1).1 j4⟩
    · intro j oj d' j1 j2 j3 j4
      rw [hput, Tr.get_set_eq _ _ _ hdb]
      by_cases hdd : d' = d
      · rw [if_pos hdd]
        subst hdd
        have := hm.uniq j i oj o d' j2 ho j3 hd
        rw [this]
      · rw [if_neg hdd]
        rcases (sl0 j).1 j4 with j4 | rfl
        · exact inv.f1 j oj d' j1 j2 j3 j4
        · rw [ho] at j2; cases j2
          rw [hd] at j3; cases j3
          exact absurd rfl hdd
    · intro x v hx hv'
      rw [hput, Tr.get_set_eq _ _ _ hdb, if_neg (fun e => hx i o ho (by rw [hd, e]))]
      exact inv.f3 x v hx hv'
    · intro k ok k1 k2 k3 k4
      rcases (sl0 k).1 k4 with k5 | rfl
      · have hki : k ≠ i := fun e => hni (e ▸ k5)
        obtain ⟨q1, q2, vs, q3, q4⟩ := inv.obj k ok k1 k2 k3 k5
        rw [hB k hki]
        exact ⟨q1, q2, vs, (y2 _ (Array.getElem?_eq_some_iff.1 q3).1).trans q3, nmOks_rel (agree k k1 k5) _ _ (hm.nmV k k1).2 q4⟩
      · rw [ho] at k2; cases k2
        obtain ⟨q1, vs, q2, q3⟩ := hfr k3
        rw [q1]
        exact ⟨rfl, inv.hsize, vs, q2, q3⟩
    · intro k l ok ol k1 l1 k2 l2 k3 l3 k4 l4 hbl
      have hlt : ∀ k ok, k < m → ops[k]? = some ok → freshOp ok.op = true → SL listed k → (B k).block < w.heap.size := fun k ok k1 k2 k3 k4 => by
        obtain ⟨_, _, vs, q3, _⟩ := inv.obj k ok k1 k2 k3 k4
        exact (Array.getElem?_eq_some_iff.1 q3).1
      rcases (sl0 k).1 k4 with k5 | rfl <;> rcases (sl0 l).1 l4 with l5 | rfl
      · have hki : k ≠ i := fun e => hni (e ▸ k5)
        have hli : l ≠ i := fun e => hni (e ▸ l5)
        rw [hB k hki, hB l hli] at hbl
        exact inv.inj k l ok ol k1 l1 k2 l2 k3 l3 k5 l5 hbl
      · have hki : k ≠ l := fun e => hni (e ▸ k5)
        rw [ho] at l2; cases l2
        rw [hB k hki, (hfr l3).1] at hbl
        have := hlt k ok k1 k2 k3 k5
        simp only at hbl
        omega
      · have hli : l ≠ k := fun e => hni (e ▸ l5)
        rw [ho] at k2; cases k2
        rw [hB l hli, (hfr k3).1] at hbl
        have := hlt l ol l1 l2 l3 l5
        simp only at hbl
        omega
      · rfl
  rcases hm.kind i o hi' ho with ⟨hfr, hex⟩ | ⟨hfr, hex⟩
  · have hex' : execA E ⟨.nil, n0 + m⟩ fr.t o = some (.val (val i) ⟨.nil, n0 + m⟩) := by rw [execA_congr hops]; exact hex _
    refine oper_sound hE hs st hf hex' rfl ?_
    intro cv w' M' x1 x2 x3
    have hM : MB M0 m B = M' := x1.pre.eq_of_length (by rw [MB_len, hl, x2.len])
    subst hM
    have nw : ∀ b, ¬ Wr (MB M0 m B) ⟨.nil, n0 + m⟩ b := fun b ⟨id, o, _, e, _⟩ => by
      have : (Tr.nil : Tr AObj).get id = some o := e
      rw [Tr.get_nil] at this; cases this
    exact fin cv w' B x1.size (fun b hb => (x1.old b hb (nw b)).1) x1.os x1.tape x1.output (fun _ _ => rfl) (fun _ => rfl) x3 (fun h => by rw [hfr] at h; cases h)
  · have hex' : execA E ⟨.nil, n0 + i⟩ fr.t o = some (.val (val i) (newRowA ⟨.nil, n0 + i⟩ (row i).1 (row i).2)) := by rw [execA_congr hops]; exact hex
    refine fresh_step hE st hf hfr hex' ?_
    intro v cv vs e cs hr hcs hv
    simp only [ARes.val.injEq] at hr
    obtain ⟨rfl, hr⟩ := hr
    obtain ⟨rfl, rfl⟩ := row_inj (H := ⟨.nil, n0 + i⟩) (by show n0 + i < 1000000; omega) (hm.rowlen i hi') hr.symm
    have hupd : ∀ k, k ≠ i → (fun k => if k = i then (⟨w.heap.size, 0, 0, 0⟩ : MEnt) else B k) k = B k := fun k hk => by simp [hk]
    have pre : ∀ p : Nat, p ≠ n0 + i → (MB M0 m fun k => if k = i then (⟨w.heap.size, 0, 0, 0⟩ : MEnt) else B k)[p]? = (MB M0 m B)[p]? := fun p hp => by
      by_cases h1 : p < n0
      · unfold MB
        rw [List.getElem?_append_left (by omega), List.getElem?_append_left (by omega)]
      · by_cases h2 : p - n0 < m
        · have e : p = M0.length + (p - n0) := by omega
          rw [e, MB_at M0 _ h2, MB_at M0 _ h2, if_neg (by omega)]
        · rw [List.getElem?_eq_none (by rw [MB_len]; omega), List.getElem?_eq_none (by rw [MB_len]; omega)]
    refine fin cv { w with heap := w.heap.push (.cells (List.toArray vs) (row i).1) } (fun k => if k = i then ⟨w.heap.size, 0, 0, 0⟩ else B k) (by simp) (fun b hb => by simp [Array.getElem?_push, Nat.ne_of_lt hb]) rfl rfl rfl hupd (fun h => by rw [hfr] at h; cases h) ?_ (fun _ => ⟨by simp, vs, by simp, ?_⟩)
    · have hpre : ((MB M0 m fun k => if k = i then (⟨w.heap.size, 0, 0, 0⟩ : MEnt) else B k).take (n0 + i) ++ [⟨w.heap.size, 0, 0, 0⟩]) <+: (MB M0 m fun k => if k = i then (⟨w.heap.size, 0, 0, 0⟩ : MEnt) else B k) := by
        have h3 := MB_at M0 (fun k => if k = i then (⟨w.heap.size, 0, 0, 0⟩ : MEnt) else B k) hi'
        rw [hl] at h3
        simp only [if_true] at h3
        have h4 : n0 + i < (MB M0 m fun k => if k = i then (⟨w.heap.size, 0, 0, 0⟩ : MEnt) else B k).length := by rw [MB_len]; omega
        rw [List.getElem?_eq_getElem h4] at h3
        simp only [Option.some.injEq] at h3
        have := List.take_append_getElem h4
        rw [h3] at this
        rw [this]
        exact List.take_prefix _ _
      exact (hv _ (by rw [List.length_take, MB_len]; show min (n0 + i) (M0.length + m) = n0 + i; omega)).mono hpre
    · have hbear := (hm.nmV i hi').2
      refine nmOks_rel (p := fun p => nm i p && decide (p ≠ n0 + i)) (fun p hp => ?_) _ _ ?_ hcs
      · simp only [Bool.and_eq_true, decide_eq_true_eq] at hp
        exact pre p hp.2
      · exact hm.nmR i o hi' ho hfr

/-- The memory when all rows are made. -/
def FHeap (ops : Array Oper) (m : Nat) (row : Nat → TypeId × List AV) (H0 HE : AHeap) : Prop :=
  HE.next = H0.next + m ∧ ∀ i o, HE.get i = some o → (i < H0.next ∧ H0.get i = some o) ∨ ∃ k ok, k < m ∧ ops[k]? = some ok ∧ freshOp ok.op = true ∧ i = H0.next + k ∧ o = .cells (row k).2.length (Tr.nil.putAll 0 (row k).2) (row k).1 none 0 false false
theorem FInv.full (hE : EnvOk E P I) (_hm : FLit E ops n0 m n val row frC nm) {fr0 : AFr} {M0 : List MEnt} {H0 HE : AHeap} {w0 w : World} {listed : Array Bool} {a : Act} {B : Nat → MEnt} {fr : AFr} (st0 : St E I M0 H0 w0) (hn0 : H0.next = n0)
    (inv : FInv E ro ops n0 m n val row fr0 M0 w0 listed a w B fr) (hall : ∀ j, j < m → SL listed j) (hH : FHeap ops m row H0 HE) : Ext M0 H0 w0 (MB M0 m B) HE w ∧ St E I (MB M0 m B) HE w ∧ FRel ro (MB M0 m B) fr a := by
  obtain ⟨_, hf⟩ := inv.st hE st0 hn0
  have hl : M0.length = n0 := by rw [st0.hr.len, hn0]
  have pre := MB_pre M0 m B
  have oldE : ∀ i o e, i < H0.next → H0.get i = some o → (MB M0 m B)[i]? = some e → M0[i]? = some e ∧ ORel M0 e w0 o ∧ e.block < w0.heap.size := fun i o e hi ho he => by
    obtain ⟨m1, h1, h2⟩ := st0.hr.obj i o ho
    have := pre_get pre h1
    rw [he] at this; cases this
    exact ⟨h1, h2, h2.lt⟩
  have newE : ∀ k ok, k < m → ops[k]? = some ok → freshOp ok.op = true → ∀ e, (MB M0 m B)[H0.next + k]? = some e → e = B k ∧ w0.heap.size ≤ e.block ∧ ORel (MB M0 m B) e w (.cells (row k).2.length (Tr.nil.putAll 0 (row k).2) (row k).1 none 0 false false) := fun k ok k1 k2 k3 e he => by
    have h1 := MB_at M0 B k1
    rw [hl, ← hn0, he] at h1
    cases h1
    obtain ⟨q1, q2, vs, q3, q4⟩ := inv.obj k ok k1 k2 k3 (hall k k1)
    exact ⟨rfl, q2, row_orel q1 q3 q4⟩
  have hr : HRel (MB M0 m B) HE w := by
    refine ⟨by rw [MB_len, hl, hH.1, hn0], fun i o h => ?_, fun i j o p mi mj hi hj hmi hmj hij hbl => ?_⟩
    · rcases hH.2 i o h with ⟨h1, h2⟩ | ⟨k, ok, k1, k2, k3, rfl, rfl⟩
      · obtain ⟨m1, h3, h4⟩ := st0.hr.obj i o h2
        exact ⟨m1, pre_get pre h3, h4.carry pre (inv.old _ h4.lt)⟩
      · have h1 := MB_at M0 B k1
        rw [hl, ← hn0] at h1
        exact ⟨_, h1, (newE k ok k1 k2 k3 _ h1).2.2⟩
    · rcases hH.2 i o hi with ⟨i1, i2⟩ | ⟨k, ok, k1, k2, k3, rfl, rfl⟩ <;> rcases hH.2 j p hj with ⟨j1, j2⟩ | ⟨l, ol, l1, l2, l3, rfl, rfl⟩
      · exact st0.hr.inj i j o p mi mj i2 j2 (oldE i o mi i1 i2 hmi).1 (oldE j p mj j1 j2 hmj).1 hij hbl
      · have := (oldE i o mi i1 i2 hmi).2.2
        have := (newE l ol l1 l2 l3 mj hmj).2.1
        omega
      · have := (oldE j p mj j1 j2 hmj).2.2
        have := (newE k ok k1 k2 k3 mi hmi).2.1
        omega
      · have e1 := (newE k ok k1 k2 k3 mi hmi).1
        have e2 := (newE l ol l1 l2 l3 mj hmj).1
        rw [e1, e2] at hbl
        have := inv.inj k l ok ol k1 l1 k2 l2 k3 l3 (hall k k1) (hall l l1) hbl
        exact absurd (by rw [this]) hij
  have x : Ext M0 H0 w0 (MB M0 m B) HE w := by
    have shut : ∀ b, b < w0.heap.size → ∀ i o e, HE.get i = some o → (MB M0 m B)[i]? = some e → e.block = b → H0.get i = some o ∧ M0[i]? = some e := fun b hb i o e h he hbl => by
      rcases hH.2 i o h with ⟨h1, h2⟩ | ⟨k, ok, k1, k2, k3, rfl, rfl⟩
      · exact ⟨h2, (oldE i o e h1 h2 he).1⟩
      · have := (newE k ok k1 k2 k3 e he).2.1
        omega
    refine ⟨pre, inv.hsize, inv.os, inv.tape, inv.output, fun b hb hn => ⟨inv.old b hb, fun ⟨i, o, e, h1, h2, h3, h4⟩ => ?_⟩, fun b hb hn ⟨i, o, e, h1, h2, h3⟩ => ?_⟩
    · obtain ⟨g1, g2⟩ := shut b hb i o e h1 h3 h4
      exact hn ⟨i, o, e, g1, h2, g2, h4⟩
    · obtain ⟨g1, g2⟩ := shut b hb i o e h1 h2 h3
      exact hn ⟨i, o, e, g1, g2, h3⟩
  exact ⟨x, ⟨hr, st0.g.mono pre, hE.carry _ _ _ _ _ _ st0.i x⟩, hf⟩

/-- The region: its last operation, a store, from the full memory. -/
theorem freshRegion (hE : EnvOk E P I) (hs : Sound E P I ih) (hm : FLit E ops n0 m n val row frC nm) {fr0 frF : AFr} {M0 : List MEnt} {H0 HE HF : AHeap} {w0 : World} {a0 : Act} (st0 : St E I M0 H0 w0) (hf0 : FRel ro M0 fr0 a0) (hn0 : H0.next = n0) (hn : fr0.n = n) (hb : n0 + m < 1000000)
    (hH : FHeap ops m row H0 HE) (hl : ∀ o, ops[m]? = some o → o.dst = none ∧ execA E HE frC o = some (.skip HF))
    (hF : frF.n = n ∧ frF.rd = fr0.rd ∧ frF.df = fr0.df ∧ ∀ x v, frF.t.get x = some v → (∃ j o, j < m ∧ ops[j]? = some o ∧ o.dst = some x ∧ v = val j) ∨ ((∀ (j : Nat) (o : Oper), ops[j]? = some o → o.dst ≠ some x) ∧ fr0.t.get x = some v)) (id : Nat) :
    (Code.region id ops true).wpIn (FF ro) 0 P (CPost ro M0 H0 w0 .normal frF HF) a0 w0 := by
  refine wpIn_region_any hE.mixed ?_
  have no : ∀ j, ¬ SL (Array.replicate ops.size false) j := fun j hj => by
    unfold SL at hj; rw [Array.getElem?_replicate] at hj; split at hj <;> simp at hj
  -- before the last one, and behind it
  let Inv : Array Bool → Act → World → Prop := fun listed a w => (∃ B fr, FInv E ro ops n0 m n val row fr0 M0 w0 listed a w B fr) ∧ ¬ SL listed m
  have allIn : ∀ listed : Array Bool, listed.size = ops.size → Region.ready .any ops listed = [] → ∀ j, j < ops.size → SL listed j := by
    intro listed hsz hr j
    induction j using Nat.strongRecOn with
    | _ j ihj =>
      intro hj
      have hjl : j < listed.size := by rw [hsz]; exact hj
      have hlj : listed[j]? = some listed[j] := Array.getElem?_eq_getElem hjl
      cases hbj : listed[j] with
      | true => unfold SL; rw [hlj, hbj]
      | false =>
        exfalso
        have ho : ops[j]? = some ops[j] := Array.getElem?_eq_getElem hj
        have : j ∈ Region.ready .any ops listed := by
          simp only [Region.ready, List.mem_filter, List.mem_range, Bool.and_eq_true, Bool.not_eq_true']
          refine ⟨hj, ?_, ?_⟩
          · rw [Array.getD_eq_getD_getElem?, hlj, hbj]; rfl
          · rw [ho]
            simp only [Option.map_some, Option.getD_some]
            rw [Array.all_eq_true_iff_forall_mem]
            intro e he
            cases hbb : Region.binds .any e with
            | false => rfl
            | true =>
              have hlt := hm.low j _ ho e (by simpa using he) hbb
              have := ihj e.on hlt (Nat.lt_trans hlt hj)
              unfold SL at this
              simp [Array.getD_eq_getD_getElem?, this]
        rw [hr] at this
        cases this
  have walk : ∀ (fuel : Nat) (listed : Array Bool) (a : Act) (w : World), listed.toList.count false = fuel → Inv listed a w → wpAnyIn (FF ro) 0 P .any ops (CPost ro M0 H0 w0 .normal frF HF) fuel listed a w := by
    intro fuel
    induction fuel with
    | zero =>
      intro listed a w hc ⟨⟨B, fr, inv⟩, hnm⟩
      exfalso
      have hmlt : m < listed.size := by rw [inv.size, hm.size]; omega
      have : false ∈ listed.toList := by
        cases hb : listed[m] with
        | true => exact absurd (by unfold SL; rw [Array.getElem?_eq_getElem hmlt, hb]) hnm
        | false => rw [← hb]; simp
      rw [List.count_eq_zero] at hc
      exact hc this
    | succ fuel ihf =>
      intro listed a w hc ⟨⟨B, fr, inv⟩, hnm⟩
      refine ⟨fun hr => absurd (allIn listed inv.size hr m (by rw [hm.size]; omega)) hnm, fun i hi => ?_⟩
      obtain ⟨oi, hoi, hlf, _⟩ := ready_spec hi inv.size
      have hil : i < listed.size := (Array.getElem?_eq_some_iff.1 hlf).1
      by_cases him : i = m
      · -- the last
        refine fresh_any (next := wpAnyIn (FF ro) 0 P .any ops (CPost ro M0 H0 w0 .normal frF HF) fuel) hE hs hm st0 hn0 hb inv hi (fun h => absurd him h) ?_
        · intro o _ ho hall
          obtain ⟨x, st, hf⟩ := inv.full hE hm st0 hn0 hall hH
          obtain ⟨hd, hex⟩ := hl o ho
          have hops : ∀ y ∈ o.op.operands.toList, opd E fr.t y = opd E frC y := fun y hy => opd_congr fun t ht => by
            have hyt : y = .tmp t := by
              cases y with
              | tmp u =>
                simp only [isTmp, Nat.beq_eq] at ht
                rw [ht]
              | _ => cases ht
            obtain ⟨k, p, k1, k2, k3, k4⟩ := hm.rd m o y ho hy t hyt
            rw [inv.f1 k p t k1 k2 k3 (hall k k1)]
            obtain ⟨d', h1, h2, h3⟩ := hm.dst k p k1 k2
            rw [k3] at h1; cases h1
            rw [h3]
          have hex' : execA E HE fr.t o = some (.skip HF) := by rw [execA_congr hops]; exact hex
          refine oper_sound hE hs st hf hex' rfl ?_
          intro w' M' y1 y2
          rw [hd]
          have sl1 : ∀ j, j < ops.size → SL (listed.setIfInBounds i true) j := fun j hj => (SL_set hil).2 (by
            by_cases hjm : j = m
            · exact .inr (hjm.trans him.symm)
            · exact .inl (hall j (by rw [hm.size] at hj; omega)))
          have hr0 : Region.ready .any ops (listed.setIfInBounds i true) = [] := by
            rw [List.eq_nil_iff_forall_not_mem]
            intro j hj
            obtain ⟨oj, hoj, hlj, _⟩ := ready_spec hj (by simpa using inv.size)
            have := sl1 j (Array.getElem?_eq_some_iff.1 hoj).1
            unfold SL at this
            rw [hlj] at this; cases this
          have post : CPost ro M0 H0 w0 .normal frF HF .normal (a.put none undef) w' := by
            refine ⟨M', x.trans y1, y2, rfl, ⟨by rw [hF.2.1]; exact hf0.rd, by rw [hF.1]; exact inv.an, fun y v hy => ?_, by rw [hF.2.2.1, ← inv.fdf]; exact hf.df.mono y1.pre⟩⟩
            have : fr.t.get y = some v := by
              rcases hF.2.2.2 y v hy with ⟨j, oj, j1, j2, j3, rfl⟩ | ⟨h1, h2⟩
              · exact inv.f1 j oj y j1 j2 j3 (hall j j1)
              · exact inv.f3 y v h1 h2
            obtain ⟨cv, c1, c2⟩ := (hf.mono y1.pre).t y v this
            exact ⟨cv, c1, c2⟩
          cases fuel with
          | zero => exact ⟨hr0, post⟩
          | succ f => exact ⟨fun _ => post, fun j hj => by rw [hr0] at hj; cases hj⟩
      · refine fresh_any (next := wpAnyIn (FF ro) 0 P .any ops (CPost ro M0 H0 w0 .normal frF HF) fuel) hE hs hm st0 hn0 hb inv hi (fun _ a' w' B' fr' inv' => ihf _ a' w' (count_set hlf hc) ⟨⟨B', fr', inv'⟩, fun h => ?_⟩) (fun o h => absurd h him)
        rcases (SL_set hil).1 h with h | h
        · exact hnm h
        · exact him h.symm
  refine walk ops.size _ a0 _ (by simp) ⟨⟨fun _ => ⟨0, 0, 0, 0⟩, fr0, by simp, fun j o _ hj => absurd hj (no j), Nat.le_refl _, fun _ _ => rfl, rfl, rfl, rfl, hf0.rd, hn, by rw [← hn]; exact hf0.n, hf0.df, rfl, fun x v hx => ?_, fun j o d _ _ _ hj => absurd hj (no j), fun _ _ _ h => h, fun k o _ _ _ hk => absurd hk (no k), fun k l o p _ _ _ _ _ _ hk => absurd hk (no k)⟩, no m⟩
  obtain ⟨cv, h1, h2⟩ := hf0.t x v hx
  exact ⟨cv, h1, .inl h2⟩
end

/-! ### The static side, reckoned -/
noncomputable section
def flVal (vals : List AV) (j : Nat) : AV := vals.getD j .nilp
def flRow (rows : List (TypeId × List AV)) (j : Nat) : TypeId × List AV := rows.getD j (0, [])
def flNm (n0 : Nat) (nms : List (List Nat)) (j i : Nat) : Bool := Nat.ble n0 i && memN (i - n0) (nms.getD j [])
def isOpT (ops : Array Oper) (wm : Tr Nat) (m : Nat) (o : Oper) : Operand → Bool
  | .tmp t => match wrM ops wm t with
    | some (i, _) => Nat.blt i m && hasEdge o i
    | none => false
  | _ => true
def eqbO (x : Option AV) (v : AV) : Bool := match x with
  | some u => AV.eqb u v
  | none => false
/-- The names of j's value: its own, or those of one that stands right ahead. -/
def nmFrom (ops : Array Oper) (m : Nat) (nms : List (List Nat)) (j : Nat) (o : Oper) (k : Nat) : Bool := Nat.blt k m && ((match ops[k]? with | some p => freshOp p.op | none => false) && (Nat.beq k j || (List.range j).any fun i => hasEdge o i && memN k (nms.getD i [])))
def flOne (ops : Array Oper) (n0 m n : Nat) (vals : List AV) (rows : List (TypeId × List AV)) (frC : Tr AV) (nms : List (List Nat)) (wm : Tr Nat) (j : Nat) (o : Oper) : Bool :=
  isNo o.guard && (o.after.toList.all (fun e => !(bindsB e) || Nat.blt e.on j) && (o.op.operands.toList.all (isOpT ops wm m o) &&
  bif Nat.blt j m then (match o.dst with | some d => Nat.blt d n && eqbO (frC.get d) (flVal vals j) | none => false) && (Nat.ble (flRow rows j).2.length 1000000 && (nmOk (flNm n0 nms j) (flVal vals j) && (nmOks (flNm n0 nms j) (flRow rows j).2 &&
    (nmOks (fun p => flNm n0 nms j p && !(Nat.beq p (n0 + j))) (flRow rows j).2 && (nms.getD j []).all (nmFrom ops m nms j o)))))
  else (List.range m).all fun i => hasEdge o i))
def flOk (ops : Array Oper) (n0 m n : Nat) (vals : List AV) (rows : List (TypeId × List AV)) (frC : Tr AV) (nms : List (List Nat)) : Bool := match wmap ops.toList 0 .nil with
  | none => false
  | some wm => Nat.beq ops.size (m + 1) && (Nat.ble n 1000000 && (List.range ops.size).all fun j => match ops[j]? with | some o => flOne ops n0 m n vals rows frC nms wm j o | none => false)
end
section
variable {E : Env} {ops : Array Oper} {n0 m n : Nat}
theorem memN_iff (k : Nat) : ∀ l : List Nat, memN k l = true ↔ k ∈ l
  | [] => by simp [memN]
  | x :: xs => by simp [memN, memN_iff k xs]
mutual
theorem nmOk_mono {p q : Nat → Bool} (h : ∀ i, p i = true → q i = true) : ∀ v : AV, nmOk p v = true → nmOk q v = true
  | .ptr i _, hp => h i hp
  | .sl i _ _ _, hp => h i hp
  | .yld i, hp => h i hp
  | .mapv i, hp => h i hp
  | .fn _ x y, hp => by
    simp only [nmOk, Bool.and_eq_true] at hp ⊢
    exact ⟨nmOks_mono h x hp.1, nmOks_mono h y hp.2⟩
  | .iface _ v, hp => by
    simp only [nmOk] at hp ⊢
    exact nmOk_mono h v hp
  | .agg l, hp => by
    simp only [nmOk] at hp ⊢
    exact nmOks_mono h l hp
  | .tup l, hp => by
    simp only [nmOk] at hp ⊢
    exact nmOks_mono h l hp
  | .bool _, _ => rfl
  | .int _ _, _ => rfl
  | .str _, _ => rfl
  | .nilp, _ => rfl
  | .nils, _ => rfl
  | .sl0, _ => rfl
  | .nilf, _ => rfl
  | .nili, _ => rfl
  | .nilm, _ => rfl
theorem nmOks_mono {p q : Nat → Bool} (h : ∀ i, p i = true → q i = true) : ∀ l : List AV, nmOks p l = true → nmOks q l = true
  | [], _ => rfl
  | a :: l, hp => by
    simp only [nmOks, Bool.and_eq_true] at hp ⊢
    exact ⟨nmOk_mono h a hp.1, nmOks_mono h l hp.2⟩
end

theorem flit_of {vals : List AV} {rows : List (TypeId × List AV)} {frC : Tr AV} {nms : List (List Nat)} (h : flOk ops n0 m n vals rows frC nms = true)
    (kind : ∀ (j : Nat) (o : Oper), j < m → ops[j]? = some o → (freshOp o.op = false ∧ ∀ H, execA E H frC o = some (.val (flVal vals j) H)) ∨ (freshOp o.op = true ∧ execA E ⟨.nil, n0 + j⟩ frC o = some (.val (flVal vals j) (newRowA ⟨.nil, n0 + j⟩ (flRow rows j).1 (flRow rows j).2)))) :
    FLit E ops n0 m n (flVal vals) (flRow rows) frC (flNm n0 nms) := by
  unfold flOk at h
  split at h
  · cases h
  rename_i wm hwm
  simp only [Bool.and_eq_true, Nat.beq_eq, Nat.ble_eq, List.all_eq_true, List.mem_range] at h
  obtain ⟨hsz, hn, hall⟩ := h
  have one : ∀ (j : Nat) (o : Oper), ops[j]? = some o → flOne ops n0 m n vals rows frC nms wm j o = true := fun j o hj => by
    have := hall j (Array.getElem?_eq_some_iff.1 hj).1
    rw [hj] at this
    exact this
  have parts : ∀ (j : Nat) (o : Oper), ops[j]? = some o → isNo o.guard = true ∧ (o.after.toList.all (fun e => !(bindsB e) || Nat.blt e.on j)) = true ∧ (o.op.operands.toList.all (isOpT ops wm m o)) = true := fun j o hj => by
    have := one j o hj
    unfold flOne at this
    simp only [Bool.and_eq_true] at this
    exact ⟨this.1, this.2.1, this.2.2.1⟩
  have low : ∀ (j : Nat) (o : Oper), ops[j]? = some o → ∀ e ∈ o.after.toList, Region.binds .any e = true → e.on < j := fun j o hj e he hb => by
    have := List.all_eq_true.1 (parts j o hj).2.1 e he
    rw [bindsB_of hb] at this
    simpa using this
  have rest : ∀ (j : Nat) (o : Oper), j < m → ops[j]? = some o → (∃ d, o.dst = some d ∧ d < n ∧ frC.get d = some (flVal vals j)) ∧ (flRow rows j).2.length ≤ 1000000 ∧ nmOk (flNm n0 nms j) (flVal vals j) = true ∧ nmOks (flNm n0 nms j) (flRow rows j).2 = true ∧
      nmOks (fun p => flNm n0 nms j p && !(Nat.beq p (n0 + j))) (flRow rows j).2 = true ∧ ∀ k ∈ nms.getD j [], nmFrom ops m nms j o k = true := fun j o hjm hj => by
    have := one j o hj
    unfold flOne at this
    have hb : Nat.blt j m = true := by rw [Nat.blt_eq]; exact hjm
    rw [hb] at this
    simp only [cond_true, Bool.and_eq_true, Nat.ble_eq] at this
    obtain ⟨_, _, _, h1, h2, h3, h4, h5, h6⟩ := this
    refine ⟨?_, h2, h3, h4, h5, fun k hk => List.all_eq_true.1 h6 k hk⟩
    split at h1
    case h_2 => cases h1
    rename_i d hd
    simp only [Bool.and_eq_true, Nat.blt_eq] at h1
    refine ⟨d, hd, h1.1, ?_⟩
    have h7 := h1.2
    unfold eqbO at h7
    split at h7
    · rename_i u hu
      rw [hu, eqb_eq _ _ h7]
    · cases h7
  have dstm : ∀ j, j < m → ∃ o, ops[j]? = some o := fun j hj => ⟨_, Array.getElem?_eq_getElem (by rw [hsz]; omega)⟩
  refine ⟨hsz, hn, fun j o hj => ?_, low, fun j o hjm hj => (rest j o hjm hj).1, fun i j p o d hi hj hp ho => ?_, fun j o x hj hx t ht => ?_, kind, fun j hj => ?_, fun j hj => ?_, fun j o hjm hj hf => ?_, fun listed hcl => ?_, fun o ho j hj => ?_⟩
  · have := (parts j o hj).1
    cases e : o.guard with
    | none => rfl
    | some _ => rw [e] at this; cases this
  · have h1 := (wmap_spec _ _ _ _ hwm).2 i p d (by simpa using hi) hp
    have h2 := (wmap_spec _ _ _ _ hwm).2 j o d (by simpa using hj) ho
    rw [h1] at h2
    simpa using h2
  · have := List.all_eq_true.1 (parts j o hj).2.2 x hx
    subst ht
    simp only [isOpT] at this
    split at this
    case h_2 => cases this
    rename_i i p hw
    simp only [Bool.and_eq_true, Nat.blt_eq] at this
    obtain ⟨q1, q2⟩ := wrM_some hw
    exact ⟨i, p, this.1, q1, q2, this.2⟩
  · obtain ⟨o, ho⟩ := dstm j hj
    exact (rest j o hj ho).2.1
  · obtain ⟨o, ho⟩ := dstm j hj
    exact ⟨(rest j o hj ho).2.2.1, (rest j o hj ho).2.2.2.1⟩
  · refine nmOks_mono (fun p hp => ?_) _ (rest j o hjm hj).2.2.2.2.1
    simp only [Bool.and_eq_true, Bool.not_eq_true'] at hp
    simp only [Bool.and_eq_true, decide_eq_true_eq]
    exact ⟨hp.1, Nat.ne_of_beq_eq_false hp.2⟩
  · have key : ∀ j, j < m → SL listed j → ∀ k ∈ nms.getD j [], k < m ∧ (∃ o, ops[k]? = some o ∧ freshOp o.op = true) ∧ SL listed k := by
      intro j
      induction j using Nat.strongRecOn with
      | _ j ihj =>
        intro hj hsj k hk
        obtain ⟨o, ho⟩ := dstm j hj
        have h1 := (rest j o hj ho).2.2.2.2.2 k hk
        unfold nmFrom at h1
        simp only [Bool.and_eq_true, Nat.blt_eq, Bool.or_eq_true, Nat.beq_eq, List.any_eq_true, List.mem_range] at h1
        obtain ⟨h2, h3, h4⟩ := h1
        refine ⟨h2, ?_, ?_⟩
        · split at h3
          · rename_i p hp; exact ⟨p, hp, h3⟩
          · cases h3
        · rcases h4 with rfl | ⟨i, h5, h6, h7⟩
          · exact hsj
          · obtain ⟨e, he, hb, rfl⟩ := hasEdge_spec h6
            exact (ihj e.on h5 (by omega) (hcl j o ho hsj e he hb) k ((memN_iff _ _).1 h7)).2.2
    intro j hj hsj i hi
    unfold flNm at hi
    simp only [Bool.and_eq_true, Nat.ble_eq, memN_iff] at hi
    obtain ⟨q1, ⟨o, q2, q3⟩, q4⟩ := key j hj hsj _ hi.2
    exact ⟨i - n0, o, q1, by omega, q2, q3, q4⟩
  · have := one m o ho
    unfold flOne at this
    have hb : Nat.blt m m = false := by
      cases e : Nat.blt m m with
      | false => rfl
      | true => rw [Nat.blt_eq] at e; omega
    rw [hb] at this
    simp only [cond_false, Bool.and_eq_true, List.all_eq_true, List.mem_range] at this
    exact this.2.2.2 j hj
end

/-! ### The region as a step from one known state to the next -/
noncomputable section
def rowObj (r : TypeId × List AV) : AObj := .cells r.2.length (Tr.nil.putAll 0 r.2) r.1 none 0 false false
def flObjs (n0 : Nat) (row : Nat → TypeId × List AV) : List Nat → Tr AObj → Tr AObj
  | [], t => t
  | k :: ks, t => flObjs n0 row ks (t.set (n0 + k) (rowObj (row k)))
def flHeap (H : AHeap) (m : Nat) (row : Nat → TypeId × List AV) (ks : List Nat) : AHeap := ⟨flObjs H.next row ks H.objs, H.next + m⟩
def slotsOf : List Oper → Nat → List (Nat × Nat)
  | [], _ => []
  | o :: os, j => match o.dst with
    | some d => (d, j) :: slotsOf os (j + 1)
    | none => slotsOf os (j + 1)
def flSlots (val : Nat → AV) : List (Nat × Nat) → Tr AV → Tr AV
  | [], t => t
  | p :: r, t => flSlots val r (t.set p.1 (val p.2))
def flFrame (val : Nat → AV) (ops : Array Oper) (fr : AFr) : AFr := ⟨fr.n, flSlots val (slotsOf ops.toList 0) fr.t, fr.df, fr.rd⟩
end
section
theorem flObjs_get {n0 : Nat} {row : Nat → TypeId × List AV} : ∀ (ks : List Nat) {t : Tr AObj} {i : Nat} {o : AObj}, (flObjs n0 row ks t).get i = some o → t.get i = some o ∨ ∃ k ∈ ks, i = n0 + k ∧ o = rowObj (row k)
  | [], _, _, _, h => .inl h
  | k :: ks, t, i, o, h => by
    rcases flObjs_get ks h with h | ⟨l, hl, h1, h2⟩
    · rcases Tr.get_set h with ⟨rfl, rfl⟩ | ⟨_, h⟩
      · exact .inr ⟨k, List.mem_cons_self, rfl, rfl⟩
      · exact .inl h
    · exact .inr ⟨l, List.mem_cons_of_mem _ hl, h1, h2⟩
theorem flSlots_get {val : Nat → AV} : ∀ (l : List (Nat × Nat)) {t : Tr AV} {x : Nat} {v : AV}, (flSlots val l t).get x = some v → (∃ p ∈ l, p.1 = x ∧ v = val p.2) ∨ ((∀ p ∈ l, p.1 ≠ x) ∧ t.get x = some v)
  | [], _, _, _, h => .inr ⟨fun p hp => by simp at hp, h⟩
  | p :: r, t, x, v, h => by
    rcases flSlots_get r h with ⟨q, hq, h1, h2⟩ | ⟨h1, h2⟩
    · exact .inl ⟨q, List.mem_cons_of_mem _ hq, h1, h2⟩
    · rcases Tr.get_set h2 with ⟨e1, e2⟩ | ⟨hne, h3⟩
      · exact .inl ⟨p, List.mem_cons_self, e1.symm, e2.symm⟩
      · refine .inr ⟨fun q hq => ?_, h3⟩
        rcases List.mem_cons.1 hq with rfl | hq
        · exact fun e => hne e.symm
        · exact h1 q hq
theorem slotsOf_mem : ∀ (os : List Oper) (j : Nat) (d k : Nat), (d, k) ∈ slotsOf os j ↔ ∃ (q : Nat) (o : Oper), os[q]? = some o ∧ o.dst = some d ∧ k = j + q
  | [], j, d, k => by simp [slotsOf]
  | o :: os, j, d, k => by
    have step : (∃ (q : Nat) (p : Oper), (o :: os)[q]? = some p ∧ p.dst = some d ∧ k = j + q) ↔ (o.dst = some d ∧ k = j) ∨ ∃ (q : Nat) (p : Oper), os[q]? = some p ∧ p.dst = some d ∧ k = j + 1 + q := by
      constructor
      · rintro ⟨q, p, h1, h2, h3⟩
        cases q with
        | zero =>
          simp only [List.getElem?_cons_zero, Option.some.injEq] at h1
          subst h1
          exact .inl ⟨h2, h3⟩
        | succ q => exact .inr ⟨q, p, by simpa using h1, h2, by omega⟩
      · rintro (⟨h1, h2⟩ | ⟨q, p, h1, h2, h3⟩)
        · exact ⟨0, o, rfl, h1, h2⟩
        · exact ⟨q + 1, p, by simpa using h1, h2, by omega⟩
    rw [step, ← slotsOf_mem os (j + 1) d k]
    have e2 : slotsOf (o :: os) j = match o.dst with
      | some d => (d, j) :: slotsOf os (j + 1)
      | none => slotsOf os (j + 1) := rfl
    rw [e2]
    cases e : o.dst with
    | none => simp
    | some d' =>
      simp only [List.mem_cons, Prod.mk.injEq, Option.some.injEq]
      constructor
      · rintro (⟨rfl, rfl⟩ | h)
        · exact .inl ⟨rfl, rfl⟩
        · exact .inr h
      · rintro (⟨rfl, rfl⟩ | h)
        · exact .inl ⟨rfl, rfl⟩
        · exact .inr h
variable {E : Env} {P : Program} {I : List MEnt → AHeap → World → Prop} {ih : Task → Option TRes} {ro : Option Nat} {ops : Array Oper} {n0 m n : Nat} {val : Nat → AV} {row : Nat → TypeId × List AV} {frC : Tr AV} {nm : Nat → Nat → Bool}
theorem Tri.fresh (hE : EnvOk E P I) (hs : Sound E P I ih) (hm : FLit E ops n0 m n val row frC nm) {fr : AFr} {H HF : AHeap} (hn0 : H.next = n0) (hn : fr.n = n) (hb : n0 + m < 1000000) (ks : List Nat)
    (hks : ∀ k ∈ ks, k < m ∧ ∃ ok, ops[k]? = some ok ∧ freshOp ok.op = true) (hl : ∀ o, ops[m]? = some o → o.dst = none ∧ execA E (flHeap H m row ks) frC o = some (.skip HF)) (id : Nat) {Q : TQ} (hQ : Q .normal (flFrame val ops fr) HF) :
    Tri E P I ro (.region id ops true) fr H Q := by
  intro M w a st hf
  have hH : FHeap ops m row H (flHeap H m row ks) := ⟨rfl, fun i o h => by
    rcases flObjs_get ks (t := H.objs) h with h | ⟨k, hk, rfl, rfl⟩
    · exact .inl ⟨by have := st.hr.lt h; rw [st.hr.len] at this; exact this, h⟩
    · obtain ⟨h1, ok, h2, h3⟩ := hks k hk
      exact .inr ⟨k, ok, h1, h2, h3, rfl, rfl⟩⟩
  refine wpIn_mono (freshRegion hE hs hm st hf hn0 hn hb hH hl (frF := flFrame val ops fr) ⟨hn, rfl, rfl, fun x v hx => ?_⟩ id) ?_
  · rcases flSlots_get _ hx with ⟨⟨d, j⟩, hp, rfl, rfl⟩ | ⟨h1, h2⟩
    · obtain ⟨q, o, h1, h2, h3⟩ := (slotsOf_mem _ 0 d j).1 hp
      obtain rfl : j = q := by omega
      have ho : ops[j]? = some o := by simpa using h1
      have hjm : j < m := by
        have h4 := (Array.getElem?_eq_some_iff.1 ho).1
        rw [hm.size] at h4
        by_cases e : j = m
        · subst e
          rw [(hl o ho).1] at h2; cases h2
        · omega
      exact .inl ⟨j, o, hjm, ho, h2, rfl⟩
    · exact .inr ⟨fun j o ho hd => h1 (x, j) ((slotsOf_mem _ 0 x j).2 ⟨j, o, by simpa using ho, hd, by omega⟩) rfl, h2⟩
  · rintro ex a1 w1 ⟨M', x1, x2, x3, x4⟩
    exact ⟨.normal, _, _, M', hQ, st.next hE x1 x2, x3, x4⟩
end

/-! ### The values, reckoned -/
noncomputable section
def flStep (E : Env) (n0 : Nat) : List Oper → Nat → Tr AV → Tr AV
  | [], _, t => t
  | o :: os, j, t => flStep E n0 os (j + 1) (match o.dst, execA E ⟨.nil, n0 + j⟩ t o with
    | some d, some (.val v _) => t.set d v
    | _, _ => t)
def flFrC (E : Env) (ops : Array Oper) (n0 m : Nat) : Tr AV := flStep E n0 (ops.toList.take m) 0 .nil
def flValsOf (ops : Array Oper) (m : Nat) (frC : Tr AV) : List AV := (List.range m).map fun j => match ops[j]? with
  | some o => (match o.dst with
    | some d => (frC.get d).getD .nilp
    | none => .nilp)
  | none => .nilp
def flRowOf (E : Env) (ops : Array Oper) (n0 : Nat) (frC : Tr AV) (j : Nat) : TypeId × List AV := match ops[j]? with
  | some o => (match execA E ⟨.nil, n0 + j⟩ frC o with
    | some (.val _ H') => (match H'.get (n0 + j) with
      | some (.cells n t e _ _ _ _) => (e, (t.getAll 0 n).getD [])
      | _ => (0, []))
    | _ => (0, []))
  | none => (0, [])
def flRowsOf (E : Env) (ops : Array Oper) (n0 m : Nat) (frC : Tr AV) : List (TypeId × List AV) := (List.range m).map (flRowOf E ops n0 frC)
def getSkip : Option ARes → AHeap
  | some (.skip H) => H
  | _ => default
def isSkip : Option ARes → Bool
  | some (.skip _) => true
  | _ => false
def regOps : Code → Array Oper
  | .region _ ops _ => ops
  | _ => #[]
end
theorem skip_of {r : Option ARes} (h : isSkip r = true) : r = some (.skip (getSkip r)) := by
  unfold isSkip at h
  split at h
  · rfl
  · cases h
end Go.Vai
