/- A region that lays constants into a new map, in whatever order: what it comes to, the map's entries in some order.
A row with listed variables whose contract may also ask for the world's shape; a variable that is not listed, of which only its kind is known. -/
import Derived.Test.YthlcgkebfodnmaaGreatDoorVaiH
import Derived.HandedShaped
section
namespace Go.Vai
noncomputable section
def pureV (E : Env) (o : Oper) : Option AV :=
  match o.op with
  | .build t ps => (match partsA E .nil ps.toList with
    | some l => buildA E t l
    | none => none)
  | _ => none
def bindsB (e : Edge) : Bool := match e.ground with
  | .textOnly _ => false
  | .gcOnly _ => false
  | _ => true
def hasEdge (o : Oper) (i : Nat) : Bool := o.after.toList.any fun e => Nat.beq e.on i && bindsB e
def isMk (o : Oper) : Bool := match o.op with
  | .makeMap _ none => true
  | _ => false
def mvOf (o : Oper) : Option Tmp := match o.op with
  | .move (.tmp s) => some s
  | .assign (.tmp s) => some s
  | _ => none
def insOf (t : TypeId) (d0 : Tmp) (o : Oper) : Option (Tmp × AV) := match o.op with
  | .insert t' (.tmp m) (.tmp s) (.const c) => bif Nat.beq t' t && Nat.beq m d0 then (match constA c with
    | some v => some (s, v)
    | none => none) else none
  | _ => none
def wrM (ops : Array Oper) (wm : Tr Nat) (s : Tmp) : Option (Nat × Oper) := match wm.get s with
  | some i => (match ops[i]? with
    | some p => (match p.dst with
      | some d => bif Nat.beq d s then some (i, p) else none
      | none => none)
    | none => none)
  | none => none
def keyM (E : Env) (ops : Array Oper) (wm : Tr Nat) (s : Tmp) : Option AV := match wrM ops wm s with
  | some (_, o) => pureV E o
  | none => none
def isNo {α : Type} : Option α → Bool
  | none => true
  | some _ => false
def okI (E : Env) (ops : Array Oper) (kt : TypeId) (wm : Tr Nat) (s : Tmp) (o : Oper) : Bool :=
  isNo o.dst && (hasEdge o 0 && (match wrM ops wm s, keyM E ops wm s with
    | some (i, _), some k => hasEdge o i && keyOk E kt k
    | _, _ => false))
def okV (ops : Array Oper) (wm : Tr Nat) (s : Tmp) (o : Oper) : Bool := match wrM ops wm s with
  | some (i, p) => hasEdge o i && (isMk p || (mvOf p).isSome)
  | none => false
def okM (E : Env) (ops : Array Oper) (t kt : TypeId) (d0 n : Nat) (wm : Tr Nat) (j : Nat) (o : Oper) : Bool :=
  isNo o.guard && (o.after.toList.all (fun e => !(bindsB e) || Nat.blt e.on j) && ((match o.dst with | some d => Nat.blt d n | none => true) &&
  (match insOf t d0 o with
  | some (s, _) => okI E ops kt wm s o
  | none => (match mvOf o with
    | some s => okV ops wm s o
    | none => bif isMk o then Nat.beq j 0 && (match o.dst with | some d => Nat.beq d d0 | none => false) else (pureV E o).isSome && !(Nat.beq j 0)))))
def insK (E : Env) (ops : Array Oper) (t : TypeId) (d0 : Tmp) (wm : Tr Nat) (j : Nat) : Option (AV × AV) := match ops[j]? with
  | some o => (match insOf t d0 o with
    | some (s, v) => (match keyM E ops wm s with
      | some k => some (k, v)
      | none => none)
    | none => none)
  | none => none
def isF : Option Bool → Bool
  | some false => true
  | _ => false
def unlikeM (E : Env) (ops : Array Oper) (t kt : TypeId) (d0 : Tmp) (wm : Tr Nat) (i j : Nat) : Bool := match insK E ops t d0 wm i, insK E ops t d0 wm j with
  | some (k, _), some (l, _) => Nat.beq i j || isF (eqK E kt k l)
  | _, _ => true
def mapD (E : Env) (t kt : TypeId) : Bool := match E.ty t with
  | some ti => (match ti.d with
    | .map k _ => Nat.beq k kt
    | _ => false)
  | none => false
def mlOk (E : Env) (ops : Array Oper) (t kt : TypeId) (d0 n : Nat) : Bool := match wmap ops.toList 0 .nil with
  | none => false
  | some wm => mapD E t kt && (Nat.ble n 1000000 && ((match ops[0]? with | some o => isMk o && (match o.dst with | some d => Nat.beq d d0 | none => false) | none => false) &&
    ((List.range ops.size).all (fun j => match ops[j]? with | some o => okM E ops t kt d0 n wm j o | none => true) && (List.range ops.size).all fun i => (List.range ops.size).all fun j => unlikeM E ops t kt d0 wm i j)))
structure MLit (E : Env) (ops : Array Oper) (t kt : TypeId) (d0 n : Nat) (wm : Tr Nat) : Prop where
  ty : ∃ ti v, E.ty t = some ti ∧ ti.d = .map kt v
  nle : n ≤ 1000000
  zero : ∃ o, ops[0]? = some o ∧ isMk o = true ∧ o.dst = some d0
  ok : ∀ j o, ops[j]? = some o → okM E ops t kt d0 n wm j o = true
  unlike : ∀ i j k v l x, insK E ops t d0 wm i = some (k, v) → insK E ops t d0 wm j = some (l, x) → i ≠ j → eqK E kt k l = some false
  wr : ∀ j o d, ops[j]? = some o → o.dst = some d → wm.get d = some j
theorem mlit_of {E : Env} {ops : Array Oper} {t kt : TypeId} {d0 n : Nat} (h : mlOk E ops t kt d0 n = true) : ∃ wm, wmap ops.toList 0 .nil = some wm ∧ MLit E ops t kt d0 n wm := by
  unfold mlOk at h
  split at h
  · cases h
  rename_i wm hwm
  simp only [Bool.and_eq_true, Nat.ble_eq, List.all_eq_true, List.mem_range] at h
  obtain ⟨h1, h2, h3, h4, h5⟩ := h
  refine ⟨wm, hwm, ?_, h2, ?_, fun j o hj => ?_, fun i j k v l x hi hj hij => ?_, fun j o d hj hd => ?_⟩
  · unfold mapD at h1
    split at h1
    case h_2 => cases h1
    rename_i ti hti
    split at h1
    case h_2 => cases h1
    rename_i k v hd
    rw [Nat.beq_eq] at h1
    subst h1
    exact ⟨ti, v, hti, hd⟩
  · split at h3
    case h_2 => cases h3
    rename_i o ho
    simp only [Bool.and_eq_true] at h3
    obtain ⟨h6, h7⟩ := h3
    refine ⟨o, ho, h6, ?_⟩
    split at h7
    case h_2 => cases h7
    rename_i d hd
    rw [Nat.beq_eq] at h7
    rw [hd, h7]
  · have := h4 j (Array.getElem?_eq_some_iff.1 hj).1
    rw [hj] at this
    exact this
  · have lt : ∀ {i : Nat} {y : AV × AV}, insK E ops t d0 wm i = some y → i < ops.size := fun {i y} h => by
      unfold insK at h
      split at h
      case h_2 => cases h
      rename_i o ho
      exact (Array.getElem?_eq_some_iff.1 ho).1
    have := h5 i (lt hi) j (lt hj)
    unfold unlikeM at this
    rw [hi, hj] at this
    simp only [Bool.or_eq_true, Nat.beq_eq] at this
    rcases this with h | h
    · exact absurd h hij
    · unfold isF at h
      split at h
      · assumption
      · cases h
  · have := (wmap_spec _ _ _ _ hwm).2 j o d (by simpa using hj) hd
    simpa using this
def valM (E : Env) (base : Nat) (o : Oper) : Option AV := bif isMk o || (mvOf o).isSome then some (.mapv base) else pureV E o
def entM (E : Env) (ops : Array Oper) (t : TypeId) (d0 : Tmp) (wm : Tr Nat) (j : Nat) : AV × AV := (insK E ops t d0 wm j).getD (.nilp, .nilp)
def esM (E : Env) (ops : Array Oper) (t : TypeId) (d0 : Tmp) (wm : Tr Nat) (p : List Nat) : List (AV × AV × Nat) := p.zipIdx.map fun x => ((entM E ops t d0 wm x.1).1, (entM E ops t d0 wm x.1).2, x.2)
end
section
variable {E : Env} {P : Program} {I : List MEnt → AHeap → World → Prop} {ih : Task → Option TRes} {ro : Option Nat} {ops : Array Oper} {t kt : TypeId} {d0 n : Nat} {wm : Tr Nat}
theorem esM_append (p : List Nat) (j : Nat) : esM E ops t d0 wm (p ++ [j]) = esM E ops t d0 wm p ++ [((entM E ops t d0 wm j).1, (entM E ops t d0 wm j).2, p.length)] := by
  simp [esM, List.zipIdx_append]
theorem keyFind_none {k : AV} : ∀ (es : List (AV × AV × Nat)) (i : Nat), (∀ e ∈ es, eqK E kt k e.1 = some false) → keyFind E kt k es i = some none
  | [], _, _ => rfl
  | e :: es, i, h => by
    simp only [keyFind, h e List.mem_cons_self]
    exact keyFind_none es (i + 1) fun x hx => h x (List.mem_cons_of_mem _ hx)
theorem opd_nil {x : Operand} {v : AV} (h : opd E .nil x = some v) (fr : Tr AV) : opd E fr x = some v := by
  cases x with
  | tmp t => simp [opd, Tr.get_nil] at h
  | _ => exact h
theorem partsA_nil : ∀ {ps : List (Nat × Operand)} {l : List (Nat × AV)}, partsA E .nil ps = some l → ∀ fr, partsA E fr ps = some l
  | [], l, h, _ => h
  | (i, x) :: ps, l, h, fr => by
    simp only [partsA] at h ⊢
    cases hx : opd E .nil x with
    | none => rw [hx] at h; cases h
    | some v =>
      rw [hx] at h
      rw [opd_nil hx fr]
      simp only at h ⊢
      cases hp : partsA E .nil ps with
      | none => rw [hp] at h; cases h
      | some l' =>
        rw [hp] at h
        rw [partsA_nil hp fr]
        exact h
theorem pureV_exec {o : Oper} {v : AV} (h : pureV E o = some v) (fr : Tr AV) (H : AHeap) : execA E H fr o = some (.val v H) := by
  unfold pureV at h
  split at h
  case h_2 => cases h
  rename_i ty ps hop
  split at h
  case h_2 => cases h
  rename_i l hl
  unfold execA
  rw [hop]
  simp only [partsA_nil hl fr, h]
  rfl
theorem isMk_exec {o : Oper} (h : isMk o = true) (fr : Tr AV) (H : AHeap) : execA E H fr o = some (.val (.mapv H.next) (H.new (.mp [] 0 false))) := by
  unfold isMk at h
  split at h
  case h_2 => cases h
  rename_i ty hop
  unfold execA
  rw [hop]
theorem mvOf_exec {o : Oper} {s : Tmp} (h : mvOf o = some s) {fr : Tr AV} {v : AV} (hv : fr.get s = some v) (H : AHeap) : execA E H fr o = some (.val v H) := by
  unfold mvOf at h
  split at h
  · rename_i s' hop
    cases h
    unfold execA
    rw [hop]
    simp [opd, hv, vh]
  · rename_i s' hop
    cases h
    unfold execA
    rw [hop]
    simp [opd, hv, vh]
  · cases h
theorem insOf_exec {o : Oper} {s : Tmp} {v : AV} (h : insOf t d0 o = some (s, v)) {fr : Tr AV} {m k : AV} (hm : fr.get d0 = some m) (hk : fr.get s = some k) {H H' : AHeap} (hu : updateA E H t m k v = some H') : execA E H fr o = some (.skip H') := by
  unfold insOf at h
  split at h
  case h_2 => cases h
  rename_i t' m' s' c hop
  simp only [Bool.cond_eq_ite, Bool.and_eq_true, Nat.beq_eq] at h
  split at h
  case isFalse => cases h
  rename_i hb
  obtain ⟨rfl, rfl⟩ := hb
  split at h
  case h_2 => cases h
  rename_i v' hc
  simp only [Option.some.injEq, Prod.mk.injEq] at h
  obtain ⟨rfl, rfl⟩ := h
  unfold execA
  rw [hop]
  simp only [opd, hm, hk, hc, hu]
theorem hasEdge_spec {o : Oper} {i : Nat} (h : hasEdge o i = true) : ∃ e ∈ o.after.toList, Region.binds .any e = true ∧ e.on = i := by
  unfold hasEdge at h
  rw [List.any_eq_true] at h
  obtain ⟨e, he, h⟩ := h
  simp only [Bool.and_eq_true, Nat.beq_eq] at h
  refine ⟨e, he, (binds_any e).2 ⟨fun r hr => ?_, fun r hr => ?_⟩, h.1⟩
  · have := h.2
    unfold bindsB at this
    rw [hr] at this; cases this
  · have := h.2
    unfold bindsB at this
    rw [hr] at this; cases this
theorem bindsB_of {e : Edge} (h : Region.binds .any e = true) : bindsB e = true := by
  obtain ⟨h1, h2⟩ := (binds_any e).1 h
  unfold bindsB
  split
  · rename_i r hr; exact absurd hr (h1 r)
  · rename_i r hr; exact absurd hr (h2 r)
  · rfl
theorem HRel.less {M : List MEnt} {H H2 : AHeap} {w : World} (h : HRel M H w) (hn : H2.next = H.next) (hs : ∀ i o, H2.get i = some o → H.get i = some o) : HRel M H2 w :=
  ⟨by rw [hn]; exact h.len, fun id o e => h.obj id o (hs id o e), fun i j o p m k hi hj => h.inj i j o p m k (hs i o hi) (hs j p hj)⟩
theorem Ext.less {M M' : List MEnt} {H H1 H2 : AHeap} {w w' : World} (x : Ext M H w M' H1 w') (hs : ∀ i o, H2.get i = some o → H1.get i = some o) : Ext M H w M' H2 w' :=
  ⟨x.pre, x.size, x.os, x.tape, x.output, fun b hb hn => by
    obtain ⟨h1, h2⟩ := x.old b hb hn
    exact ⟨h1, fun ⟨id, o, m, e, r⟩ => h2 ⟨id, o, m, hs id o e, r⟩⟩, fun b hb hn ⟨id, o, m, e, r⟩ => x.kn b hb hn ⟨id, o, m, hs id o e, r⟩⟩
structure LInv (E : Env) (ro : Option Nat) (ops : Array Oper) (t : TypeId) (d0 n : Nat) (wm : Tr Nat) (fr0 : AFr) (M0 : List MEnt) (H0 : AHeap) (w0 : World) (listed : Array Bool) (a : Act) (w : World) : Prop where
  size : listed.size = ops.size
  closed : Closed ops (SL listed)
  ex : ∃ (p : List Nat) (fr : AFr) (H : AHeap) (M : List MEnt), Ext M0 H0 w0 M H w ∧ HRel M H w ∧ FRel ro M fr a ∧ (fr.n = n ∧ fr.df = fr0.df ∧ fr.rd = fr0.rd) ∧
    (∀ j o d v, ops[j]? = some o → o.dst = some d → SL listed j → valM E H0.next o = some v → fr.t.get d = some v) ∧
    (∀ x v, wm.get x = none → fr0.t.get x = some v → fr.t.get x = some v) ∧
    p.Nodup ∧ (∀ j, j ∈ p ↔ SL listed j ∧ (insK E ops t d0 wm j).isSome = true) ∧
    ((¬ SL listed 0 ∧ H = H0) ∨ (SL listed 0 ∧ H.next = H0.next + 1 ∧ H.get H0.next = some (.mp (esM E ops t d0 wm p) p.length false) ∧ ∀ i o, i ≠ H0.next → H0.get i = some o → H.get i = some o))
theorem wrM_some {s : Tmp} {i : Nat} {p : Oper} (h : wrM ops wm s = some (i, p)) : ops[i]? = some p ∧ p.dst = some s := by
  unfold wrM at h
  split at h
  case h_2 => cases h
  rename_i i' hi
  split at h
  case h_2 => cases h
  rename_i p' hp
  split at h
  case h_2 => cases h
  rename_i d hd
  simp only [Bool.cond_eq_ite, Nat.beq_eq] at h
  split at h
  case isFalse => cases h
  rename_i e
  simp only [Option.some.injEq, Prod.mk.injEq] at h
  obtain ⟨rfl, rfl⟩ := h
  subst e
  exact ⟨hp, hd⟩
theorem lit_step (hE : EnvOk E P I) (hs : Sound E P I ih) (hm : MLit E ops t kt d0 n wm) {fr0 : AFr} {M0 : List MEnt} {H0 : AHeap} {w0 : World} (st0 : St E I M0 H0 w0) (hb : H0.next < 1000000) {Q : Exit → Act → World → Prop}
    {next : Array Bool → Act → World → Prop} {listed : Array Bool} {a : Act} {w : World} (inv : LInv E ro ops t d0 n wm fr0 M0 H0 w0 listed a w) {i : Nat} (hi : i ∈ Region.ready .any ops listed)
    (hn : ∀ a' w', LInv E ro ops t d0 n wm fr0 M0 H0 w0 (listed.setIfInBounds i true) a' w' → next (listed.setIfInBounds i true) a' w') : wpOpIn (FF ro) 0 P ops Q i (next (listed.setIfInBounds i true)) a w := by
  obtain ⟨o, ho, hlf, hedge⟩ := ready_spec hi inv.size
  have hil : i < listed.size := (Array.getElem?_eq_some_iff.1 hlf).1
  have hni : ¬ SL listed i := by unfold SL; rw [hlf]; simp
  obtain ⟨p, fr, H, M, x1, x2, x3, hfn, f1, f3, nd, hp, hH⟩ := inv.ex
  have st : St E I M H w := st0.next hE x1 x2
  have ok := hm.ok i o ho
  unfold okM at ok
  simp only [Bool.and_eq_true] at ok
  obtain ⟨hg, hlow, hdn, hk⟩ := ok
  have hg' : o.guard = none := by
    cases e : o.guard with
    | none => rfl
    | some _ => rw [e] at hg; cases hg
  have hdn' : ∀ d, o.dst = some d → d < n := fun d hd => by
    rw [hd] at hdn
    simpa using hdn
  have hin : ∀ j, hasEdge o j = true → SL listed j := fun j h => by
    obtain ⟨e, he, hbi, rfl⟩ := hasEdge_spec h
    exact hedge e he hbi
  have hcl : Closed ops (SL (listed.setIfInBounds i true)) := fun j oj hj hsj e he hbi => by
    rw [SL_set hil] at hsj ⊢
    rcases hsj with hsj | rfl
    · exact .inl (inv.closed j oj hj hsj e he hbi)
    · rw [ho] at hj; cases hj
      exact .inl (hedge e he hbi)
  have hsz : (listed.setIfInBounds i true).size = ops.size := by simpa using inv.size
  have hw : Region.wanted o (yielded ops a.tmps) = true := by simp [Region.wanted, hg']
  have sl0 : ∀ j, SL (listed.setIfInBounds i true) j ↔ SL listed j ∨ j = i := fun j => SL_set hil
  have putv : ∀ (d : Tmp) (v cv) (w1 : World) (M1 : List MEnt) (H1 : AHeap), o.dst = some d → insOf t d0 o = none → (∀ u, valM E H0.next o = some u → u = v) → Ext M H w M1 H1 w1 → HRel M1 H1 w1 → VRel M1 v cv →
      ((¬ SL (listed.setIfInBounds i true) 0 ∧ H1 = H0) ∨ (SL (listed.setIfInBounds i true) 0 ∧ H1.next = H0.next + 1 ∧ H1.get H0.next = some (.mp (esM E ops t d0 wm p) p.length false) ∧ ∀ i o, i ≠ H0.next → H0.get i = some o → H1.get i = some o)) →
      next (listed.setIfInBounds i true) (a.put o.dst cv) w1 := by
    intro d v cv w1 M1 H1 hd hins hv y1 y2 y3 hH1
    refine hn _ _ ⟨hsz, hcl, p, fr.put o.dst v, H1, M1, x1.trans y1, y2, (x3.mono y1.pre).put y3 o.dst, ?_, ?_, ?_, nd, ?_, hH1⟩
    · rw [hd]; simp only [AFr.put, Bool.cond_eq_ite]; split <;> exact hfn
    · intro j oj d' v' hj hd' hsj hv'
      have hput : (fr.put o.dst v).t = fr.t.set d v := by
        rw [hd]
        simp only [AFr.put, hfn.1, Bool.cond_eq_ite, Nat.blt_eq, hdn' d hd, if_true]
      rw [hput, Tr.get_set_eq _ _ _ (Nat.lt_of_lt_of_le (hdn' d hd) (Nat.le_trans hm.nle (by decide)))]
      by_cases hdd : d' = d
      · rw [if_pos hdd]
        have e1 := hm.wr j oj d' hj hd'
        have e2 := hm.wr i o d ho hd
        rw [hdd, e2] at e1
        cases e1
        rw [ho] at hj; cases hj
        rw [hv _ hv']
      · rw [if_neg hdd]
        rcases (sl0 j).1 hsj with hsj | rfl
        · exact f1 j oj d' v' hj hd' hsj hv'
        · rw [ho] at hj; cases hj
          rw [hd] at hd'; cases hd'
          exact absurd rfl hdd
    · intro y v' hy hv'
      have hput : (fr.put o.dst v).t = fr.t.set d v := by
        rw [hd]
        simp only [AFr.put, hfn.1, Bool.cond_eq_ite, Nat.blt_eq, hdn' d hd, if_true]
      rw [hput, Tr.get_set_eq _ _ _ (Nat.lt_of_lt_of_le (hdn' d hd) (Nat.le_trans hm.nle (by decide)))]
      have hyd : y ≠ d := fun e => by
        have := hm.wr i o d ho hd
        rw [e] at hy
        rw [hy] at this; cases this
      rw [if_neg hyd]
      exact f3 y v' hy hv'
    · intro j
      rw [hp, sl0]
      constructor
      · rintro ⟨h1, h2⟩; exact ⟨.inl h1, h2⟩
      · rintro ⟨h1 | rfl, h2⟩
        · exact ⟨h1, h2⟩
        · unfold insK at h2
          rw [ho] at h2
          simp only [hins] at h2
          cases h2
  simp only [wpOpIn, ho, hw, if_true]
  cases hins : insOf t d0 o with
  | some sv =>
    obtain ⟨s, v⟩ := sv
    rw [hins] at hk
    simp only [okI, Bool.and_eq_true] at hk
    obtain ⟨hd, he0, hk⟩ := hk
    have hd' : o.dst = none := by
      cases e : o.dst with
      | none => rfl
      | some _ => rw [e] at hd; cases hd
    split at hk
    case h_2 => cases hk
    rename_i i1 p1 k hwr hkey
    simp only [Bool.and_eq_true] at hk
    obtain ⟨he1, hko⟩ := hk
    obtain ⟨q1, q2⟩ := wrM_some hwr
    have hpk : pureV E p1 = some k := by
      unfold keyM at hkey
      rw [hwr] at hkey
      exact hkey
    obtain ⟨oz, z1, z2, z3⟩ := hm.zero
    have g0 : fr.t.get d0 = some (.mapv H0.next) := f1 0 oz d0 _ z1 z3 (hin 0 he0) (by simp [valM, z2])
    have gs : fr.t.get s = some k := f1 i1 p1 s k q1 q2 (hin i1 he1) (by
      unfold valM
      have n1 : isMk p1 = false := by
        unfold pureV at hpk
        unfold isMk
        split at hpk
        · rename_i hop; rw [hop]
        · cases hpk
      have n2 : mvOf p1 = none := by
        unfold pureV at hpk
        unfold mvOf
        split at hpk
        · rename_i hop; rw [hop]
        · cases hpk
      rw [n1, n2]
      simpa using hpk)
    rcases hH with ⟨h, _⟩ | ⟨_, hH1, hH2, hH3⟩
    · exact absurd (hin 0 he0) h
    obtain ⟨ti, tv, ty1, ty2⟩ := hm.ty
    have hK : insK E ops t d0 wm i = some (k, v) := by
      unfold insK
      simp only [ho, hins, hkey]
    have hnp : i ∉ p := fun h => hni ((hp i).1 h).1
    have hfind : keyFind E kt k (esM E ops t d0 wm p) 0 = some none := keyFind_none _ _ fun e he => by
      unfold esM at he
      obtain ⟨y, hy, rfl⟩ := List.mem_map.1 he
      have hyp : y.1 ∈ p := by
        have := List.mem_zipIdx hy
        simp at this
        obtain ⟨h1, h2⟩ := this
        rw [h2]
        exact List.getElem_mem _
      obtain ⟨_, hsome⟩ := (hp y.1).1 hyp
      obtain ⟨⟨l, x⟩, hl⟩ := Option.isSome_iff_exists.1 hsome
      have := hm.unlike i y.1 k v l x hK hl (fun e => hnp (by rw [e]; exact hyp))
      simpa [entM, hl] using this
    have hu : updateA E H t (.mapv H0.next) k v = some (H.put H0.next (.mp (esM E ops t d0 wm p ++ [(k, v, p.length)]) (p.length + 1) false)) := by
      unfold updateA
      simp only [ty1, ty2, hH2, hko, cond_true, hfind]
    refine oper_sound hE hs st x3 (insOf_exec hins g0 gs hu) rfl ?_
    intro w1 M1 y1 y2
    rw [hd']
    refine hn _ _ ⟨hsz, hcl, p ++ [i], fr, _, M1, x1.trans y1, y2, x3.mono y1.pre, hfn, ?_, f3, ?_, ?_, .inr ⟨(sl0 0).2 (.inl (hin 0 he0)), hH1, ?_, ?_⟩⟩
    · intro j oj d' v' hj hd2 hsj hv'
      rcases (sl0 j).1 hsj with hsj | rfl
      · exact f1 j oj d' v' hj hd2 hsj hv'
      · rw [ho] at hj; cases hj
        rw [hd'] at hd2; cases hd2
    · rw [List.nodup_append]
      exact ⟨nd, by simp, fun y hy z hz => by
        rw [List.mem_singleton] at hz
        subst hz
        exact fun e => hnp (by rw [← e]; exact hy)⟩
    · intro j
      rw [List.mem_append, List.mem_singleton, hp, sl0]
      constructor
      · rintro (⟨h1, h2⟩ | rfl)
        · exact ⟨.inl h1, h2⟩
        · exact ⟨.inr rfl, by rw [hK]; rfl⟩
      · rintro ⟨h1 | rfl, h2⟩
        · exact .inl ⟨h1, h2⟩
        · exact .inr rfl
    · have e : (H.put H0.next (.mp (esM E ops t d0 wm p ++ [(k, v, p.length)]) (p.length + 1) false)).get H0.next = some (.mp (esM E ops t d0 wm p ++ [(k, v, p.length)]) (p.length + 1) false) := by
        show (H.objs.set _ _).get _ = _
        rw [Tr.get_set_eq _ _ _ (by omega), if_pos rfl]
      rw [e, esM_append]
      simp [entM, hK]
    · intro j oj hj hg2
      show (H.objs.set _ _).get _ = _
      rw [Tr.get_set_eq _ _ _ (by omega), if_neg hj]
      exact hH3 j oj hj hg2
  | none =>
    rw [hins] at hk
    simp only at hk
    cases hmv : mvOf o with
    | some s =>
      rw [hmv] at hk
      simp only [okV] at hk
      split at hk
      case h_2 => cases hk
      rename_i i1 p1 hwr
      simp only [Bool.and_eq_true] at hk
      obtain ⟨he1, hk⟩ := hk
      obtain ⟨q1, q2⟩ := wrM_some hwr
      have gs : fr.t.get s = some (.mapv H0.next) := f1 i1 p1 s _ q1 q2 (hin i1 he1) (by unfold valM; rw [hk]; rfl)
      refine oper_sound hE hs st x3 (mvOf_exec hmv gs H) rfl ?_
      intro cv w1 M1 y1 y2 y3
      cases hd : o.dst with
      | some d =>
        have := putv d (.mapv H0.next) cv w1 M1 H hd hins (fun u hu => by
          unfold valM at hu
          rw [hmv] at hu
          simp at hu
          exact hu.symm) y1 y2 y3 (by
          rcases hH with ⟨h, rfl⟩ | ⟨h, h2⟩
          · by_cases hi0 : i = 0
            · subst hi0
              obtain ⟨oz, z1, z2, z3⟩ := hm.zero
              rw [ho] at z1; cases z1
              have := hedge
              obtain ⟨e, he, hbi, hei⟩ := hasEdge_spec he1
              have hl := List.all_eq_true.1 hlow e he
              rw [bindsB_of hbi] at hl
              simp at hl
            · exact .inl ⟨fun h' => ((sl0 0).1 h').elim h (fun e => hi0 e.symm), rfl⟩
          · exact .inr ⟨(sl0 0).2 (.inl h), h2⟩)
        rwa [hd] at this
      | none =>
        refine hn _ _ ⟨hsz, hcl, p, fr, H, M1, x1.trans y1, y2, x3.mono y1.pre, hfn, ?_, f3, nd, ?_, ?_⟩
        · intro j oj d' v' hj hd2 hsj hv'
          rcases (sl0 j).1 hsj with hsj | rfl
          · exact f1 j oj d' v' hj hd2 hsj hv'
          · rw [ho] at hj; cases hj
            rw [hd] at hd2; cases hd2
        · intro j
          rw [hp, sl0]
          constructor
          · rintro ⟨h1, h2⟩; exact ⟨.inl h1, h2⟩
          · rintro ⟨h1 | rfl, h2⟩
            · exact ⟨h1, h2⟩
            · unfold insK at h2
              rw [ho] at h2
              simp only [hins] at h2
              cases h2
        · rcases hH with ⟨h, rfl⟩ | ⟨h, h2⟩
          · by_cases hi0 : i = 0
            · subst hi0
              obtain ⟨oz, z1, z2, z3⟩ := hm.zero
              rw [ho] at z1; cases z1
              rw [hd] at z3; cases z3
            · exact .inl ⟨fun h' => ((sl0 0).1 h').elim h (fun e => hi0 e.symm), rfl⟩
          · exact .inr ⟨(sl0 0).2 (.inl h), h2⟩
    | none =>
      rw [hmv] at hk
      simp only at hk
      cases hmk : isMk o with
      | true =>
        rw [hmk] at hk
        simp only [cond_true, Bool.and_eq_true, Nat.beq_eq] at hk
        obtain ⟨rfl, hk⟩ := hk
        have hd : o.dst = some d0 := by
          split at hk
          case h_2 => cases hk
          rename_i d hd
          rw [Nat.beq_eq] at hk
          rw [hd, hk]
        rcases hH with ⟨_, rfl⟩ | ⟨h, _⟩
        case inr => exact absurd h hni
        have hpe : p = [] := by
          cases p with
          | nil => rfl
          | cons j p =>
            exfalso
            obtain ⟨h1, h2⟩ := (hp j).1 List.mem_cons_self
            unfold insK at h2
            split at h2
            case h_2 => cases h2
            rename_i oj hoj
            split at h2
            case h_2 => cases h2
            rename_i s v hio
            have ok2 := hm.ok j oj hoj
            unfold okM at ok2
            rw [hio] at ok2
            simp only [okI, Bool.and_eq_true] at ok2
            obtain ⟨e, he, hbi, hei⟩ := hasEdge_spec ok2.2.2.2.2.1
            have := inv.closed j oj hoj h1 e he hbi
            rw [hei] at this
            exact hni this
        refine oper_sound hE hs st x3 (isMk_exec hmk _ _) rfl ?_
        intro cv w1 M1 y1 y2 y3
        refine putv d0 (.mapv H.next) cv w1 M1 _ hd hins (fun u hu => by
          unfold valM at hu
          rw [hmk] at hu
          simp at hu
          exact hu.symm) y1 y2 y3 (.inr ⟨(sl0 0).2 (.inr rfl), rfl, ?_, ?_⟩)
        · subst hpe
          show (H.objs.set _ _).get _ = _
          rw [Tr.get_set_eq _ _ _ (by omega), if_pos rfl]
          rfl
        · intro j oj hj hg2
          show (H.objs.set _ _).get _ = _
          rw [Tr.get_set_eq _ _ _ (by omega), if_neg hj]
          exact hg2
      | false =>
        rw [hmk] at hk
        simp only [cond_false, Bool.and_eq_true, Bool.not_eq_true'] at hk
        obtain ⟨hpv, hi0⟩ := hk
        obtain ⟨v, hv⟩ := Option.isSome_iff_exists.1 hpv
        have hi0' : i ≠ 0 := Nat.ne_of_beq_eq_false hi0
        have hH' : ((¬ SL (listed.setIfInBounds i true) 0 ∧ H = H0) ∨ (SL (listed.setIfInBounds i true) 0 ∧ H.next = H0.next + 1 ∧ H.get H0.next = some (.mp (esM E ops t d0 wm p) p.length false) ∧ ∀ i o, i ≠ H0.next → H0.get i = some o → H.get i = some o)) := by
          rcases hH with ⟨h, rfl⟩ | ⟨h, h2⟩
          · exact .inl ⟨fun h' => ((sl0 0).1 h').elim h (fun e => hi0' e.symm), rfl⟩
          · exact .inr ⟨(sl0 0).2 (.inl h), h2⟩
        refine oper_sound hE hs st x3 (pureV_exec hv _ H) rfl ?_
        intro cv w1 M1 y1 y2 y3
        cases hd : o.dst with
        | some d =>
          have := putv d v cv w1 M1 H hd hins (fun u hu => by
            unfold valM at hu
            rw [hmk, hmv] at hu
            simp at hu
            rw [hv] at hu
            exact (Option.some.inj hu).symm) y1 y2 y3 hH'
          rwa [hd] at this
        | none =>
          refine hn _ _ ⟨hsz, hcl, p, fr, H, M1, x1.trans y1, y2, x3.mono y1.pre, hfn, ?_, f3, nd, ?_, hH'⟩
          · intro j oj d' v' hj hd2 hsj hv'
            rcases (sl0 j).1 hsj with hsj | rfl
            · exact f1 j oj d' v' hj hd2 hsj hv'
            · rw [ho] at hj; cases hj
              rw [hd] at hd2; cases hd2
          · intro j
            rw [hp, sl0]
            constructor
            · rintro ⟨h1, h2⟩; exact ⟨.inl h1, h2⟩
            · rintro ⟨h1 | rfl, h2⟩
              · exact ⟨h1, h2⟩
              · unfold insK at h2
                rw [ho] at h2
                simp only [hins] at h2
                cases h2
def LitPost (E : Env) (ro : Option Nat) (ops : Array Oper) (t : TypeId) (d0 n : Nat) (wm : Tr Nat) (fr0 : AFr) (M0 : List MEnt) (H0 : AHeap) (w0 : World) (x : Exit) (a : Act) (w : World) : Prop :=
  x = .normal ∧ ∃ (p : List Nat) (fr : AFr) (M : List MEnt), p.Nodup ∧ (∀ j, j ∈ p ↔ (insK E ops t d0 wm j).isSome = true) ∧
    Ext M0 H0 w0 M (H0.new (.mp (esM E ops t d0 wm p) p.length false)) w ∧ HRel M (H0.new (.mp (esM E ops t d0 wm p) p.length false)) w ∧ FRel ro M fr a ∧ (fr.n = n ∧ fr.df = fr0.df ∧ fr.rd = fr0.rd) ∧
    (∀ (j : Nat) (o : Oper) (d : Tmp) (v : AV), ops[j]? = some o → o.dst = some d → valM E H0.next o = some v → fr.t.get d = some v) ∧ (∀ (x : Nat) (v : AV), wm.get x = none → fr0.t.get x = some v → fr.t.get x = some v)
theorem lit_done (hm : MLit E ops t kt d0 n wm) {fr0 : AFr} {M0 : List MEnt} {H0 : AHeap} {w0 : World} {listed : Array Bool} {a : Act} {w : World} (inv : LInv E ro ops t d0 n wm fr0 M0 H0 w0 listed a w) (hr : Region.ready .any ops listed = []) :
    LitPost E ro ops t d0 n wm fr0 M0 H0 w0 .normal a w := by
  have all : ∀ j, j < ops.size → SL listed j := by
    intro j
    induction j using Nat.strongRecOn with
    | _ j ihj =>
      intro hj
      have hjl : j < listed.size := by rw [inv.size]; exact hj
      have hl : listed[j]? = some listed[j] := Array.getElem?_eq_getElem hjl
      cases hb : listed[j] with
      | true => unfold SL; rw [hl, hb]
      | false =>
        exfalso
        have ho : ops[j]? = some ops[j] := Array.getElem?_eq_getElem hj
        have ok := hm.ok j _ ho
        unfold okM at ok
        simp only [Bool.and_eq_true] at ok
        have hlow := ok.2.1
        have : j ∈ Region.ready .any ops listed := by
          simp only [Region.ready, List.mem_filter, List.mem_range, Bool.and_eq_true, Bool.not_eq_true']
          refine ⟨hj, ?_, ?_⟩
          · rw [Array.getD_eq_getD_getElem?, hl, hb]; rfl
          · rw [ho]
            simp only [Option.map_some, Option.getD_some]
            rw [Array.all_eq_true_iff_forall_mem]
            intro e he
            cases hbb : Region.binds .any e with
            | false => rfl
            | true =>
              have hlt := List.all_eq_true.1 hlow e (by simpa using he)
              rw [bindsB_of hbb] at hlt
              have hlt' : e.on < j := by simpa using hlt
              have := ihj e.on hlt' (Nat.lt_trans hlt' hj)
              unfold SL at this
              simp [Array.getD_eq_getD_getElem?, this]
        rw [hr] at this
        cases this
  obtain ⟨p, fr, H, M, x1, x2, x3, hfn, f1, f3, nd, hp, hH⟩ := inv.ex
  obtain ⟨oz, z1, z2, z3⟩ := hm.zero
  have h0 := all 0 (Array.getElem?_eq_some_iff.1 z1).1
  rcases hH with ⟨h, _⟩ | ⟨_, hH1, hH2, hH3⟩
  · exact absurd h0 h
  have sub : ∀ i o, (H0.new (.mp (esM E ops t d0 wm p) p.length false)).get i = some o → H.get i = some o := fun i o h => by
    rcases AHeap.get_new h with ⟨rfl, rfl⟩ | ⟨hne, h⟩
    · exact hH2
    · exact hH3 i o hne h
  refine ⟨rfl, p, fr, M, nd, fun j => ?_, x1.less sub, x2.less (by simp [AHeap.new, hH1]) sub, x3, hfn, fun j o d v hj hd hv => f1 j o d v hj hd (all j (Array.getElem?_eq_some_iff.1 hj).1) hv, f3⟩
  rw [hp]
  refine ⟨fun h => h.2, fun h => ⟨all j ?_, h⟩⟩
  unfold insK at h
  split at h
  case h_2 => cases h
  rename_i o ho
  exact (Array.getElem?_eq_some_iff.1 ho).1
theorem lit_any (hE : EnvOk E P I) (hs : Sound E P I ih) (hm : MLit E ops t kt d0 n wm) {fr0 : AFr} {M0 : List MEnt} {H0 : AHeap} {w0 : World} (st0 : St E I M0 H0 w0) (hb : H0.next < 1000000) :
    ∀ (fuel : Nat) (listed : Array Bool) (a : Act) (w : World), listed.toList.count false = fuel → LInv E ro ops t d0 n wm fr0 M0 H0 w0 listed a w → wpAnyIn (FF ro) 0 P .any ops (LitPost E ro ops t d0 n wm fr0 M0 H0 w0) fuel listed a w := by
  intro fuel
  induction fuel with
  | zero =>
    intro listed a w hc inv
    have hr : Region.ready .any ops listed = [] := by
      rw [List.eq_nil_iff_forall_not_mem]
      intro i hi
      obtain ⟨o, _, h, _⟩ := ready_spec hi inv.size
      have : false ∈ listed.toList := by
        obtain ⟨h1, h2⟩ := Array.getElem?_eq_some_iff.1 h
        rw [← h2]; simp
      rw [List.count_eq_zero] at hc
      exact hc this
    exact ⟨hr, lit_done hm inv hr⟩
  | succ fuel ihf =>
    intro listed a w hc inv
    refine ⟨lit_done hm inv, fun i hi => ?_⟩
    obtain ⟨o, ho, hlf, _⟩ := ready_spec hi inv.size
    exact lit_step (next := wpAnyIn (FF ro) 0 P .any ops (LitPost E ro ops t d0 n wm fr0 M0 H0 w0) fuel) hE hs hm st0 hb inv hi fun a' w' inv' => ihf _ a' w' (count_set hlf hc) inv'
theorem mapLit (hE : EnvOk E P I) (hs : Sound E P I ih) (hc : mlOk E ops t kt d0 n = true) {fr : AFr} {M : List MEnt} {H : AHeap} {w : World} {a : Act} (st : St E I M H w) (hf : FRel ro M fr a) (hn : fr.n = n) (hb : H.next < 1000000) (id : Nat) :
    ∃ wm, wmap ops.toList 0 .nil = some wm ∧ MLit E ops t kt d0 n wm ∧ (Code.region id ops true).wpIn (FF ro) 0 P (LitPost E ro ops t d0 n wm fr M H w) a w := by
  obtain ⟨wm, hwm, hm⟩ := mlit_of hc
  refine ⟨wm, hwm, hm, wpIn_region_any hE.mixed ?_⟩
  have no : ∀ j, ¬ SL (Array.replicate ops.size false) j := fun j hj => by
    unfold SL at hj; rw [Array.getElem?_replicate] at hj; split at hj <;> simp at hj
  have d1 : Ext M H w M H { w with drawn := w.drawn + 1 } := Ext.drew rfl rfl rfl rfl
  have d2 : HRel M H { w with drawn := w.drawn + 1 } := st.hr.drew rfl
  exact lit_any hE hs hm st hb ops.size _ a _ (by simp) ⟨by simp, fun j o _ hj => absurd hj (no j), [], fr, H, M, d1, d2, hf, ⟨hn, rfl, rfl⟩, fun j o d v _ _ hj => absurd hj (no j), fun _ _ _ h => h, by simp, fun j => by simp [no], .inl ⟨no 0, rfl⟩⟩
theorem Tri.mapLit (hE : EnvOk E P I) (hs : Sound E P I ih) (hc : mlOk E ops t kt d0 n = true) {fr : AFr} {H : AHeap} (hn : fr.n = n) (hb : H.next < 1000000) (id : Nat) {Q : TQ}
    (hQ : ∀ (wm : Tr Nat) (p : List Nat) (fr' : AFr), wmap ops.toList 0 .nil = some wm → MLit E ops t kt d0 n wm → p.Nodup → (∀ j, j ∈ p ↔ (insK E ops t d0 wm j).isSome = true) → fr'.n = n → fr'.df = fr.df → fr'.rd = fr.rd →
      (∀ (j : Nat) (o : Oper) (d : Tmp) (v : AV), ops[j]? = some o → o.dst = some d → valM E H.next o = some v → fr'.t.get d = some v) → (∀ (x : Nat) (v : AV), wm.get x = none → fr.t.get x = some v → fr'.t.get x = some v) → Q .normal fr' (H.new (.mp (esM E ops t d0 wm p) p.length false))) :
    Tri E P I ro (.region id ops true) fr H Q := by
  intro M w a st hf
  obtain ⟨wm, hwm, hm, h⟩ := Go.Vai.mapLit hE hs hc st hf hn hb id
  refine wpIn_mono h ?_
  rintro ex a1 w1 ⟨rfl, p, fr', M', nd, hp, x1, x2, x3, ⟨g1, g2, g3⟩, x4, x5⟩
  exact ⟨.normal, fr', _, M', hQ wm p fr' hwm hm nd hp g1 g2 g3 x4 x5, st.next hE x1 x2, rfl, x3⟩
theorem keyFind_cases {k : AV} : ∀ (es : List (AV × AV × Nat)) (i : Nat), (∀ e ∈ es, ∃ b, eqK E kt k e.1 = some b) →
    (∃ e ∈ es, eqK E kt k e.1 = some true ∧ ∃ q, keyFind E kt k es i = some (some (q, e.2.1))) ∨ ((∀ e ∈ es, eqK E kt k e.1 = some false) ∧ keyFind E kt k es i = some none)
  | [], _, _ => .inr ⟨fun e he => by simp at he, rfl⟩
  | e :: es, i, h => by
    obtain ⟨b, hb⟩ := h e List.mem_cons_self
    cases b with
    | true => exact .inl ⟨e, List.mem_cons_self, hb, i, by simp only [keyFind, hb]⟩
    | false =>
      rcases keyFind_cases es (i + 1) (fun x hx => h x (List.mem_cons_of_mem _ hx)) with ⟨x, h1, h2, q, h3⟩ | ⟨h1, h2⟩
      · exact .inl ⟨x, List.mem_cons_of_mem _ h1, h2, q, by simp only [keyFind, hb]; exact h3⟩
      · refine .inr ⟨fun x hx => ?_, by simp only [keyFind, hb]; exact h2⟩
        rcases List.mem_cons.1 hx with rfl | hx
        · exact hb
        · exact h1 x hx
end
end Go.Vai
end
section
namespace Go.Vai
open Go Go.RowKit Go.ChangeShapes Go.WideShapes
section
variable {H : Type} {enc : TypeId × Value → H}
theorem handed_shaped_and {a : Assume} {C : Checked} {os : Os} {f : FuncId} {fn : Func} {s : ChangeSpec} {conds : List PathCond} {apart fresh handsOn again : Bool} {X : World → Array Value → Prop}
    (hX : ∀ (w w' : World) (args : Array Value), w.heap = w'.heap → X w args → X w' args)
    (own : ownKnob C.prog.godebug = none) (started : os.Started) (noInit : C.prog.inits.idxOf? f = none) (hfn : C.prog.funcs[f]? = some fn)
    (witness : ∃ (w : World) (tape : Tape) (i : Input), w.os = os ∧ (w.forCall tape i).Shaped C.prog ∧ i.vars = [] ∧ Input.okWide C.prog (w.forCall tape i) .any w.heap.size f i ∧
      ((s.pre enc C.prog fn conds apart (w.forCall tape i).memory i.args ∧ X (w.forCall tape i).memory i.args) ∧ sizedMet enc C.prog fn (OpenSpec.ofChange s) apart (w.forCall tape i).memory i.args) ∧ a.holds C.prog (lone (Frame.enter C.prog f i.args .normal) [] (w.forCall tape i)))
    (contract : ∀ (W : World) (base : Nat) (args : Array Value) (ds gs : List (DataW H)) (before : List MemPlace),
      (∀ (j : Nat) t v, fn.params[j]? = some t → args[j]? = some v → Value.okWide C.prog W .any base t v) →
      DataW.Whole enc C.prog fn.params.toList s.vars apart W args.toList ds gs before →
      conds.all (PathCond.test C.prog ⟨fn.params.toList, ds, s.plain.varTypes C.prog, gs⟩) = true →
      (DataW.weightsEach C.prog (fn.params.toList ++ s.plain.varTypes C.prog) (ds ++ gs)).all (· ≤ reachBytes) = true → X W args → W.ShapedOpen C.prog →
      a.holds C.prog (lone (Frame.enter C.prog f args .normal) [] W) →
      Calls C.prog f args W fun e W' => ∃ v, e = .returned v ∧ s.post enc C.prog fn apart fresh handsOn again W args v W') :
    ReturnsInHanded a C os f .any (fun w args => (s.pre enc C.prog fn conds apart w args ∧ X w args) ∧ sizedMet enc C.prog fn (OpenSpec.ofChange s) apart w args) (s.post enc C.prog fn apart fresh handsOn again) := by
  refine returnsInHanded_of_calls own started noInit witness fun w tape i _ shape _ ok pre met => ?_
  obtain ⟨_, _, _, g, hg, _, _, _, _, vals⟩ := ok
  cases Option.some.inj (hg.symm.trans hfn)
  obtain ⟨⟨⟨ds, gs, b, whole, cs⟩, x⟩, sized⟩ := pre
  have key := contract (w.forCall tape i) w.heap.size i.args ds gs b vals (DataW.Whole.of_heap (w' := w.forCall tape i) (by rfl) whole) cs (sized.weights whole) (hX _ _ _ (by rfl) x) shape met
  refine key.mono fun e W' h => ?_
  obtain ⟨v, rfl, post⟩ := h
  exact ChangeSpec.post_blind post
end
theorem glob_some {P : Program} {w : World} {g : Nat} {t : TypeId} {zero : Array Value} {k : IntKind} (h : w.ShapedOpen P) (hg : g < P.globals.size) (h0 : ((begin P (fun _ _ => 0) default).world.heap[g]?).bind Obj.row? = some (zero, t)) (hz : zero.size = 1) (hm : ∃ m, w.cell? ⟨g, 0, none⟩ = some (.int k m)) : ∃ cs e lo hi, w.heap[g]? = some (.cells cs e (lo, hi)) ∧ VRels [] [.opq (some k)] cs.toList := by
  obtain ⟨cs, hh, hs, _⟩ := h.1 g zero t hg h0
  obtain ⟨m, hm⟩ := hm
  refine ⟨cs, t, 0, 0, hh, ?_⟩
  have h1 : cs.size = 1 := by omega
  simp only [World.cell?, hh] at hm
  have e : cs[0]? = some (.int k m) := by simpa using hm
  obtain ⟨l⟩ := cs
  match l, h1, e with
  | [v], _, e =>
    simp only [List.getElem?_toArray, List.getElem?_cons_zero, Option.some.injEq] at e
    subst e
    refine ⟨⟨(fun _ h => nomatch h), (fun _ h => nomatch h), fun k' h => ?_⟩, trivial⟩
    cases h
    exact ⟨m, rfl⟩
end Go.Vai
end
