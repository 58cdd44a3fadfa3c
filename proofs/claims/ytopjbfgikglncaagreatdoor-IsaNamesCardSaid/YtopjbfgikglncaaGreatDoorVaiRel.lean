/- How the interpreter's values and memory stand for the model's; what becomes of that when memory grows or a row is written. -/
import Derived.Test.YtopjbfgikglncaaGreatDoorVaiTr
import Derived.Laws.AppendOwn
namespace Go.Vai

/-- Where a name lies: a block, the place of its first cell, and for a row that may be longer than is known: all its cells, and the cells of an element. -/
structure MEnt where
  block : Nat
  base : Nat
  tot : Nat
  es : Nat

mutual
def VRel (M : List MEnt) : AV → Value → Prop
  | .bool b, v => v = .bool b
  | .int k n, v => v = .int k n
  | .str s, v => v = .string ⟨⟨s⟩⟩
  | .nilp, v => v = .pointer none
  | .ptr id off, v => ∃ m, M[id]? = some m ∧ v = .pointer (some ⟨m.block, m.base + off, none⟩)
  | .nils, v => v = .slice none 0 0
  | .sl id off len cap, v => ∃ m c, M[id]? = some m ∧ v = .slice (some ⟨m.block, m.base + off, none⟩) len c ∧
      (∀ d, cap = some d → c = d) ∧ (cap = none → len ≤ c ∧ off + c * m.es = m.tot ∧ 0 < m.es)
  | .sl0, v => ∃ a c, v = .slice (some a) 0 c
  | .nilf, v => v = .nilFunc
  | .fn f first cap, v => ∃ fs cs, v = .func (.func f) (List.toArray fs) (List.toArray cs) ∧ VRels M first fs ∧ VRels M cap cs
  | .yld id, v => ∃ m, M[id]? = some m ∧ v = .func (.yield m.block) #[] #[]
  | .nili, v => v = .nilIface
  | .iface t x, v => ∃ y, v = .iface t y ∧ VRel M x y
  | .agg cs, v => ∃ vs, v = .agg (List.toArray vs) ∧ VRels M cs vs
  | .tup cs, v => ∃ vs, v = .tuple (List.toArray vs) ∧ VRels M cs vs
  | .nilm, v => v = .map none
  | .opq, v => (∀ cs, v ≠ .agg cs) ∧ ∀ vs, v ≠ .tuple vs
  | .mapv id, v => ∃ m, M[id]? = some m ∧ v = .map (some m.block)
def VRels (M : List MEnt) : List AV → List Value → Prop
  | [], [] => True
  | a :: as, v :: vs => VRel M a v ∧ VRels M as vs
  | [], _ :: _ => False
  | _ :: _, [] => False
end

theorem pre_get {M M' : List MEnt} (h : M <+: M') {i : Nat} {m : MEnt} (hm : M[i]? = some m) : M'[i]? = some m := by
  obtain ⟨L, rfl⟩ := h
  rw [List.getElem?_append_left (by exact (List.getElem?_eq_some_iff.1 hm).1)]
  exact hm

mutual
theorem VRel.mono {M M' : List MEnt} (h : M <+: M') : ∀ {a : AV} {v : Value}, VRel M a v → VRel M' a v
  | .bool _, _, r => r
  | .int _ _, _, r => r
  | .str _, _, r => r
  | .nilp, _, r => r
  | .ptr _ _, _, ⟨m, hm, e⟩ => ⟨m, pre_get h hm, e⟩
  | .nils, _, r => r
  | .sl _ _ _ _, _, ⟨m, c, hm, e⟩ => ⟨m, c, pre_get h hm, e⟩
  | .sl0, _, r => r
  | .nilf, _, r => r
  | .fn _ _ _, _, ⟨fs, cs, e, r1, r2⟩ => ⟨fs, cs, e, VRels.mono h r1, VRels.mono h r2⟩
  | .yld _, _, ⟨m, hm, e⟩ => ⟨m, pre_get h hm, e⟩
  | .nili, _, r => r
  | .iface _ _, _, ⟨y, e, r⟩ => ⟨y, e, VRel.mono h r⟩
  | .agg _, _, ⟨vs, e, r⟩ => ⟨vs, e, VRels.mono h r⟩
  | .tup _, _, ⟨vs, e, r⟩ => ⟨vs, e, VRels.mono h r⟩
  | .nilm, _, r => r
  | .opq, _, r => r
  | .mapv _, _, ⟨m, hm, e⟩ => ⟨m, pre_get h hm, e⟩
theorem VRels.mono {M M' : List MEnt} (h : M <+: M') : ∀ {as : List AV} {vs : List Value}, VRels M as vs → VRels M' as vs
  | [], [], _ => trivial
  | _ :: _, _ :: _, ⟨r1, r2⟩ => ⟨VRel.mono h r1, VRels.mono h r2⟩
end

theorem VRels.length {M : List MEnt} : ∀ {as : List AV} {vs : List Value}, VRels M as vs → as.length = vs.length
  | [], [], _ => rfl
  | _ :: _, _ :: _, h => by simp [VRels.length h.2]
theorem VRels.get {M : List MEnt} : ∀ {as : List AV} {vs : List Value}, VRels M as vs → ∀ (i : Nat) (a : AV), as[i]? = some a → ∃ v, vs[i]? = some v ∧ VRel M a v
  | [], [], _, i, a, h => by simp at h
  | x :: as, y :: vs, h, 0, a, e => by simp at e; subst e; exact ⟨y, by simp, h.1⟩
  | x :: as, y :: vs, h, i + 1, a, e => by
    obtain ⟨v, hv, r⟩ := VRels.get h.2 i a (by simpa using e)
    exact ⟨v, by simpa using hv, r⟩
theorem VRels.of {M : List MEnt} : ∀ {as : List AV} {vs : List Value}, as.length = vs.length → (∀ (i : Nat) (a : AV) (v : Value), as[i]? = some a → vs[i]? = some v → VRel M a v) → VRels M as vs
  | [], [], _, _ => trivial
  | x :: as, y :: vs, hl, h => ⟨h 0 x y (by simp) (by simp), VRels.of (by simpa using hl) (fun i a v ha hv => h (i + 1) a v (by simpa using ha) (by simpa using hv))⟩
theorem VRels.append {M : List MEnt} : ∀ {as bs : List AV} {vs us : List Value}, VRels M as vs → VRels M bs us → VRels M (as ++ bs) (vs ++ us)
  | [], _, [], _, _, h => h
  | _ :: _, _, _ :: _, _, h, k => ⟨h.1, VRels.append h.2 k⟩
theorem VRels.drop {M : List MEnt} {as : List AV} {vs : List Value} (h : VRels M as vs) (n : Nat) : VRels M (as.drop n) (vs.drop n) :=
  VRels.of (by simp [h.length]) fun i a v ha hv => by
    rw [List.getElem?_drop] at ha hv
    obtain ⟨u, hu, r⟩ := h.get _ _ ha
    rw [hv] at hu; cases hu; exact r
theorem VRels.take {M : List MEnt} {as : List AV} {vs : List Value} (h : VRels M as vs) (n : Nat) : VRels M (as.take n) (vs.take n) :=
  VRels.of (by simp [h.length]) fun i a v ha hv => by
    rw [List.getElem?_take] at ha hv
    split at ha
    · rename_i hi
      rw [if_pos hi] at hv
      obtain ⟨u, hu, r⟩ := h.get _ _ ha
      rw [hv] at hu; cases hu; exact r
    · cases ha

/-- A frame's temporaries. -/
def TRel (M : List MEnt) (t : Tr AV) (tmps : Array Value) : Prop := ∀ i v, t.get i = some v → ∃ cv, tmps[i]? = some cv ∧ VRel M v cv
theorem TRel.mono {M M' : List MEnt} (h : M <+: M') {t : Tr AV} {tmps : Array Value} (r : TRel M t tmps) : TRel M' t tmps := fun i v e => by
  obtain ⟨cv, hc, hv⟩ := r i v e
  exact ⟨cv, hc, hv.mono h⟩

def lstOf : LSt → LoopState
  | .ready => .ready
  | .busy => .busy
  | .done => .done
  | .exhausted => .exhausted
/-- A jump that is left behind. -/
def PRel : Option AExit → Option Code → Prop
  | none, c => c = none
  | some .ret, c => c = some .ret
  | some (.exit i), c => c = some (.exit i)
  | some _, _ => False

/-- A map's entries. -/
def EsRel (M : List MEnt) : List (AV × AV × Nat) → List MapEntry → Prop
  | [], [] => True
  | (k, v, b) :: es, e :: ces => VRel M k e.key ∧ VRel M v e.val ∧ e.born = b ∧ EsRel M es ces
  | [], _ :: _ => False
  | _ :: _, [] => False
theorem EsRel.mono {M M' : List MEnt} (h : M <+: M') : ∀ {es : List (AV × AV × Nat)} {ces : List MapEntry}, EsRel M es ces → EsRel M' es ces
  | [], [], _ => trivial
  | (_, _, _) :: _, _ :: _, ⟨r1, r2, r3, r4⟩ => ⟨r1.mono h, r2.mono h, r3, EsRel.mono h r4⟩
/-- The map that an iterator goes over. -/
def MiRel (M : List MEnt) : Option Nat → Option Nat → Prop
  | none, c => c = none
  | some id, c => ∃ m, M[id]? = some m ∧ c = some m.block

def AObj.isRo : AObj → Bool
  | .cells _ _ _ _ _ ro _ => ro
  | .mp _ _ ro => ro
  | _ => false

def ORel (M : List MEnt) (m : MEnt) (w : World) : AObj → Prop
  | .cells n t e g fz ro mk => ∃ cur e' lo hi, w.heap[m.block]? = some (.cells cur e' (lo, hi)) ∧ (ro = false → e' = e ∧ m.base = 0) ∧ m.base + n ≤ cur.size ∧
      (∀ gs, g = some gs → m.es = gs ∧ m.tot = cur.size ∧ m.base = 0) ∧ (ro = false → ∀ i, lo ≤ i → i < hi → i < cur.size → i < fz) ∧
      (ro = false → mk = false → hi ≤ cur.size ∧ lo ≤ hi) ∧ (∀ i v, t.get i = some v → i < n ∧ ∃ cv, cur[m.base + i]? = some cv ∧ VRel M v cv)
  | .loop st pend n tmps params assign body blk => ∃ L : Loop, w.heap[m.block]? = some (.loop L) ∧ L.state = lstOf st ∧ PRel pend L.pending ∧ L.params.toList = params ∧
      L.assign = assign ∧ L.body = body ∧ L.tmps.size = n ∧ TRel M tmps L.tmps ∧ ∃ d, M[blk]? = some d ∧ L.defers = d.block
  | .siter s pos => w.heap[m.block]? = some (.stringIter ⟨⟨s⟩⟩ pos) ∧ m.base = 0
  | .dfr => w.heap[m.block]? = some (.deferred (some []))
  | .mp es clock _ => ∃ ces, w.heap[m.block]? = some (.map (List.toArray ces) clock) ∧ EsRel M es ces
  | .miter mi since seen last => ∃ c, w.heap[m.block]? = some (.mapIter c since (List.toArray seen) last) ∧ m.base = 0 ∧ MiRel M mi c

theorem ORel.lt {M : List MEnt} {m : MEnt} {w : World} {o : AObj} (h : ORel M m w o) : m.block < w.heap.size := by
  have : ∃ x, w.heap[m.block]? = some x := by
    cases o with
    | cells n t e g fz ro mk => obtain ⟨_, _, _, _, h, _⟩ := h; exact ⟨_, h⟩
    | loop => obtain ⟨_, h, _⟩ := h; exact ⟨_, h⟩
    | siter => exact ⟨_, h.1⟩
    | dfr => exact ⟨_, h⟩
    | mp => obtain ⟨_, h, _⟩ := h; exact ⟨_, h⟩
    | miter => obtain ⟨_, h, _⟩ := h; exact ⟨_, h⟩
  obtain ⟨x, hx⟩ := this
  exact (Array.getElem?_eq_some_iff.1 hx).1

theorem ORel.carry {M M' : List MEnt} {m : MEnt} {w w' : World} {o : AObj} (h : ORel M m w o) (hM : M <+: M') (hb : w'.heap[m.block]? = w.heap[m.block]?) : ORel M' m w' o := by
  cases o with
  | cells n t e g fz ro mk =>
    obtain ⟨cur, e', lo, hi, h1, h2, h3, h4, h5, h6, h7⟩ := h
    exact ⟨cur, e', lo, hi, hb.trans h1, h2, h3, h4, h5, h6, fun i v hv => by
      obtain ⟨a, cv, b, c⟩ := h7 i v hv
      exact ⟨a, cv, b, c.mono hM⟩⟩
  | loop =>
    obtain ⟨L, h1, h2, h3, h4, h5, h6, h7, h8, d, h9, h10⟩ := h
    exact ⟨L, hb.trans h1, h2, h3, h4, h5, h6, h7, h8.mono hM, d, pre_get hM h9, h10⟩
  | siter => exact ⟨hb.trans h.1, h.2⟩
  | dfr => exact Eq.trans hb h
  | mp =>
    obtain ⟨ces, h1, h2⟩ := h
    exact ⟨ces, hb.trans h1, h2.mono hM⟩
  | miter mi =>
    obtain ⟨c, h1, h2, h3⟩ := h
    refine ⟨c, hb.trans h1, h2, ?_⟩
    cases mi with
    | none => exact h3
    | some id => obtain ⟨k, a, b⟩ := h3; exact ⟨k, pre_get hM a, b⟩

structure HRel (M : List MEnt) (H : AHeap) (w : World) : Prop where
  len : M.length = H.next
  obj : ∀ id o, H.get id = some o → ∃ m, M[id]? = some m ∧ ORel M m w o
  inj : ∀ i j o p m k, H.get i = some o → H.get j = some p → M[i]? = some m → M[j]? = some k → i ≠ j → m.block = k.block → o.isRo = true ∧ p.isRo = true

/-- A block that the interpreter may yet write. -/
def Wr (M : List MEnt) (H : AHeap) (b : Nat) : Prop := ∃ id o m, H.get id = some o ∧ o.isRo = false ∧ M[id]? = some m ∧ m.block = b

/-- A block at which a known object lies. -/
def Kn (M : List MEnt) (H : AHeap) (b : Nat) : Prop := ∃ id o m, H.get id = some o ∧ M[id]? = some m ∧ m.block = b

structure Ext (M : List MEnt) (H : AHeap) (w : World) (M' : List MEnt) (H' : AHeap) (w' : World) : Prop where
  pre : M <+: M'
  size : w.heap.size ≤ w'.heap.size
  os : w'.os = w.os
  tape : w'.tape = w.tape
  output : w'.output = w.output
  old : ∀ b, b < w.heap.size → ¬ Wr M H b → w'.heap[b]? = w.heap[b]? ∧ ¬ Wr M' H' b
  kn : ∀ b, b < w.heap.size → ¬ Kn M H b → ¬ Kn M' H' b

theorem Ext.refl (M : List MEnt) (H : AHeap) (w : World) : Ext M H w M H w := ⟨List.prefix_refl _, Nat.le_refl _, rfl, rfl, rfl, fun _ _ h => ⟨rfl, h⟩, fun _ _ h => h⟩
theorem Ext.trans {M M1 M2 : List MEnt} {H H1 H2 : AHeap} {w w1 w2 : World} (a : Ext M H w M1 H1 w1) (b : Ext M1 H1 w1 M2 H2 w2) : Ext M H w M2 H2 w2 :=
  ⟨a.pre.trans b.pre, Nat.le_trans a.size b.size, b.os.trans a.os, b.tape.trans a.tape, b.output.trans a.output, fun k hk hn => by
    obtain ⟨e1, n1⟩ := a.old k hk hn
    obtain ⟨e2, n2⟩ := b.old k (Nat.lt_of_lt_of_le hk a.size) n1
    exact ⟨e2.trans e1, n2⟩, fun k hk hn => b.kn k (Nat.lt_of_lt_of_le hk a.size) (a.kn k hk hn)⟩
/-- A draw. -/
theorem Ext.drew {M : List MEnt} {H : AHeap} {w w' : World} (hh : w'.heap = w.heap) (ho : w'.os = w.os) (ht : w'.tape = w.tape) (hp : w'.output = w.output) : Ext M H w M H w' :=
  ⟨List.prefix_refl _, by rw [hh]; exact Nat.le_refl _, ho, ht, hp, fun _ _ h => ⟨by rw [hh], h⟩, fun _ _ h => h⟩
theorem HRel.drew {M : List MEnt} {H : AHeap} {w w' : World} (h : HRel M H w) (hh : w'.heap = w.heap) : HRel M H w' :=
  ⟨h.len, fun id o e => by
    obtain ⟨m, hm, r⟩ := h.obj id o e
    exact ⟨m, hm, r.carry (List.prefix_refl _) (by rw [hh])⟩, h.inj⟩

theorem AHeap.get_new {H : AHeap} {o p : AObj} {id : Nat} (h : (H.new o).get id = some p) : (id = H.next ∧ o = p) ∨ (id ≠ H.next ∧ H.get id = some p) := Tr.get_set h
theorem AHeap.get_put {H : AHeap} {o p : AObj} {id j : Nat} (h : (H.put j o).get id = some p) : (id = j ∧ o = p) ∨ (id ≠ j ∧ H.get id = some p) := Tr.get_set h
theorem AHeap.get_kill {H : AHeap} {p : AObj} {id j : Nat} (h : (H.kill j).get id = some p) : id ≠ j ∧ H.get id = some p := Tr.get_del h

theorem HRel.lt {M : List MEnt} {H : AHeap} {w : World} (h : HRel M H w) {id : Nat} {o : AObj} (e : H.get id = some o) : id < M.length := by
  obtain ⟨m, hm, _⟩ := h.obj id o e
  exact (List.getElem?_eq_some_iff.1 hm).1
theorem HRel.blk {M : List MEnt} {H : AHeap} {w : World} (h : HRel M H w) {id : Nat} {o : AObj} {m : MEnt} (e : H.get id = some o) (hm : M[id]? = some m) : ORel M m w o := by
  obtain ⟨k, hk, r⟩ := h.obj id o e
  rw [hm] at hk; cases hk; exact r

/-- A new thing in a new block. -/
theorem HRel.new {M : List MEnt} {H : AHeap} {w w' : World} (h : HRel M H w) (hg : w.grownBy w' none) (o : AObj) (m : MEnt) (hm : w.heap.size ≤ m.block) (ho : ORel (M ++ [m]) m w' o) :
    HRel (M ++ [m]) (H.new o) w' ∧ Ext M H w (M ++ [m]) (H.new o) w' := by
  have pre : M <+: M ++ [m] := List.prefix_append _ _
  have hnew : (M ++ [m])[H.next]? = some m := by rw [← h.len]; simp
  have lt : ∀ id p k, H.get id = some p → (M ++ [m])[id]? = some k → M[id]? = some k ∧ k.block < w.heap.size := fun id p k e ek => by
    obtain ⟨k', hk', r⟩ := h.obj id p e
    have := pre_get pre hk'
    rw [ek] at this; cases this
    exact ⟨hk', r.lt⟩
  refine ⟨⟨by simp [AHeap.new, h.len], fun id p e => ?_, fun i j p q k l ei ej ek el hij hb => ?_⟩, ⟨pre, hg.size, hg.os, hg.tape, hg.output, fun b hb hn => ⟨hg.block b hb (by simp), fun hw => ?_⟩, fun b hb hn hw => ?_⟩⟩
  · rcases AHeap.get_new e with ⟨rfl, rfl⟩ | ⟨_, e⟩
    · exact ⟨m, hnew, ho⟩
    · obtain ⟨k, hk, r⟩ := h.obj id p e
      exact ⟨k, pre_get pre hk, r.carry pre (hg.block _ r.lt (by simp))⟩
  · rcases AHeap.get_new ei with ⟨rfl, rfl⟩ | ⟨_, ei⟩ <;> rcases AHeap.get_new ej with ⟨rfl, rfl⟩ | ⟨_, ej⟩
    · exact absurd rfl hij
    · have := (lt _ _ _ ej el).2
      rw [hnew] at ek; cases ek; omega
    · have := (lt _ _ _ ei ek).2
      rw [hnew] at el; cases el; omega
    · exact h.inj i j p q k l ei ej (lt _ _ _ ei ek).1 (lt _ _ _ ej el).1 hij hb
  · obtain ⟨id, p, k, e, hr, ek, rfl⟩ := hw
    rcases AHeap.get_new e with ⟨rfl, rfl⟩ | ⟨_, e⟩
    · rw [hnew] at ek; cases ek; omega
    · exact hn ⟨id, p, k, e, hr, (lt _ _ _ e ek).1, rfl⟩
  · obtain ⟨id, p, k, e, ek, rfl⟩ := hw
    rcases AHeap.get_new e with ⟨rfl, rfl⟩ | ⟨_, e⟩
    · rw [hnew] at ek; cases ek; omega
    · exact hn ⟨id, p, k, e, (lt _ _ _ e ek).1, rfl⟩

/-- A row that the interpreter may write is written. -/
theorem HRel.put {M : List MEnt} {H : AHeap} {w w' : World} (h : HRel M H w) {id : Nat} {o : AObj} {m : MEnt} (e : H.get id = some o) (hro : o.isRo = false) (hm : M[id]? = some m)
    (hg : w.grownBy w' (some m.block)) (o' : AObj) (ho : ORel M m w' o') : HRel M (H.put id o') w' ∧ Ext M H w M (H.put id o') w' := by
  have ne : ∀ j p k, H.get j = some p → M[j]? = some k → j ≠ id → k.block ≠ m.block := fun j p k ej ek hj hb => by
    have := (h.inj j id p o k m ej e ek hm hj hb).2
    rw [hro] at this; cases this
  refine ⟨⟨h.len, fun j p ej => ?_, fun i j p q k l ei ej ek el hij hb => ?_⟩, ⟨List.prefix_refl _, hg.size, hg.os, hg.tape, hg.output, fun b hb hn => ⟨hg.block b hb ?_, fun hw => ?_⟩, fun b hb hn hw => ?_⟩⟩
  · rcases AHeap.get_put ej with ⟨rfl, rfl⟩ | ⟨hj, ej⟩
    · exact ⟨m, hm, ho⟩
    · obtain ⟨k, hk, r⟩ := h.obj j p ej
      exact ⟨k, hk, r.carry (List.prefix_refl _) (hg.block _ r.lt (by have := ne j p k ej hk hj; simp [this]))⟩
  · rcases AHeap.get_put ei with ⟨rfl, rfl⟩ | ⟨hi, ei'⟩ <;> rcases AHeap.get_put ej with ⟨rfl, rfl⟩ | ⟨hj, ej'⟩
    · exact absurd rfl hij
    · rw [hm] at ek; cases ek; exact absurd hb.symm (ne j q l ej' el hj)
    · rw [hm] at el; cases el; exact absurd hb (ne i p k ei' ek hi)
    · exact h.inj i j p q k l ei' ej' ek el hij hb
  · intro he
    simp only [Option.some.injEq] at he
    exact hn ⟨id, o, m, e, hro, hm, he.symm⟩
  · obtain ⟨j, p, k, ej, hr, ek, rfl⟩ := hw
    rcases AHeap.get_put ej with ⟨rfl, rfl⟩ | ⟨hj, ej⟩
    · exact hn ⟨_, o, m, e, hro, hm, by rw [hm] at ek; cases ek; rfl⟩
    · exact hn ⟨j, p, k, ej, hr, ek, rfl⟩
  · obtain ⟨j, p, k, ej, ek, rfl⟩ := hw
    rcases AHeap.get_put ej with ⟨rfl, rfl⟩ | ⟨hj, ej⟩
    · exact hn ⟨_, o, m, e, hm, by rw [hm] at ek; cases ek; rfl⟩
    · exact hn ⟨j, p, k, ej, ek, rfl⟩

/-- A name is given up. -/
theorem HRel.kill {M : List MEnt} {H : AHeap} {w : World} (h : HRel M H w) (id : Nat) : HRel M (H.kill id) w ∧ Ext M H w M (H.kill id) w :=
  ⟨⟨h.len, fun j p ej => h.obj j p (AHeap.get_kill ej).2, fun i j p q k l ei ej => h.inj i j p q k l (AHeap.get_kill ei).2 (AHeap.get_kill ej).2⟩,
   ⟨List.prefix_refl _, Nat.le_refl _, rfl, rfl, rfl, fun _ _ hn => ⟨rfl, fun ⟨j, p, k, ej, r⟩ => hn ⟨j, p, k, (AHeap.get_kill ej).2, r⟩⟩, fun _ _ hn ⟨j, p, k, ej, r⟩ => hn ⟨j, p, k, (AHeap.get_kill ej).2, r⟩⟩⟩

/-- A row goes on under a new name: in the block where it lies, which is written. -/
theorem HRel.rename {M : List MEnt} {H : AHeap} {w w' : World} (h : HRel M H w) {id : Nat} {o : AObj} {m : MEnt} (e : H.get id = some o) (hro : o.isRo = false) (hm : M[id]? = some m)
    (hg : w.grownBy w' (some m.block)) (o' : AObj) (m' : MEnt) (hb' : m'.block = m.block) (ho : ORel (M ++ [m']) m' w' o') :
    HRel (M ++ [m']) ((H.kill id).new o') w' ∧ Ext M H w (M ++ [m']) ((H.kill id).new o') w' := by
  have pre : M <+: M ++ [m'] := List.prefix_append _ _
  have hnew : (M ++ [m'])[(H.kill id).next]? = some m' := by show (M ++ [m'])[H.next]? = _; rw [← h.len]; simp
  have ne : ∀ j p k, H.get j = some p → M[j]? = some k → j ≠ id → k.block ≠ m.block := fun j p k ej ek hj hb => by
    have := (h.inj j id p o k m ej e ek hm hj hb).2
    rw [hro] at this; cases this
  have old : ∀ j p k, H.get j = some p → (M ++ [m'])[j]? = some k → M[j]? = some k := fun j p k ej ek => by
    obtain ⟨k', hk', r⟩ := h.obj j p ej
    have := pre_get pre hk'
    rw [ek] at this; cases this
    exact hk'
  refine ⟨⟨by simp [AHeap.new, AHeap.kill, h.len], fun j p ej => ?_, fun i j p q k l ei ej ek el hij hb => ?_⟩, ⟨pre, hg.size, hg.os, hg.tape, hg.output, fun b hb hn => ⟨hg.block b hb ?_, fun hw => ?_⟩, fun b hb hn hw => ?_⟩⟩
  · rcases AHeap.get_new ej with ⟨rfl, rfl⟩ | ⟨_, ej⟩
    · exact ⟨m', hnew, ho⟩
    · obtain ⟨hj, ej⟩ := AHeap.get_kill ej
      obtain ⟨k, hk, r⟩ := h.obj j p ej
      exact ⟨k, pre_get pre hk, r.carry pre (hg.block _ r.lt (by have := ne j p k ej hk hj; simp [this]))⟩
  · rcases AHeap.get_new ei with ⟨rfl, rfl⟩ | ⟨_, ei⟩ <;> rcases AHeap.get_new ej with ⟨rfl, rfl⟩ | ⟨_, ej⟩
    · exact absurd rfl hij
    · obtain ⟨hj, ej⟩ := AHeap.get_kill ej
      rw [hnew] at ek; cases ek
      exact absurd (hb.symm.trans hb') (ne j q l ej (old _ _ _ ej el) hj)
    · obtain ⟨hi, ei⟩ := AHeap.get_kill ei
      rw [hnew] at el; cases el
      exact absurd (hb.trans hb') (ne i p k ei (old _ _ _ ei ek) hi)
    · obtain ⟨_, ei⟩ := AHeap.get_kill ei
      obtain ⟨_, ej⟩ := AHeap.get_kill ej
      exact h.inj i j p q k l ei ej (old _ _ _ ei ek) (old _ _ _ ej el) hij hb
  · intro he
    simp only [Option.some.injEq] at he
    exact hn ⟨id, o, m, e, hro, hm, he.symm⟩
  · obtain ⟨j, p, k, ej, hr, ek, rfl⟩ := hw
    rcases AHeap.get_new ej with ⟨rfl, rfl⟩ | ⟨_, ej⟩
    · rw [hnew] at ek; cases ek
      exact hn ⟨id, o, m, e, hro, hm, hb'.symm⟩
    · obtain ⟨_, ej⟩ := AHeap.get_kill ej
      exact hn ⟨j, p, k, ej, hr, old _ _ _ ej ek, rfl⟩
  · obtain ⟨j, p, k, ej, ek, rfl⟩ := hw
    rcases AHeap.get_new ej with ⟨rfl, rfl⟩ | ⟨_, ej⟩
    · rw [hnew] at ek; cases ek
      exact hn ⟨id, o, m, e, hm, hb'.symm⟩
    · obtain ⟨_, ej⟩ := AHeap.get_kill ej
      exact hn ⟨j, p, k, ej, old _ _ _ ej ek, rfl⟩

end Go.Vai
