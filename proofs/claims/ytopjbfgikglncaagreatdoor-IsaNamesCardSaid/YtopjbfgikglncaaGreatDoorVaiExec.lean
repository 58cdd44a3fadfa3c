/- One operation: what the interpreter answers, the model does. -/
import Derived.Test.YtopjbfgikglncaaGreatDoorVaiBuild
import Derived.Test.YtopjbfgikglncaaGreatDoorVaiMaps
import Derived.Lib.UnsafeStr
namespace Go.Vai
section
variable {E : Env} {P : Program} {M : List MEnt} {H : AHeap} {w : World}

/-- What a deferred call stands for. -/
def DfRel (M : List MEnt) : ADf → Deferred → Prop
  | .mark id, d => ∃ m, M[id]? = some m ∧ d = { target := .collected m.block, args := #[] }
  | .call f args, d => ∃ (cap as fs : List Value), d = { target := .fn (.func f) cap.toArray, args := as.toArray } ∧ fs = as ++ cap ∧ VRels M args fs
theorem DfRel.mono {M M' : List MEnt} (h : M <+: M') : ∀ {x : ADf} {d : Deferred}, DfRel M x d → DfRel M' x d
  | .mark _, _, ⟨m, hm, e⟩ => ⟨m, pre_get h hm, e⟩
  | .call _ _, _, ⟨c, a, f, e, e2, r⟩ => ⟨c, a, f, e, e2, r.mono h⟩

/-- What the model does where the interpreter answers so. -/
def XRel (P : Program) (M : List MEnt) (H : AHeap) (w : World) (s : Sem Next) : ARes → Prop
  | .val v H' => ∃ cv w' M', s.run P w = .ok (.value cv) w' ∧ Ext M H w M' H' w' ∧ HRel M' H' w' ∧ VRel M' v cv
  | .skip H' => ∃ w' M', s.run P w = .ok .skip w' ∧ Ext M H w M' H' w' ∧ HRel M' H' w'
  | .panic v H' => ∃ cv, s.run P w = .halt (.panic cv) w ∧ H' = H ∧ VRel M v cv
  | .call f args => ∃ cargs : List Value, s.run P w = (callFunc f cargs.toArray).run P w ∧ VRels M args cargs
  | .ycall id args => ∃ (m : MEnt) (cargs : List Value), M[id]? = some m ∧ s.run P w = (Instr.yield m.block cargs.toArray).run P w ∧ VRels M args cargs
  | .defer f args => ∃ d, s.run P w = .ok (.defer d) w ∧ DfRel M (.call f args) d

theorem XRel.congr {s s' : Sem Next} {r : ARes} (h : s.run P w = s'.run P w) (x : XRel P M H w s' r) : XRel P M H w s r := by
  cases r <;> simp only [XRel] at x ⊢ <;> rw [h] <;> exact x

theorem xval {s : Sem Value} {v : AV} {cv : Value} (hr : HRel M H w) (h : s.run P w = .ok cv w) (r : VRel M v cv) : XRel P M H w (do pure (.value (← s))) (.val v H) :=
  ⟨cv, w, M, by simp [h], Ext.refl _ _ _, hr, r⟩
theorem xval' {s : Sem Value} {v : AV} {H' : AHeap} (h : ∃ cv w' M', s.run P w = .ok cv w' ∧ Ext M H w M' H' w' ∧ HRel M' H' w' ∧ VRel M' v cv) : XRel P M H w (do pure (.value (← s))) (.val v H') := by
  obtain ⟨cv, w', M', h1, h2, h3, h4⟩ := h
  exact ⟨cv, w', M', by simp [h1], h2, h3, h4⟩
theorem vh_some {o : Option AV} {r : ARes} (h : vh H o = some r) : ∃ v, o = some v ∧ r = .val v H := by
  cases o with
  | none => simp [vh] at h
  | some v => simp only [vh, Option.some.injEq] at h; exact ⟨v, rfl, h.symm⟩
theorem vhh_some {o : Option (AV × AHeap)} {r : ARes} (h : vhh o = some r) : ∃ v H', o = some (v, H') ∧ r = .val v H' := by
  cases o with
  | none => simp [vhh] at h
  | some p => obtain ⟨v, H'⟩ := p; simp only [vhh, Option.some.injEq] at h; exact ⟨v, H', rfl, h.symm⟩
theorem xex {s : Sem Value} {v : AV} (hr : HRel M H w) (h : ∃ cv, s.run P w = .ok cv w ∧ VRel M v cv) : XRel P M H w (do pure (.value (← s))) (.val v H) := by
  obtain ⟨cv, h1, h2⟩ := h; exact xval hr h1 h2

theorem optOpd_rel (hG : GRel E M) {fr : Tr AV} {a : Act} (hf : TRel M fr a.tmps) {x : Option Operand} {r : Option AV} (h : optOpd E fr x = some r) : ORelO M r (x.map a.eval) := by
  cases x with
  | none => simp only [optOpd, Option.some.injEq] at h; subst h; trivial
  | some x =>
    simp only [optOpd] at h
    cases ho : opd E fr x with
    | none => simp [ho] at h
    | some v => simp only [ho, Option.some.injEq] at h; subst h; exact opd_rel hG hf ho

theorem run_loadBytesI {w : World} {b : Nat} {cur : Array Value} {e : TypeId} {lo hi : Nat} (h : w.heap[b]? = some (.cells cur e (lo, hi))) : ∀ (ns : List Int) (off : Nat) (acc : ByteArray), (∀ j n, ns[j]? = some n → cur[off + j]? = some (.int .u8 n)) →
    (loadBytes ⟨b, off, none⟩ acc ns.length).run P w = .ok ⟨acc.data ++ (ns.map (fun n : Int => UInt8.ofNat n.toNat)).toArray⟩ w := by
  intro ns
  induction ns with
  | nil => intro off acc _; simp [loadBytes]
  | cons n ns ih =>
    intro off acc hc
    have h0 : w.cell? ⟨b, off, none⟩ = some (.int .u8 n) := by
      rw [cell_at h]; have := hc 0 n (by simp); simpa using this
    have := ih (off + 1) (acc.push (UInt8.ofNat n.toNat)) (fun j m hm => by have := hc (j + 1) m (by simpa using hm); rw [← this]; congr 1; omega)
    simp only [List.length_cons, loadBytes, Sem.run_bind, run_load, h0, Result.andThen_ok, addr_add]
    have e : (acc.push (UInt8.ofNat n.toNat)).data = acc.data.push (UInt8.ofNat n.toNat) := rfl
    rw [e] at this
    refine Eq.trans this ?_
    simp

theorem trimS_sound (hr : HRel M H w) {t : TypeId} {s : AV} {cs : Value} (hs : VRel M s cs) : HRel M (trimS E H t s) w ∧ Ext M H w M (trimS E H t s) w := by
  have same : HRel M H w ∧ Ext M H w M H w := ⟨hr, Ext.refl _ _ _⟩
  unfold trimS
  split
  case h_2 => exact same
  rename_i id len
  split
  case h_2 => exact same
  rename_i ti hti
  split
  case h_2 => exact same
  rename_i e hq
  split
  case h_2 => exact same
  rename_i ei n c e' g fz mk hte hget
  cases hc : (Nat.blt (len * ei.size) n && Nat.ble fz (len * ei.size)) with
  | false => exact same
  | true =>
    simp only [cond_true]
    split
    case h_2 => exact same
    rename_i vs hvs
    simp only [Bool.and_eq_true, Nat.blt_eq, Nat.ble_eq] at hc
    obtain ⟨m, cc, hm, _⟩ := hs
    obtain ⟨cur, e1, lo, hi, g1, g2, g3, g4, g5, g6, g7⟩ := hr.blk hget hm
    obtain ⟨hlen, hg⟩ := Tr.getAll_spec _ hvs
    refine hr.put hget rfl hm (grown_refl w _) _ ⟨cur, e1, lo, hi, g1, g2, by omega, g4, g5, g6, fun j u hu => ?_⟩
    rcases Tr.get_putAll vs hu with ⟨q, rfl, hq⟩ | ⟨_, hu⟩
    · have hql : q < len * ei.size := by rw [← hlen]; exact (List.getElem?_eq_some_iff.1 hq).1
      have := hg q hql
      rw [hq] at this
      obtain ⟨_, r⟩ := g7 (0 + q) u this
      exact ⟨by omega, r⟩
    · cases hu

theorem builtinA_sound (hE : TysOk E P) (hr : HRel M H w) {b : Builtin} {ts : List TypeId} {ty : TypeId} {consts : Array Bool} {args : List AV} {cargs : List Value} {r : ARes} (h : builtinA E H b ts args = some r) (ha : VRels M args cargs) :
    XRel P M H w (builtin b ts.toArray ty consts cargs.toArray) r := by
  unfold builtinA at h
  split at h
  · -- len
    rename_i t rest x
    match cargs, ha with
    | [cx], ⟨hx, _⟩ =>
    split at h
    case h_2 => cases h
    rename_i ti hty
    obtain ⟨i, d, z, ht⟩ := hE.ty t ti hty
    have hd := ht.desc
    split at h
    · rename_i s hq
      rw [hq] at hd; simp only [DRel] at hd; subst hd
      simp only [VRel] at hx; subst hx
      simp only [Option.some.injEq] at h; subst h
      exact xval hr (by simp [Builtin.len_, run_und ht, goInt] <;> rfl) rfl
    · rename_i e hq
      rw [hq] at hd; simp only [DRel] at hd; subst hd
      simp only [VRel] at hx; subst hx
      simp only [Option.some.injEq] at h; subst h
      exact xval hr (by simp [Builtin.len_, run_und ht, goInt] <;> rfl) rfl
    · rename_i e hq
      rw [hq] at hd; simp only [DRel] at hd; subst hd
      obtain ⟨a, c, rfl⟩ := hx
      simp only [Option.some.injEq] at h; subst h
      exact xval hr (by simp [Builtin.len_, run_und ht, goInt] <;> rfl) rfl
    · rename_i e id off n c hq
      rw [hq] at hd; simp only [DRel] at hd; subst hd
      obtain ⟨m, c', _, rfl, _⟩ := hx
      simp only [Option.some.injEq] at h; subst h
      exact xval hr (by simp [Builtin.len_, run_und ht, goInt] <;> rfl) rfl
    · rename_i n e hq
      rw [hq] at hd; simp only [DRel] at hd; subst hd
      simp only [Option.some.injEq] at h; subst h
      exact xval hr (by simp [Builtin.len_, run_und ht, goInt] <;> rfl) rfl
    · rename_i kt et hq
      rw [hq] at hd; simp only [DRel] at hd; subst hd
      simp only [VRel] at hx; subst hx
      simp only [Option.some.injEq] at h; subst h
      exact xval hr (by simp [Builtin.len_, run_und ht, goInt] <;> rfl) rfl
    · rename_i kt et id hq
      rw [hq] at hd; simp only [DRel] at hd; subst hd
      obtain ⟨m, hm, rfl⟩ := hx
      split at h
      case h_2 => cases h
      rename_i es clock qro hget
      simp only [Option.some.injEq] at h; subst h
      obtain ⟨ces, hb, he⟩ := hr.blk hget hm
      have hobj : (getObj m.block).run P w = .ok (.map (List.toArray ces) clock) w := by simp [getObj, Sem.run, hb]
      exact xval hr (by simp [Builtin.len_, run_und ht, hobj, goInt, he.len] <;> rfl) rfl
    · cases h
  · -- cap
    rename_i t rest x
    match cargs, ha with
    | [cx], ⟨hx, _⟩ =>
    split at h
    case h_2 => cases h
    rename_i ti hty
    obtain ⟨i, d, z, ht⟩ := hE.ty t ti hty
    have hd := ht.desc
    split at h
    · rename_i e hq
      rw [hq] at hd; simp only [DRel] at hd; subst hd
      simp only [VRel] at hx; subst hx
      simp only [Option.some.injEq] at h; subst h
      exact xval hr (by simp [Builtin.cap_, run_und ht, goInt] <;> rfl) rfl
    · rename_i e id off n c hq
      rw [hq] at hd; simp only [DRel] at hd; subst hd
      obtain ⟨m, c', _, rfl, hc, _⟩ := hx
      have := hc c rfl; subst this
      simp only [Option.some.injEq] at h; subst h
      exact xval hr (by simp [Builtin.cap_, run_und ht, goInt] <;> rfl) rfl
    · cases h
  · -- append
    rename_i t u rest s x
    match cargs, ha with
    | [cs, cx], ⟨hs, hx, _⟩ =>
    obtain ⟨v, H', h1, rfl⟩ := vhh_some h
    obtain ⟨t1, t2⟩ := trimS_sound (E := E) (t := t) hr hs
    obtain ⟨cv, w', M', y1, y2, y3, y4⟩ := appendA_sound (ty := ty) (rest := rest) hE t1 h1 hs hx
    exact xval' ⟨cv, w', M', y1, t2.trans y2, y3, y4⟩
  · -- copy
    rename_i t rest d s
    match cargs, ha with
    | [cd, cs], ⟨hd, hs, _⟩ =>
    obtain ⟨v, H', h1, rfl⟩ := vhh_some h
    obtain ⟨cv, w', h2, h3, h4, h5⟩ := copyA_sound hE hr h1 hd hs
    exact xval' ⟨cv, w', M, h2, h3, h4, h5⟩
  · rename_i k x k' y
    match cargs, ha with
    | [cx, cy], ⟨hx, hy, _⟩ =>
    simp only [VRel] at hx hy
    subst hx; subst hy
    simp only [Option.some.injEq] at h; subst h
    refine xval hr (cv := .int k (if y < x then y else x)) ?_ ?_
    · simp [Builtin.min_, Builtin.min2]
    · simp only [VRel, ilt_iff, Bool.cond_decide]
  · rename_i k x k' y
    match cargs, ha with
    | [cx, cy], ⟨hx, hy, _⟩ =>
    simp only [VRel] at hx hy
    subst hx; subst hy
    simp only [Option.some.injEq] at h; subst h
    refine xval hr (cv := .int k (if x < y then y else x)) ?_ ?_
    · simp [Builtin.max_, Builtin.max2]
    · simp only [VRel, ilt_iff, Bool.cond_decide]
  · -- the data of a slice
    rename_i x
    match cargs, ha with
    | [cx], ⟨hx, _⟩ =>
    split at h
    · simp only [VRel] at hx; subst hx
      simp only [Option.some.injEq] at h; subst h
      exact xval hr (Lib.run_unsafeSliceData_nil _ _ _ _ _) rfl
    · rename_i id off len
      cases hl : Nat.beq len 0 with
      | true => simp [hl] at h
      | false =>
        simp only [hl, cond_false, Option.some.injEq] at h; subst h
        obtain ⟨m, c, hm, rfl, _, hc⟩ := hx
        have hne : c ≠ 0 := by
          have := (hc rfl).1
          intro e0; subst e0
          have : len = 0 := by omega
          subst this; simp at hl
        exact xval hr (cv := .pointer (some ⟨m.block, m.base + off, none⟩)) (Lib.run_unsafeSliceData_row _ _ _ _ _ _ hne) ⟨m, hm, rfl⟩
    · rename_i id off len c
      cases hl : Nat.beq c 0 with
      | true => simp [hl] at h
      | false =>
        simp only [hl, cond_false, Option.some.injEq] at h; subst h
        obtain ⟨m, c', hm, rfl, hc, _⟩ := hx
        have := hc c rfl; subst this
        have hne : c' ≠ 0 := by intro e0; subst e0; simp at hl
        exact xval hr (cv := .pointer (some ⟨m.block, m.base + off, none⟩)) (Lib.run_unsafeSliceData_row _ _ _ _ _ _ hne) ⟨m, hm, rfl⟩
    · cases h
  · -- a string over a row
    rename_i t rest id off k n
    match cargs, ha with
    | [cp, cn], ⟨hp, hn, _⟩ =>
    simp only [VRel] at hn; subst hn
    simp only [Bool.cond_eq_ite, ilt_iff, decide_eq_true_eq] at h
    split at h
    · cases h
    rename_i hn1
    split at h
    case h_2 => cases h
    rename_i ti mm c e g fz hty hget
    obtain ⟨i, d, z, ht⟩ := hE.ty t ti hty
    have hd := ht.desc
    split at h
    case h_2 => cases h
    rename_i u hq
    rw [hq] at hd; simp only [DRel] at hd; subst hd
    split at h
    case isFalse => cases h
    rename_i hcond
    simp only [Bool.and_eq_true, Nat.ble_eq] at hcond
    obtain ⟨hlies, hle, hbig⟩ := hcond
    split at h
    case h_2 => cases h
    rename_i cs hcs
    split at h
    case h_2 => cases h
    rename_i s hs
    simp only [Option.some.injEq] at h; subst h
    obtain ⟨m, hm, rfl⟩ := hp
    obtain ⟨cur, e', lo, hi, g1, g2, g3, g4, g5, g6, g7⟩ := hr.blk hget hm
    obtain ⟨rfl, hb0⟩ := g2 rfl
    obtain ⟨hlen, hget'⟩ := Tr.getAll_spec _ hcs
    rw [hb0] at g3 g7
    simp only [Nat.zero_add] at g3 g7
    have hrel : ∃ vs, VRels M cs vs ∧ vs.length = n.toNat ∧ ∀ j v, vs[j]? = some v → cur[off + j]? = some v := by
      refine ⟨(List.range n.toNat).map fun j => (cur[off + j]?).getD undef, ?_, by simp, fun j v hv => ?_⟩
      · refine VRels.of (by simp [hlen]) fun j a v ha hv => ?_
        have hj : j < n.toNat := by rw [← hlen]; exact (List.getElem?_eq_some_iff.1 ha).1
        obtain ⟨_, cv, h1, h2⟩ := g7 (off + j) a (by rw [hget' j hj]; exact ha)
        have : v = cv := by
          rw [List.getElem?_map, List.getElem?_range hj] at hv
          simp only [Option.map_some, h1, Option.getD_some, Option.some.injEq] at hv
          exact hv.symm
        rw [this]; exact h2
      · have hj : j < n.toNat := by
          have := (List.getElem?_eq_some_iff.1 hv).1
          simpa using this
        have hlt : off + j < cur.size := by omega
        rw [List.getElem?_map, List.getElem?_range hj] at hv
        simp only [Option.map_some, Option.some.injEq] at hv
        rw [Array.getElem?_eq_getElem hlt] at hv ⊢
        simpa using hv
    obtain ⟨vs, v1, v2, v3⟩ := hrel
    obtain ⟨ns, rfl, rfl⟩ := bytesA_rel hs v1
    have hns : ns.length = n.toNat := by simpa using v2
    have hload := run_loadBytesI (P := P) g1 ns off ByteArray.empty (fun j x hx => v3 j (.int .u8 x) (by simp [hx]))
    rw [hns] at hload
    have hv := lies_sound (b := m.block) hE hlies g1 g3
    have hblt : m.block < w.heap.size := (Array.getElem?_eq_some_iff.1 g1).1
    have hn0 : n.toNat ≠ 0 := by omega
    have hg' : w.grownBy (w.freeze ⟨m.block, off, none⟩ n.toNat) (some m.block) := by
      refine ⟨?_, ?_, ?_, ?_, ?_⟩
      all_goals simp only [World.freeze, hn0, if_false]
      · simp
      · intro k _ hne
        simp only [Array.getElem?_modify]
        rw [if_neg (by intro e; apply hne; rw [e])]
    have hheap : (w.freeze ⟨m.block, off, none⟩ n.toNat).heap[m.block]? = some (.cells cur e' (if lo == hi then (off, off + n.toNat) else (min lo off, max hi (off + n.toNat)))) := by
      simp [World.freeze, hn0, Array.getElem?_modify, g1]
    obtain ⟨n1, n2⟩ := hr.put hget rfl hm hg' (.cells mm c e' g (max fz (off + n.toNat)) false false) (by
      by_cases hlh : lo = hi
      · have hb : (lo == hi) = true := by simp [hlh]
        rw [hb] at hheap
        refine ⟨cur, e', off, off + n.toNat, hheap, fun _ => ⟨rfl, hb0⟩, by omega, g4, fun _ i a b _ => by omega, fun _ _ => ⟨by omega, by omega⟩, by rw [hb0]; simpa using g7⟩
      · have hb : (lo == hi) = false := by simp [hlh]
        rw [hb] at hheap
        have ghi := g6 rfl rfl
        refine ⟨cur, e', min lo off, max hi (off + n.toNat), hheap, fun _ => ⟨rfl, hb0⟩, by omega, g4, fun _ i a b d => ?_, fun _ _ => ⟨by omega, by omega⟩, by rw [hb0]; simpa using g7⟩
        by_cases h1 : lo ≤ i ∧ i < hi
        · have := g5 rfl i h1.1 h1.2 d; omega
        · by_cases h2 : i < off + n.toNat
          · omega
          · have h3 : i < hi := by omega
            have h4 : i < lo := by omega
            have := g5 rfl lo (Nat.le_refl _) (by omega) (by omega)
            omega)
    refine xval' ⟨.string ⟨⟨ns.map (fun n : Int => UInt8.ofNat n.toNat)⟩⟩, _, M, ?_, n2, n1, rfl⟩
    have hnn : ¬ n < 0 := by omega
    have hmx : IntKind.i64.max = 9223372036854775807 := rfl
    have hmax : n ≤ 9223372036854775807 := by
      have : (n.toNat : Int) = n := Int.toNat_of_nonneg (by omega)
      omega
    have hne0 : ¬ n = 0 := by omega
    have hel : (elemOf t).run P w = .ok u w := by simp [elemOf, run_und ht]
    have hdef : ∀ (o : Nat) (pts : List TypeId), Builtin.unsafeString_ (t :: pts).toArray ty #[.pointer (some ⟨m.block, o, none⟩), .int k n] =
        (do
          let n ← asInt (.int k n)
          if n < 0 then runtimePanic (.error "unsafe.String: len out of range")
          if n > IntKind.i64.max then unsupported (.unsafePointer "String: a length above the largest int")
          if n = 0 then pure (.string .empty)
          else if ← variablesAt ⟨m.block, o, none⟩ (← elemOf t) n.toNat then do
            let s ← loadBytes ⟨m.block, o, none⟩ .empty n.toNat
            freeze ⟨m.block, o, none⟩ n.toNat
            pure (.string s)
          else unsupported (.unsafePointer "String: not so many bytes at ptr")) := fun _ _ => rfl
    have hz : m.base + off = off := by omega
    rw [hz]
    show (Builtin.unsafeString_ (t :: rest).toArray ty #[.pointer (some ⟨m.block, off, none⟩), .int k n]).run P w = _
    rw [hdef]
    simp [asInt, asIntOf, hnn, hmx, hmax, hne0, hel, hv, hload]
  · cases h

theorem map_eval (a : Act) (xs : Array Operand) : xs.map a.eval = (xs.toList.map a.eval).toArray := by
  apply Array.ext'; simp
theorem parts_eval' (a : Act) (xs : Array (Nat × Operand)) : (xs.map fun (i, x) => (i, a.eval x)) = ((xs.toList.map fun p => (p.1, a.eval p.2))).toArray := by
  apply Array.ext'; simp

theorem grown_put (w : World) (b : Nat) (o : Obj) : w.grownBy { w with heap := w.heap.setIfInBounds b o } (some b) :=
  ⟨rfl, rfl, rfl, by simp, fun k _ hne => by
    simp only [Array.getElem?_setIfInBounds]
    rw [if_neg (by intro e; apply hne; rw [e])]⟩
set_option maxHeartbeats 1000000 in
theorem execA_sound (hE : TysOk E P) (hG : GRel E M) (hr : HRel M H w) {fr : Tr AV} {a : Act} (hf : TRel M fr a.tmps) {o : Oper} {r : ARes} (h : execA E H fr o = some r) : XRel P M H w (execOp a.eval o) r := by
  unfold execA at h
  unfold execOp
  split at h
  case h_1 x hop =>
    rw [hop]
    obtain ⟨v, hv, rfl⟩ := vh_some h
    exact xval hr (s := pure (a.eval x)) rfl (opd_rel hG hf hv)
  case h_2 x hop =>
    rw [hop]
    obtain ⟨v, hv, rfl⟩ := vh_some h
    exact xval hr (s := pure (a.eval x)) rfl (opd_rel hG hf hv)
  case h_3 c x y hop =>
    rw [hop]
    split at h
    · rename_i hc
      have := opd_rel hG hf hc
      simp only [VRel] at this
      obtain ⟨v, hv, rfl⟩ := vh_some h
      exact ⟨_, w, M, by simp [this, asBool] <;> rfl, Ext.refl _ _ _, hr, opd_rel hG hf hv⟩
    · rename_i hc
      have := opd_rel hG hf hc
      simp only [VRel] at this
      obtain ⟨v, hv, rfl⟩ := vh_some h
      exact ⟨_, w, M, by simp [this, asBool] <;> rfl, Ext.refl _ _ _, hr, opd_rel hG hf hv⟩
    · cases h
  case h_4 e hop =>
    rw [hop]
    split at h
    case h_2 => cases h
    rename_i ti hty
    simp only [Option.some.injEq] at h
    subst h
    obtain ⟨i, d, z, ht⟩ := hE.ty e ti hty
    obtain ⟨n1, n2⟩ := newRow_sound hr e (ht.zrel.mono (List.nil_prefix (l := M)))
    refine xval' ⟨_, _, _, ?_, n2, n1, ⟨_, newAt hr _, rfl⟩⟩
    simp [Instr.alloc, run_zero ht, newVar, newRow] <;> rfl
  case h_5 e x hop =>
    rw [hop]
    split at h
    case h_2 => cases h
    rename_i v hv
    simp only [Bool.cond_eq_ite] at h
    split at h
    case isFalse => cases h
    simp only [Option.some.injEq] at h
    subst h
    obtain ⟨n1, n2⟩ := newRow_sound hr e (opd_rel hG hf hv).cells
    refine xval' ⟨_, _, _, ?_, n2, n1, ⟨_, newAt hr _, rfl⟩⟩
    simp [Instr.box, newVar, newRow] <;> rfl
  case h_6 t ps hop =>
    rw [hop]
    split at h
    case h_2 => cases h
    rename_i l hl
    obtain ⟨v, hv, rfl⟩ := vh_some h
    obtain ⟨p1, p2⟩ := partsA_rel hG hf hl
    obtain ⟨cv, h1, h2⟩ := buildA_sound (w := w) (cps := ps.toList.map fun p => (p.1, a.eval p.2)) hE hv (by simpa [Function.comp_def] using p1) (by simpa [Function.comp_def] using p2)
    refine xval hr ?_ h2
    simp only [parts_eval']
    exact h1
  case h_7 t len ps hop =>
    rw [hop]
    split at h
    case h_2 => cases h
    rename_i l ti hl hty
    split at h
    case h_2 => cases h
    rename_i e hq
    split at h
    case h_2 => cases h
    rename_i ei hte
    simp only [Bool.cond_eq_ite, Nat.ble_eq] at h
    split at h
    case isFalse => cases h
    rename_i hb
    split at h
    case h_2 => cases h
    rename_i cs hcs
    split at h
    case isFalse => cases h
    simp only [Option.some.injEq] at h
    subst h
    obtain ⟨p1, p2⟩ := partsA_rel hG hf hl
    have := buildSlice_sound (cps := ps.toList.map fun p => (p.1, a.eval p.2)) hE hr hty hq hte hb hcs (by simpa [Function.comp_def] using p1) (by simpa [Function.comp_def] using p2)
    refine xval' ?_
    simp only [parts_eval']
    exact this
  case h_8 t x hop =>
    rw [hop]
    split at h
    case h_2 => cases h
    rename_i p hp
    obtain ⟨v, hv, rfl⟩ := vh_some h
    obtain ⟨ad, cv, h1, h2, h3⟩ := loadVar_sound hE hr (opd_rel hG hf hp) hv
    exact xval hr (by simp [Instr.loadAt, h1, Instr.sureAddr, h2]) h3
  case h_9 t x y hop =>
    rw [hop]
    split at h
    case h_2 => cases h
    rename_i p v hp hv
    split at h
    case h_2 => cases h
    rename_i H' hs
    simp only [Option.some.injEq] at h
    subst h
    obtain ⟨ad, w', h1, h2, h3, h4⟩ := storeVar_sound hE hr (opd_rel hG hf hp) (opd_rel hG hf hv) hs
    exact ⟨w', M, by simp [Instr.storeAt, h1, Instr.sureAddr, h2], h4, h3⟩
  case h_10 x hop =>
    rw [hop]
    split at h
    · rename_i i off hp
      have r := opd_rel hG hf hp
      simp only [Option.some.injEq] at h; subst h
      have r' := r
      obtain ⟨m, hm, e⟩ := r
      refine ⟨_, w, M, by simp only [e]; rfl, Ext.refl _ _ _, hr, ⟨m, hm, rfl⟩⟩
    · rename_i f a' b' hp
      have r := opd_rel hG hf hp
      simp only [Option.some.injEq] at h; subst h
      obtain ⟨fs, cs, e, r1, r2⟩ := r
      refine ⟨_, w, M, by simp only [e]; rfl, Ext.refl _ _ _, hr, ⟨fs, cs, rfl, r1, r2⟩⟩
    · rename_i t v hp
      have r := opd_rel hG hf hp
      simp only [Option.some.injEq] at h; subst h
      obtain ⟨y, e, r1⟩ := r
      refine ⟨_, w, M, by simp only [e]; rfl, Ext.refl _ _ _, hr, ⟨y, rfl, r1⟩⟩
    · cases h
  case h_11 op t x y yt hop =>
    rw [hop]
    split at h
    · rename_i hx hy
      simp only [Bool.cond_eq_ite] at h
      split at h
      case isFalse => cases h
      rename_i hc
      obtain ⟨v, hv, rfl⟩ := vh_some h
      exact xex hr (binA_sound hE hv (opd_rel hG hf hx) (opd_rel hG hf hy) (fun _ _ => hc))
    · rename_i p q hne hx hy
      obtain ⟨v, hv, rfl⟩ := vh_some h
      exact xex hr (binA_sound hE hv (opd_rel hG hf hx) (opd_rel hG hf hy) (fun e1 e2 => (hne e1 e2).elim))
    · cases h
  case h_12 op t x hop =>
    rw [hop]
    split at h
    case h_2 => cases h
    rename_i p hp
    obtain ⟨v, hv, rfl⟩ := vh_some h
    exact xex hr (unA_sound hv (opd_rel hG hf hp))
  case h_13 s d x hop =>
    rw [hop]
    split at h
    case h_2 => cases h
    rename_i p hp
    split at h
    · rename_i v hv
      simp only [Option.some.injEq] at h; subst h
      exact xex hr (convertU_sound hE hr hv (opd_rel hG hf hp))
    · obtain ⟨v, H', hv, rfl⟩ := vhh_some h
      exact xval' (convertA_sound hE hr hv (opd_rel hG hf hp))
  case h_14 t x hop =>
    rw [hop]
    split at h
    case h_2 => cases h
    rename_i p ti hp hty
    obtain ⟨i, d, z, ht⟩ := hE.ty t ti hty
    have hd := ht.desc
    split at h
    · cases h
    rename_i hni
    simp only [Option.some.injEq] at h
    subst h
    have hd' : ∀ ms, d ≠ .interface ms := by
      intro ms e
      subst e
      cases hq : ti.d <;> rw [hq] at hd <;> simp_all [DRel]
    refine xval hr (cv := .iface t (a.eval x)) ?_ ⟨_, rfl, opd_rel hG hf hp⟩
    simp only [Instr.makeInterface, Sem.run_bind, run_und ht, Result.andThen_ok]
    cases d <;> first | rfl | exact absurd rfl (hd' _)
  case h_15 f x y hop =>
    rw [hop]
    split at h
    case h_2 => cases h
    rename_i l m hl hm
    simp only [Option.some.injEq] at h
    subst h
    refine xval hr (cv := .func (.func f) (x.map a.eval) (y.map a.eval)) rfl ⟨x.toList.map a.eval, y.toList.map a.eval, ?_, opds_rel hG hf hl, opds_rel hG hf hm⟩
    rw [map_eval, map_eval]
  case h_16 t l c hop =>
    rw [hop]
    split at h
    case h_2 => cases h
    rename_i k1 l' k2 c' ti hl hc hty
    split at h
    case h_2 => cases h
    rename_i e hq
    split at h
    case h_2 => cases h
    rename_i ei hte
    simp only [Bool.cond_eq_ite, Bool.and_eq_true, Bool.not_eq_true', ilt_iff, decide_eq_false_iff_not] at h
    split at h
    case isFalse => cases h
    rename_i hcond
    simp only [Option.some.injEq] at h
    subst h
    have r1 := opd_rel hG hf hl
    have r2 := opd_rel hG hf hc
    simp only [VRel] at r1 r2
    refine xval' ?_
    rw [r1, r2]
    exact makeSlice_sound hE hr hty hq hte hcond.1 hcond.2.1 hcond.2.2
  case h_17 t x lo hi mx hop =>
    rw [hop]
    split at h
    case h_2 => cases h
    rename_i p l h' m hp hl hh hm
    obtain ⟨v, hv, rfl⟩ := vh_some h
    exact xex hr (sliceA_sound hE hr hv (opd_rel hG hf hp) (optOpd_rel hG hf hl) (optOpd_rel hG hf hh) (optOpd_rel hG hf hm))
  case h_18 t x f hop =>
    rw [hop]
    split at h
    case h_2 => cases h
    rename_i p hp
    obtain ⟨v, hv, rfl⟩ := vh_some h
    exact xex hr (fieldAddrA_sound hE hv (opd_rel hG hf hp))
  case h_19 t x f hop =>
    rw [hop]
    split at h
    case h_2 => cases h
    rename_i p hp
    obtain ⟨v, hv, rfl⟩ := vh_some h
    exact xex hr (fieldA_sound hE hv (opd_rel hG hf hp))
  case h_20 t x i hop =>
    rw [hop]
    split at h
    case h_2 => cases h
    rename_i p q hp hq
    obtain ⟨v, hv, rfl⟩ := vh_some h
    exact xex hr (indexAddrA_sound hE hv (opd_rel hG hf hp) (opd_rel hG hf hq))
  case h_21 t x i hop =>
    rw [hop]
    split at h
    case h_2 => cases h
    rename_i p q hp hq
    obtain ⟨v, hv, rfl⟩ := vh_some h
    exact xex hr (indexA_sound hE hv (opd_rel hG hf hp) (opd_rel hG hf hq))
  case h_22 x xt t ok hop =>
    rw [hop]
    split at h
    case h_2 => cases h
    rename_i p hp
    obtain ⟨v, hv, rfl⟩ := vh_some h
    exact xex hr (typeAssertA_sound hE hv (opd_rel hG hf hp))
  case h_23 x i hop =>
    rw [hop]
    split at h
    case h_2 => cases h
    rename_i vs hp
    split at h
    case h_2 => cases h
    rename_i v hv
    simp only [Option.some.injEq] at h
    subst h
    exact xex hr (extract_sound (opd_rel hG hf hp) hv)
  case h_24 x hop =>
    rw [hop]
    split at h
    case h_2 => cases h
    rename_i t v hp
    simp only [Option.some.injEq] at h
    subst h
    have r := opd_rel hG hf hp
    obtain ⟨y, e, r1⟩ := r
    exact ⟨.iface t y, by simp [e, Instr.panic], rfl, ⟨y, rfl, r1⟩⟩
  case h_25 t x hop =>
    rw [hop]
    split at h
    · rename_i str ti hp hty
      obtain ⟨i, d, z, ht⟩ := hE.ty t ti hty
      have hd := ht.desc
      split at h
      case h_2 => cases h
      rename_i hq
      rw [hq] at hd; simp only [DRel] at hd; subst hd
      simp only [Option.some.injEq] at h
      subst h
      have r := opd_rel hG hf hp
      simp only [VRel] at r
      obtain ⟨n1, n2⟩ := hr.new (World.grownBy_alloc w (.stringIter ⟨⟨str⟩⟩ 0) none) (.siter str 0) ⟨w.heap.size, 0, 0, 0⟩ (Nat.le_refl _) ⟨by rw [World.alloc]; simp, rfl⟩
      refine xval' ⟨_, _, _, ?_, n2, n1, ⟨⟨w.heap.size, 0, 0, 0⟩, by rw [← hr.len]; simp, rfl⟩⟩
      simp [Instr.range, run_und ht, r] <;> rfl
    · rename_i ti hp hty
      obtain ⟨i, d, z, ht⟩ := hE.ty t ti hty
      have hd := ht.desc
      split at h
      case h_2 => cases h
      rename_i kt et hq
      rw [hq] at hd; simp only [DRel] at hd; subst hd
      simp only [Option.some.injEq] at h
      subst h
      have r := opd_rel hG hf hp
      simp only [VRel] at r
      obtain ⟨n1, n2⟩ := hr.new (World.grownBy_alloc w (.mapIter none 0 #[] 0) none) (.miter none 0 [] 0) ⟨w.heap.size, 0, 0, 0⟩ (Nat.le_refl _) ⟨none, by rw [World.alloc]; simp, rfl, rfl⟩
      refine xval' ⟨_, _, _, ?_, n2, n1, ⟨⟨w.heap.size, 0, 0, 0⟩, by rw [← hr.len]; simp, rfl⟩⟩
      simp [Instr.range, run_und ht, r] <;> rfl
    · rename_i id ti hp hty
      obtain ⟨i, d, z, ht⟩ := hE.ty t ti hty
      have hd := ht.desc
      split at h
      case h_2 => cases h
      rename_i kt et es clock qro hq hget
      rw [hq] at hd; simp only [DRel] at hd; subst hd
      simp only [Option.some.injEq] at h
      subst h
      obtain ⟨m, hm, r⟩ := opd_rel hG hf hp
      obtain ⟨ces, hb, he⟩ := hr.blk hget hm
      have hobj : (getObj m.block).run P w = .ok (.map (List.toArray ces) clock) w := by simp [getObj, Sem.run, hb]
      obtain ⟨n1, n2⟩ := hr.new (World.grownBy_alloc w (.mapIter (some m.block) clock #[] clock) none) (.miter (some id) clock [] clock) ⟨w.heap.size, 0, 0, 0⟩ (Nat.le_refl _) ⟨some m.block, by rw [World.alloc]; simp, rfl, m, pre_get (List.prefix_append _ _) hm, rfl⟩
      refine xval' ⟨_, _, _, ?_, n2, n1, ⟨⟨w.heap.size, 0, 0, 0⟩, by rw [← hr.len]; simp, rfl⟩⟩
      simp only [Instr.range, run_und ht, r, Sem.run_bind, hobj, Result.andThen_ok, Sem.run_pure, run_newObj]
      rfl
    · cases h
  case h_26 x hop =>
    rw [hop]
    split at h
    case h_2 => cases h
    rename_i id hp
    split at h
    case h_2 => cases h
    rename_i str pos hget
    obtain ⟨m, hm, e⟩ := opd_rel hG hf hp
    obtain ⟨hb, h0⟩ := hr.blk hget hm
    have hobj : (getObj m.block).run P w = .ok (.stringIter ⟨⟨str⟩⟩ pos) w := by simp [getObj, Sem.run, hb]
    rw [h0] at e
    split at h
    · rename_i hn
      simp only [Option.some.injEq] at h
      subst h
      rw [nth_eq, List.getElem?_eq_none_iff] at hn
      refine xval hr (cv := .tuple #[.bool false]) ?_ ⟨[.bool false], rfl, rfl, trivial⟩
      have hsz : ¬ pos < ByteArray.size ⟨⟨str⟩⟩ := by show ¬ pos < str.length; omega
      simp only [e, Instr.next, Sem.run_bind, hobj, Result.andThen_ok, if_neg hsz, Sem.run_pure]
    · rename_i b hn
      rw [nth_eq] at hn
      simp only [Bool.cond_eq_ite, Nat.blt_eq] at h
      split at h
      case isFalse => cases h
      rename_i hlt
      simp only [Option.some.injEq] at h
      subst h
      have hpos : pos < str.length := (List.getElem?_eq_some_iff.1 hn).1
      have hsz : pos < ByteArray.size ⟨⟨str⟩⟩ := hpos
      have hblt : m.block < w.heap.size := (Array.getElem?_eq_some_iff.1 hb).1
      obtain ⟨n1, n2⟩ := hr.put hget rfl hm (grown_put w m.block (.stringIter ⟨⟨str⟩⟩ (pos + 1))) (.siter str (pos + 1)) ⟨by simp [hblt], h0⟩
      have hdec : Utf8.decode ⟨⟨str⟩⟩ pos = (b.toNat, 1) := by
        have h1 : (ByteArray.get! ⟨⟨str⟩⟩ (pos + 0)).toNat = b.toNat := by
          show ((⟨str⟩ : Array UInt8)[pos + 0]!).toNat = _
          have : (⟨str⟩ : Array UInt8)[pos + 0]! = b := by
            simp only [Nat.add_zero]
            rw [getElem!_def]
            have : (⟨str⟩ : Array UInt8)[pos]? = some b := by simpa using hn
            rw [this]
          rw [this]
        unfold Utf8.decode
        simp only [h1]
        rw [if_pos hlt]
      refine xval' ⟨.tuple #[.bool true, goInt pos, .int .i32 b.toNat], { w with heap := w.heap.setIfInBounds m.block (.stringIter ⟨⟨str⟩⟩ (pos + 1)) }, M, ?_, n2, n1, ⟨[.bool true, goInt pos, .int .i32 b.toNat], rfl, rfl, rfl, rfl, trivial⟩⟩
      simp only [e, Instr.next, Sem.run_bind, hobj, Result.andThen_ok, if_pos hsz, hdec, Sem.run_pure]
      simp [setObj, Sem.run, hb]
  case h_27 x hop =>
    rw [hop]
    split at h
    case h_2 => cases h
    rename_i id hp
    obtain ⟨v, H', hn, rfl⟩ := vhh_some h
    obtain ⟨m, hm, e⟩ := opd_rel hG hf hp
    obtain ⟨cv, w', h1, h2, h3, h4⟩ := nextA_sound hr hn hm o.type
    exact xval' ⟨cv, w', M, by rw [e]; exact h1, h2, h3, h4⟩
  case h_28 x hop =>
    rw [hop]
    split at h
    case h_2 => cases h
    rename_i id hp
    obtain ⟨v, hn, rfl⟩ := vh_some h
    obtain ⟨m, hm, e⟩ := opd_rel hG hf hp
    obtain ⟨cv, h1, h2⟩ := entryA_sound hr hn hm
    exact xex hr ⟨cv, by rw [e]; exact h1, h2⟩
  case h_29 t hop =>
    rw [hop]
    simp only [Option.some.injEq] at h
    subst h
    obtain ⟨n1, n2⟩ := hr.new (World.grownBy_alloc w (.map #[] 0) none) (.mp [] 0 false) ⟨w.heap.size, 0, 0, 0⟩ (Nat.le_refl _) ⟨[], by rw [World.alloc]; simp, trivial⟩
    refine xval' ⟨_, _, _, ?_, n2, n1, ⟨⟨w.heap.size, 0, 0, 0⟩, by rw [← hr.len]; simp, rfl⟩⟩
    simp [Instr.makeMap] <;> rfl
  case h_30 t x i ok hop =>
    rw [hop]
    split at h
    case h_2 => cases h
    rename_i vx vi hp hi
    obtain ⟨v, hv, rfl⟩ := vh_some h
    exact xex hr (lookupA_sound hE hr hv (opd_rel hG hf hp) (opd_rel hG hf hi))
  case h_31 t m k x hop =>
    rw [hop]
    split at h
    case h_2 => cases h
    rename_i vm vk vx hm hk hx
    split at h
    case h_2 => cases h
    rename_i H' hu
    simp only [Option.some.injEq] at h
    subst h
    obtain ⟨w', h1, h2, h3⟩ := updateA_sound hE hr hu (opd_rel hG hf hm) (opd_rel hG hf hk) (opd_rel hG hf hx)
    exact ⟨w', M, by simp [h1], h2, h3⟩
  case h_32 t m k x hop =>
    rw [hop]
    split at h
    case h_2 => cases h
    rename_i vm vk vx hm hk hx
    split at h
    case h_2 => cases h
    rename_i H' hu
    simp only [Option.some.injEq] at h
    subst h
    obtain ⟨w', h1, h2, h3⟩ := updateA_sound hE hr hu (opd_rel hG hf hm) (opd_rel hG hf hk) (opd_rel hG hf hx)
    exact ⟨w', M, by simp [h1], h2, h3⟩
  case h_33 c hop =>
    rw [hop]
    split at h
    · rename_i b hb
      split at h
      case h_2 => cases h
      rename_i l hl
      have := builtinA_sound (consts := c.args.map fun | .const _ => true | _ => false) (ty := o.type) hE hr h (opds_rel hG hf hl)
      refine XRel.congr ?_ this
      simp [resolve, hb, invoke, map_eval]
      rfl
    · rename_i f hb
      split at h
      · rename_i g first cap l hp hl
        simp only [Option.some.injEq] at h
        subst h
        obtain ⟨fs, cs, e, r1, r2⟩ := opd_rel hG hf hp
        refine ⟨fs ++ (c.args.toList.map a.eval ++ cs), ?_, r1.append ((opds_rel hG hf hl).append r2)⟩
        simp [resolve, hb, e, Deferred.ofValue, invoke, map_eval]
      · rename_i id l hp hl
        simp only [Option.some.injEq] at h
        subst h
        obtain ⟨m, hm, e⟩ := opd_rel hG hf hp
        refine ⟨m, c.args.toList.map a.eval, hm, ?_, opds_rel hG hf hl⟩
        simp [resolve, hb, e, Deferred.ofValue, invoke, map_eval]
      · cases h
    · cases h
  case h_34 c hop =>
    rw [hop]
    split at h
    · rename_i f hb
      split at h
      case h_2 => cases h
      rename_i g first cap l hp hl
      simp only [Option.some.injEq] at h
      subst h
      obtain ⟨fs, cs, e, r1, r2⟩ := opd_rel hG hf hp
      refine ⟨{ target := .fn (.func g) cs.toArray, args := (fs ++ c.args.toList.map a.eval).toArray }, ?_, ⟨cs, fs ++ c.args.toList.map a.eval, fs ++ (c.args.toList.map a.eval ++ cs), rfl, by simp, r1.append ((opds_rel hG hf hl).append r2)⟩⟩
      simp [resolve, hb, e, Deferred.ofValue, map_eval]
    · cases h
  case h_35 => cases h
/-- An operation that makes one new row out of slots: it does so in whatever memory. -/
theorem fresh_sound (hE : TysOk E P) (hG : GRel E M) {fr : Tr AV} {a : Act} (hf : TRel M fr a.tmps) {o : Oper} (hfr : freshOp o.op = true) {H1 : AHeap} {r : ARes} (h : execA E H1 fr o = some r) (w : World) :
    ∃ v cv vs e cs, r = .val v (newRowA H1 e cs) ∧ (execOp a.eval o).run P w = .ok (.value cv) { w with heap := w.heap.push (.cells (List.toArray vs) e) } ∧ VRels M cs vs ∧
      ∀ M1 : List MEnt, M1.length = H1.next → VRel (M1 ++ [⟨w.heap.size, 0, 0, 0⟩]) v cv := by
  have at_ : ∀ (M1 : List MEnt) (m : MEnt), M1.length = H1.next → (M1 ++ [m])[H1.next]? = some m := fun M1 m h => by rw [← h]; simp
  unfold execA at h
  unfold execOp
  cases hop : o.op <;> rw [hop] at h hfr <;> (try (simp only [freshOp, Bool.false_eq_true] at hfr; done)) <;> dsimp only at h ⊢
  case alloc e =>
    split at h
    case h_2 => cases h
    rename_i ti hty
    simp only [Option.some.injEq] at h
    subst h
    obtain ⟨i, d, z, ht⟩ := hE.ty e ti hty
    refine ⟨_, _, _, e, _, rfl, ?_, ht.zrel.mono (List.nil_prefix (l := M)), fun M1 hl => ⟨_, at_ M1 _ hl, rfl⟩⟩
    simp [Instr.alloc, run_zero ht, newVar, newRow] <;> rfl
  case box e x =>
    split at h
    case h_2 => cases h
    rename_i v hv
    simp only [Bool.cond_eq_ite] at h
    split at h
    case isFalse => cases h
    simp only [Option.some.injEq] at h
    subst h
    refine ⟨_, _, _, e, _, rfl, ?_, (opd_rel hG hf hv).cells, fun M1 hl => ⟨_, at_ M1 _ hl, rfl⟩⟩
    simp [Instr.box, newVar, newRow] <;> rfl
  case buildSlice t len ps =>
    split at h
    case h_2 => cases h
    rename_i l ti hl hty
    split at h
    case h_2 => cases h
    rename_i e hq
    split at h
    case h_2 => cases h
    rename_i ei hte
    simp only [Bool.cond_eq_ite, Nat.ble_eq] at h
    split at h
    case isFalse => cases h
    rename_i hb
    split at h
    case h_2 => cases h
    rename_i cs hcs
    split at h
    case isFalse => cases h
    simp only [Option.some.injEq] at h
    subst h
    obtain ⟨p1, p2⟩ := partsA_rel hG hf hl
    obtain ⟨vs, r1, r2⟩ := buildSlice_run (cps := ps.toList.map fun p => (p.1, a.eval p.2)) hE hty hq hte hb hcs (by simpa [Function.comp_def] using p1) (by simpa [Function.comp_def] using p2) w
    refine ⟨_, _, vs, e, _, rfl, ?_, r2, fun M1 hl => ⟨_, len, at_ M1 _ hl, rfl, (fun _ e => by cases e; rfl), (fun e => by cases e)⟩⟩
    simp only [parts_eval']
    simp [r1]
  case makeSlice t l c =>
    split at h
    case h_2 => cases h
    rename_i k1 l' k2 c' ti hl hc hty
    split at h
    case h_2 => cases h
    rename_i e hq
    split at h
    case h_2 => cases h
    rename_i ei hte
    simp only [Bool.cond_eq_ite, Bool.and_eq_true, Bool.not_eq_true', ilt_iff, decide_eq_false_iff_not] at h
    split at h
    case isFalse => cases h
    rename_i hcond
    simp only [Option.some.injEq] at h
    subst h
    have r1 := opd_rel hG hf hl
    have r2 := opd_rel hG hf hc
    simp only [VRel] at r1 r2
    obtain ⟨vs, q1, q2⟩ := makeSlice_run hE M hty hq hte hcond.1 hcond.2.1 hcond.2.2 w (k1 := k1) (k2 := k2)
    refine ⟨_, _, vs, e, _, rfl, ?_, q2, fun M1 hl => ⟨_, c'.toNat, at_ M1 _ hl, rfl, (fun _ e => by cases e; rfl), (fun e => by cases e)⟩⟩
    rw [r1, r2]
    simp [q1]
end
end Go.Vai
