/- copy, conversions, built rows. -/
import Derived.Test.YtopjbfgikglncaaGreatDoorVaiApp
namespace Go.Vai
section
variable {E : Env} {P : Program} {M : List MEnt} {H : AHeap} {w : World}

set_option maxHeartbeats 1000000 in
theorem copyA_sound (hE : TysOk E P) (hr : HRel M H w) {t ty : TypeId} {rest : List TypeId} {d s v : AV} {H' : AHeap} {cd cs : Value} (h : copyA E H t d s = some (v, H')) (hd : VRel M d cd) (hs : VRel M s cs) :
    ∃ cv w', (Builtin.copy_ (List.toArray (t :: rest)) ty #[cd, cs]).run P w = .ok cv w' ∧ Ext M H w M H' w' ∧ HRel M H' w' ∧ VRel M v cv := by
  unfold copyA at h
  split at h
  case h_2 => cases h
  rename_i ti dn sn hty hdn hsn
  obtain ⟨i1, d1, z1, ht⟩ := hE.ty t ti hty
  have hdd := ht.desc
  split at h
  case h_2 => cases h
  rename_i e hq
  rw [hq] at hdd
  simp only [DRel] at hdd
  subst hdd
  split at h
  · cases h
  rename_i ei hte
  obtain ⟨i3, d3, z3, he⟩ := hE.ty e ei hte
  split at h
  · cases h
  rename_i news hn
  obtain ⟨vs, f1, f2, f3⟩ := sliceCells_sound (P := P) hr hn hs ⟨sn, hsn, Nat.min_le_left _ _⟩
  have hsl := lenA_sound (P := P) (w := w) hsn hs
  have hvl : vs.length = min sn dn * ei.size := by rw [← f2.length, f3]
  have nmin : Nat.min sn dn = min sn dn := rfl
  have run0 : ∀ (base : Option Addr) (cap : Nat) (w' : World), (match base with | some a => storeCells a vs | none => pure ()).run P w = .ok () w' →
      (Builtin.copy_ (List.toArray (t :: rest)) ty #[.slice base dn cap, cs]).run P w = .ok (.int .i64 (Int.ofNat (min sn dn))) w' := by
    intro base cap w' hst
    cases base with
    | none =>
      simp only [Sem.run_pure, Result.ok.injEq, true_and] at hst
      subst hst
      simp [Builtin.copy_, run_und ht, run_size he, hsl, nmin, f1, goInt]
    | some a => simp [Builtin.copy_, run_und ht, run_size he, hsl, nmin, f1, hst, goInt]
  split at h
  · simp only [Option.some.injEq, Prod.mk.injEq] at h
    obtain ⟨rfl, rfl⟩ := h
    simp only [VRel] at hd
    subst hd
    simp only [lenA, Option.some.injEq] at hdn
    subst hdn
    exact ⟨_, w, run0 none 0 w rfl, Ext.refl _ _ _, hr, by simp [VRel]⟩
  · simp only [Option.some.injEq, Prod.mk.injEq] at h
    obtain ⟨rfl, rfl⟩ := h
    obtain ⟨a, c, rfl⟩ := hd
    simp only [lenA, Option.some.injEq] at hdn
    subst hdn
    have : vs = [] := List.eq_nil_of_length_eq_zero (by simpa using hvl)
    subst this
    exact ⟨_, w, run0 (some a) c w (by simp [storeCells]), Ext.refl _ _ _, hr, by simp [VRel]⟩
  · rename_i id off len cap
    obtain ⟨m, c, hm, rfl, hcap⟩ := hd
    simp only [lenA, Option.some.injEq] at hdn
    subst hdn
    simp only [Bool.cond_eq_ite, Nat.beq_eq] at h
    split at h
    · rename_i h0
      simp only [Option.some.injEq, Prod.mk.injEq] at h
      obtain ⟨rfl, rfl⟩ := h
      have : vs = [] := List.eq_nil_of_length_eq_zero (by rw [hvl, h0]; simp)
      subst this
      exact ⟨_, w, run0 _ c w (by simp [storeCells]), Ext.refl _ _ _, hr, by simp [VRel, h0]⟩
    · split at h
      case h_2 => cases h
      rename_i n c0 e0 g fz ro mk ho
      split at h
      case isFalse => cases h
      rename_i hcond
      simp only [Bool.and_eq_true, Nat.ble_eq, Bool.not_eq_true'] at hcond
      obtain ⟨q1, q2, rfl, q4⟩ := hcond
      simp only [Option.some.injEq, Prod.mk.injEq] at h
      obtain ⟨rfl, rfl⟩ := h
      obtain ⟨cur, e', lo, hi, k1, k2, k3, k4, k5, k6, k7⟩ := hr.blk ho hm
      obtain ⟨rfl, hb0⟩ := k2 rfl
      obtain ⟨w', cur', hrun, j1, j2, j3, j4⟩ := run_storeCells' (P := P) (m.base + off) vs 0 cur w k1 (by rw [hvl]; omega)
        (fun k hk hk2 hx => by have := k5 rfl k hx.1 hx.2 (by rw [hvl] at hk2; omega); omega) (VRels.ones f2 q4)
      have hO : ORel M m w' (.cells n (c0.putAll off news) e' g fz false mk) := by
        refine ⟨cur', e', lo, hi, j1, fun _ => ⟨rfl, hb0⟩, by rw [j2]; exact k3, fun gs e => by rw [j2]; exact k4 gs e,
          fun _ i a b cc => k5 rfl i a b (by rw [← j2]; exact cc), fun a b => by rw [j2]; exact k6 a b, ?_⟩
        intro j u hu
        rcases Tr.get_putAll _ hu with ⟨q, rfl, hq⟩ | ⟨hj, hu⟩
        · obtain ⟨x, hx, r⟩ := f2.get q u hq
          have hql : q < min sn len * ei.size := by rw [← f3]; exact (List.getElem?_eq_some_iff.1 hq).1
          refine ⟨by omega, x, ?_, r⟩
          rw [j3, if_pos (by rw [hvl]; omega)]
          rw [show m.base + (off + q) - (m.base + off + 0) = q from by omega]
          exact hx
        · obtain ⟨a, x, hx, r⟩ := k7 j u hu
          refine ⟨a, x, ?_, r⟩
          rw [j3, if_neg (by rw [hvl]; rw [f3] at hj; omega)]
          exact hx
      obtain ⟨r1, r2⟩ := hr.put ho rfl hm j4 _ hO
      exact ⟨_, w', run0 _ c w' hrun, r2, r1, rfl⟩
  · cases h

theorem bytesA_rel {cs : List AV} {s : List UInt8} {vs : List Value} (h : bytesA cs = some s) (hr : VRels M cs vs) : ∃ ns : List Int, vs = ns.map (Value.int .u8) ∧ s = ns.map (fun n => UInt8.ofNat n.toNat) := by
  induction cs generalizing s vs with
  | nil =>
    simp only [bytesA, Option.some.injEq] at h
    subst h
    cases vs with
    | nil => exact ⟨[], rfl, rfl⟩
    | cons => exact hr.elim
  | cons c cs ih =>
    cases vs with
    | nil => exact hr.elim
    | cons v vs =>
      unfold bytesA at h
      split at h
      · simp_all
      · rename_i n r heq
        simp only [List.cons.injEq] at heq
        obtain ⟨rfl, rfl⟩ := heq
        cases hb : bytesA cs with
        | none => simp [hb] at h
        | some l =>
          simp only [hb, Option.some.injEq] at h
          subst h
          obtain ⟨ns, rfl, rfl⟩ := ih hb hr.2
          have := hr.1
          simp only [VRel] at this
          subst this
          exact ⟨n :: ns, rfl, rfl⟩
      · cases h

theorem foldl_push (ns : List Int) : ∀ (r : ByteArray), ns.foldl (fun r n => r.push (UInt8.ofNat n.toNat)) r = ⟨⟨r.data.toList ++ ns.map (fun n => UInt8.ofNat n.toNat)⟩⟩ := by
  induction ns with
  | nil => intro r; simp
  | cons n ns ih =>
    intro r
    simp only [List.foldl_cons, ih, List.map_cons]
    apply ByteArray.ext
    simp [ByteArray.push]

set_option maxHeartbeats 1000000 in
theorem convertA_sound (hE : TysOk E P) (hr : HRel M H w) {src dst : TypeId} {x v : AV} {H' : AHeap} {cx : Value} (h : convertA E H src dst x = some (v, H')) (hx : VRel M x cx) :
    ∃ cv w' M', (convert src dst cx).run P w = .ok cv w' ∧ Ext M H w M' H' w' ∧ HRel M' H' w' ∧ VRel M' v cv := by
  unfold convertA at h
  split at h
  case h_2 => cases h
  rename_i si di hsi hdi
  obtain ⟨i1, d1, z1, h1⟩ := hE.ty src si hsi
  obtain ⟨i2, d2, z2, h2⟩ := hE.ty dst di hdi
  have e1 := h1.desc
  have e2 := h2.desc
  split at h
  · rename_i k k' n hq
    rw [hq] at e2
    simp only [DRel] at e2
    subst e2
    simp only [VRel] at hx
    subst hx
    simp only [Option.some.injEq, Prod.mk.injEq] at h
    obtain ⟨rfl, rfl⟩ := h
    refine ⟨_, w, M, ?_, Ext.refl _ _ _, hr, rfl⟩
    simp only [convert, Sem.run_bind, run_und h1, run_und h2, Result.andThen_ok]
    cases d1 <;> rfl
  · rename_i kq n hq
    rw [hq] at e2
    simp only [DRel] at e2
    subst e2
    simp only [VRel] at hx
    subst hx
    simp only [Bool.cond_eq_ite, Bool.and_eq_true, Bool.not_eq_true', ilt_iff, decide_eq_false_iff_not, decide_eq_true_eq] at h
    split at h
    case isFalse => cases h
    rename_i hb
    simp only [Option.some.injEq, Prod.mk.injEq] at h
    obtain ⟨rfl, rfl⟩ := h
    refine ⟨.string (Utf8.encode n), w, M, ?_, Ext.refl _ _ _, hr, ?_⟩
    · simp only [convert, Sem.run_bind, run_und h1, run_und h2, Result.andThen_ok]
      cases d1 <;> rfl
    · have hv : Utf8.valid n = true := by
        simp only [Utf8.valid]
        simp
        omega
      have hc : n.toNat < 0x80 := by omega
      simp only [VRel, Utf8.encode, hv, if_true, hc]
  · rename_i s hq
    rw [hq] at e2
    simp only [DRel] at e2
    subst e2
    simp only [VRel] at hx
    subst hx
    simp only [Option.some.injEq, Prod.mk.injEq] at h
    obtain ⟨rfl, rfl⟩ := h
    refine ⟨_, w, M, ?_, Ext.refl _ _ _, hr, rfl⟩
    simp only [convert, Sem.run_bind, run_und h1, run_und h2, Result.andThen_ok]
    cases d1 <;> rfl
  · rename_i x _ _ hq hni hns
    rw [hq] at e2
    simp only [DRel] at e2
    subst e2
    split at h
    case h_2 => cases h
    rename_i e hqs
    rw [hqs] at e1
    simp only [DRel] at e1
    subst e1
    split at h
    case h_2 => cases h
    rename_i ei hte
    obtain ⟨i3, d3, z3, he⟩ := hE.ty e ei hte
    have e3 := he.desc
    split at h
    case h_2 => cases h
    rename_i n hk hl
    rw [hk] at e3
    simp only [DRel] at e3
    subst e3
    split at h
    case h_2 => cases h
    rename_i cs hcs
    split at h
    case h_2 => cases h
    rename_i s hb
    simp only [Option.some.injEq, Prod.mk.injEq] at h
    obtain ⟨rfl, rfl⟩ := h
    obtain ⟨vs, f1, f2, f3⟩ := sliceCells_sound (P := P) hr hcs hx ⟨n, hl, Nat.le_refl _⟩
    obtain ⟨ns, rfl, rfl⟩ := bytesA_rel hb f2
    refine ⟨.string ⟨⟨ns.map (fun n : Int => UInt8.ofNat n.toNat)⟩⟩, w, M, ?_, Ext.refl _ _ _, hr, rfl⟩
    rw [Nat.mul_one] at f3
    cases x <;> simp only [lenA, Option.some.injEq] at hl <;> first | (cases hl; done) | skip
    case str s' => exact absurd rfl (hns _)
    case nils =>
      simp only [VRel] at hx
      subst hx; subst hl
      have : ns = [] := by
        have := f2.length
        rw [f3] at this
        simpa using this.symm
      subst this
      rw [run_convert_bytes_string w src dst e none 0 0 h1.und he.und h2.und]
      rfl
    case sl id off len cap =>
      obtain ⟨m, c, hm, rfl, _⟩ := hx
      subst hl
      rw [run_convert_bytes_string w src dst e _ _ _ h1.und he.und h2.und]
      have hload : (loadCells ⟨m.block, m.base + off, none⟩ len).run P w = .ok (ns.map (Value.int .u8)).toArray w := by
        simpa [Builtin.firstCells] using f1
      rw [run_bytesToString w _ len c ns hload, foldl_push]
      rfl
    case sl0 =>
      obtain ⟨a, c, rfl⟩ := hx
      subst hl
      have : ns = [] := by
        have := f2.length
        rw [f3] at this
        simpa using this.symm
      subst this
      rw [run_convert_bytes_string w src dst e _ _ _ h1.und he.und h2.und]
      rw [run_bytesToString w a 0 c [] (by simp [loadCells, loadCellsFrom])]
      rfl
  · rename_i e s hq
    rw [hq] at e2
    simp only [DRel] at e2
    subst e2
    simp only [VRel] at hx
    subst hx
    split at h
    case h_2 => cases h
    rename_i ei hte
    obtain ⟨i3, d3, z3, he⟩ := hE.ty e ei hte
    have e3 := he.desc
    split at h
    case h_2 => cases h
    rename_i hk hss
    rw [hk] at e3
    simp only [DRel] at e3
    subst e3
    simp only [Bool.cond_eq_ite] at h
    split at h
    case isFalse => cases h
    rename_i hroom
    simp only [Option.some.injEq, Prod.mk.injEq] at h
    obtain ⟨rfl, rfl⟩ := h
    have hsm := room_small hroom
    have hls : (ByteArray.mk ⟨s⟩).size = s.length := rfl
    simp only [lenU] at hroom hsm
    rw [hss] at e1
    simp only [DRel] at e1
    subst e1
    have hrun := run_bytes_of_string w src dst e ⟨⟨s⟩⟩ h1.und h2.und he.und
    have hpre : M <+: M ++ [⟨w.heap.size, 0, (bytesRow ⟨⟨s⟩⟩ (grownCap w s.length 0 e)).size, 1⟩] := List.prefix_append _ _
    have hge : s.length ≤ grownCap w s.length 0 e := grownCap_ge w _ _ _
    have hsz : (bytesRow ⟨⟨s⟩⟩ (grownCap w s.length 0 e)).size = grownCap w s.length 0 e := by
      simp [bytesRow, ByteArray.size]; omega
    have hget : ∀ (i : Nat) (b : UInt8), s[i]? = some b → (bytesRow ⟨⟨s⟩⟩ (grownCap w s.length 0 e))[i]? = some (Value.int .u8 (b.toNat : Int)) := by
      intro i b hb
      have hi : i < s.length := (List.getElem?_eq_some_iff.1 hb).1
      simp only [bytesRow]
      rw [Array.getElem?_append_left (by simpa using hi)]
      simp [hb]
    have hO : ORel (M ++ [⟨w.heap.size, 0, (bytesRow ⟨⟨s⟩⟩ (grownCap w s.length 0 e)).size, 1⟩]) ⟨w.heap.size, 0, (bytesRow ⟨⟨s⟩⟩ (grownCap w s.length 0 e)).size, 1⟩
        (w.drew.alloc (.cells (bytesRow ⟨⟨s⟩⟩ (grownCap w s.length 0 e)) e ((bytesRow ⟨⟨s⟩⟩ (grownCap w s.length 0 e)).size, (bytesRow ⟨⟨s⟩⟩ (grownCap w s.length 0 e)).size + 1)))
        (.cells (lenU s) (Tr.nil.putAll 0 (s.map byteAV)) e (some 1) 0 false true) := by
      refine ⟨bytesRow ⟨⟨s⟩⟩ (grownCap w s.length 0 e), e, (bytesRow ⟨⟨s⟩⟩ (grownCap w s.length 0 e)).size, (bytesRow ⟨⟨s⟩⟩ (grownCap w s.length 0 e)).size + 1, ?_, fun _ => ⟨rfl, rfl⟩, ?_, fun gs eg => ⟨by cases eg; rfl, rfl, rfl⟩, fun _ i a b c => by omega, (fun _ e => by cases e), ?_⟩
      · show (w.heap.push _)[w.heap.size]? = _
        simp
      · rw [hsz]; simpa [lenU] using hge
      · intro i v hv
        rcases Tr.get_putAll _ hv with ⟨q, rfl, hq⟩ | ⟨_, hu⟩
        · rw [List.getElem?_map] at hq
          cases hb : s[q]? with
          | none => simp [hb] at hq
          | some b =>
            simp only [hb, Option.map_some, Option.some.injEq] at hq
            subst hq
            refine ⟨by simpa [lenU] using (List.getElem?_eq_some_iff.1 hb).1, _, ?_, rfl⟩
            simp only [Nat.zero_add]
            exact hget q b hb
        · simp [Tr.get_nil] at hu
    obtain ⟨r1, r2⟩ := hr.new (grown_drew_push w _) _ _ (Nat.le_refl _) hO
    exact ⟨_, _, _, hrun, r2, r1, ⟨_, grownCap w s.length 0 e, newAt hr _, rfl, (fun _ e => by cases e), fun _ => ⟨by simpa [lenU] using hge, by simp [hsz], Nat.one_pos⟩⟩⟩
  · rename_i e id off len cap hq
    rw [hq] at e2
    simp only [DRel] at e2
    subst e2
    split at h
    case h_2 => cases h
    rename_i ei t' n c e' g hte hss hget
    obtain ⟨i3, d3, z3, he⟩ := hE.ty e ei hte
    have e3 := he.desc
    split at h
    case h_2 => cases h
    rename_i hk
    rw [hk] at e3
    simp only [DRel] at e3
    subst e3
    simp only [Bool.cond_eq_ite, Nat.beq_eq] at h
    split at h
    case isFalse => cases h
    rename_i hsd
    simp only [Option.some.injEq, Prod.mk.injEq] at h
    obtain ⟨rfl, rfl⟩ := h
    have hx' := hx
    obtain ⟨m, cc, hm, rfl, _, _⟩ := hx
    rw [hss] at e1
    simp only [DRel] at e1
    subst e1
    obtain ⟨cur, e'', lo, hi, g1, g2, g3, g4, g5, g6, g7⟩ := hr.blk hget hm
    have hlo : lo = hi := by
      obtain ⟨a1, a2⟩ := g6 rfl rfl
      by_cases hlt : lo < hi
      · have := g5 rfl lo (Nat.le_refl _) hlt (by omega); omega
      · omega
    have hs : w.shape? m.block = some (e'', cur.size) := by simp [World.shape?, g1]
    have hg' : w.grownBy (w.freeze ⟨m.block, cur.size, none⟩ 1) (some m.block) := by
      refine ⟨?_, ?_, ?_, ?_, ?_⟩
      all_goals simp only [World.freeze, Nat.one_ne_zero, if_false]
      · simp
      · intro k _ hne
        simp only [Array.getElem?_modify]
        rw [if_neg (by intro e; apply hne; rw [e])]
    have hheap : (w.freeze ⟨m.block, cur.size, none⟩ 1).heap[m.block]? = some (.cells cur e'' (cur.size, cur.size + 1)) := by
      simp [World.freeze, Array.getElem?_modify, g1, hlo]
    obtain ⟨n1, n2⟩ := hr.put hget rfl hm hg' (.cells n c e' g 0 false true) ⟨cur, e'', cur.size, cur.size + 1, hheap, g2, g3, g4, fun _ i a b d => by omega, (fun _ e => by cases e), g7⟩
    refine ⟨_, _, M, ?_, n2, n1, hx'⟩
    subst hsd
    have ht := h1.und.symm.trans h2.und
    simp only [Option.some.injEq, TypeDesc.slice.injEq] at ht
    subst ht
    simp [convert, run_und h1, run_und he, markStringish, hs]
  · cases h

theorem rowAt_mono (P : Program) (fits : TypeId → Bool) : ∀ (d e c c' off n : Nat), c ≤ c' → rowAt P fits d e c off n = true → rowAt P fits d e c' off n = true := by
  intro d e c c' off n hc h
  cases d with
  | zero => simp [rowAt] at h
  | succ d =>
    simp only [rowAt] at h ⊢
    split at h
    · cases h
    · rename_i hs
      rw [if_neg hs]
      simp only [Bool.or_eq_true, Bool.and_eq_true, decide_eq_true_eq] at h ⊢
      rcases h with ⟨⟨h1, h2⟩, h3⟩ | ⟨h1, h2⟩
      · exact .inl ⟨⟨h1, by omega⟩, h3⟩
      · exact .inr ⟨by omega, h2⟩
theorem liesAt_mono (P : Program) : ∀ (d e c c' off u n : Nat), c ≤ c' → liesAt P d e c off u n = true → liesAt P d e c' off u n = true := by
  intro d
  induction d with
  | zero => intro e c c' off u n _ h; simp [liesAt] at h
  | succ d ih =>
    intro e c c' off u n hc h
    simp only [liesAt, Bool.or_eq_true] at h ⊢
    rcases h with h | h
    · exact .inl (rowAt_mono P _ _ _ _ _ _ _ hc h)
    · refine .inr ?_
      split at h
      · exact ih _ _ _ _ _ _ hc h
      · cases h
theorem lies_sound (hE : TysOk E P) {e u n off k : Nat} (h : lies E e u n off k = true) {b : Nat} {cur : Array Value} {lo hi : Nat} (hb : w.heap[b]? = some (.cells cur e (lo, hi))) (hn : n ≤ cur.size) :
    (variablesAt ⟨b, off, none⟩ u k).run P w = .ok true w := by
  have hs : w.shape? b = some (e, cur.size) := by simp [World.shape?, hb]
  have : liesAt P P.depth e (cur.size / P.cellsOf e) off u k = true := liesAt_mono P _ _ _ _ _ _ _ (Nat.div_le_div_right hn) (hE.lay e u n off k h)
  simp only [variablesAt, Sem.run_bind, program, Sem.run, run_shape, hs, Result.andThen_ok, Sem.run_pure, this]

theorem seenAt_plain {b off : Nat} {e : TypeId} {k : Nat} (hs : w.shape? b = some (e, k)) : (Conv.seenAt ⟨b, off, none⟩).run P w = .ok ⟨b, off, none⟩ w := by
  simp [Conv.seenAt, viewAt, hs]

theorem convertU_sound (hE : TysOk E P) (hr : HRel M H w) {src dst : TypeId} {x v : AV} {cx : Value} (h : convertU E H src dst x = some v) (hx : VRel M x cx) :
    ∃ cv, (convert src dst cx).run P w = .ok cv w ∧ VRel M v cv := by
  unfold convertU at h
  split at h
  case h_2 => cases h
  rename_i si di hsi hdi
  obtain ⟨i1, d1, z1, h1⟩ := hE.ty src si hsi
  obtain ⟨i2, d2, z2, h2⟩ := hE.ty dst di hdi
  have e1 := h1.desc
  have e2 := h2.desc
  split at h
  · rename_i t hq1 hq2
    rw [hq1] at e1; rw [hq2] at e2
    simp only [DRel] at e1 e2
    subst e1; subst e2
    simp only [VRel] at hx; subst hx
    simp only [Option.some.injEq] at h; subst h
    exact ⟨.pointer none, by simp [convert, run_und h1, run_und h2, Conv.unsafePointer], rfl⟩
  · rename_i t id off hq1 hq2
    rw [hq1] at e1; rw [hq2] at e2
    simp only [DRel] at e1 e2
    subst e1; subst e2
    split at h
    case h_2 => cases h
    rename_i ti n c e g fz ro mk hti hget
    obtain ⟨i3, d3, z3, h3⟩ := hE.ty t ti hti
    cases hc : (Nat.beq ti.size 0 || !(Nat.blt off n)) with
    | true => simp [hc] at h
    | false =>
      simp only [hc, cond_false, Option.some.injEq] at h; subst h
      simp only [Bool.or_eq_false_iff, Bool.not_eq_false', Nat.blt_eq] at hc
      obtain ⟨m, hm, rfl⟩ := hx
      obtain ⟨cur, e', lo, hi, g1, g2, g3, _⟩ := hr.blk hget hm
      have hs : w.shape? m.block = some (e', cur.size) := by simp [World.shape?, g1]
      have hz : ti.size ≠ 0 := by intro e0; rw [e0] at hc; simp at hc
      have hlt : m.base + off < cur.size := by omega
      refine ⟨.pointer (some ⟨m.block, m.base + off, none⟩), ?_, m, hm, rfl⟩
      have hcells : (cellsIn m.block).run P w = .ok (some cur.size) w := by simp [cellsIn, hs]
      simp only [convert, Sem.run_bind, run_und h1, run_und h2, Result.andThen_ok, Conv.unsafePointer, seenAt_plain hs, hcells, run_size h3]
      simp [hz, Nat.not_le.2 hlt]
  · rename_i t hq1 hq2
    rw [hq1] at e1; rw [hq2] at e2
    simp only [DRel] at e1 e2
    subst e1; subst e2
    simp only [VRel] at hx; subst hx
    simp only [Option.some.injEq] at h; subst h
    exact ⟨.pointer none, by simp [convert, run_und h1, run_und h2, Conv.unsafePointer], rfl⟩
  · rename_i u id off hq1 hq2
    rw [hq1] at e1; rw [hq2] at e2
    simp only [DRel] at e1 e2
    subst e1; subst e2
    split at h
    case h_2 => cases h
    rename_i ui n c e g fz mk hti hget
    obtain ⟨i3, d3, z3, h3⟩ := hE.ty u ui hti
    cases hc : lies E e u n off 1 with
    | false => simp [hc] at h
    | true =>
      simp only [hc, cond_true, Option.some.injEq] at h; subst h
      obtain ⟨m, hm, rfl⟩ := hx
      obtain ⟨cur, e', lo, hi, g1, g2, g3, _⟩ := hr.blk hget hm
      obtain ⟨rfl, hb0⟩ := g2 rfl
      rw [hb0] at g3 ⊢
      have hs : w.shape? m.block = some (e', cur.size) := by simp [World.shape?, g1]
      refine ⟨.pointer (some ⟨m.block, 0 + off, none⟩), ?_, m, hm, by rw [hb0]⟩
      have hv := lies_sound (b := m.block) hE hc g1 (by omega)
      simp only [Nat.zero_add] at hv ⊢
      simp only [convert, Sem.run_bind, run_und h1, run_und h2, Result.andThen_ok, Conv.unsafePointer, seenAt_plain hs, run_size h3, hv]
      simp
  · cases h
end
end Go.Vai
