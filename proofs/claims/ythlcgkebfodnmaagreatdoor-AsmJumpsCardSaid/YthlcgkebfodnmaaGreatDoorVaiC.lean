/- copy, conversions, built rows.
Built values and rows.
Maps: what is found by a key, laid under a key, gone over.
One operation: what the interpreter answers, the model does. -/
import Derived.Test.YthlcgkebfodnmaaGreatDoorVaiB
import Derived.Lib.UnsafeStr
section
namespace Go.Vai
section
variable {E : Env} {P : Program} {M : List MEnt} {H : AHeap} {w : World}
set_option maxHeartbeats 1000000 in
theorem copyA_sound (hE : TysOk E P) (hr : HRel M H w) {t ty : TypeId} {rest : List TypeId} {d s v : AV} {H' : AHeap} {cd cs : Value} (h : copyA E H t d s = some (v, H')) (hd : VRel M d cd) (hs : VRel M s cs) :
    ∃ cv w', (Builtin.copy_ (List.toArray (t :: rest)) ty #[cd, cs]).run P w = .ok cv w' ∧ Ext M H w M H' w' ∧ HRel M H' w' ∧ VRel M v cv := by
  unfold copyA at h
  split at h
  case h_2 => cases h
  rename_i ti dn sn hty hdn hsn
  obtain ⟨i1, d1, z1, ht⟩ := hE.ty t ti hty
  have hdd := ht.desc
  split at h
  case h_2 => cases h
  rename_i e hq
  rw [hq] at hdd
  simp only [DRel] at hdd
  subst hdd
  split at h
  · cases h
  rename_i ei hte
  obtain ⟨i3, d3, z3, he⟩ := hE.ty e ei hte
  split at h
  · cases h
  rename_i news hn
  obtain ⟨vs, f1, f2, f3⟩ := sliceCells_sound (P := P) hr hn hs ⟨sn, hsn, Nat.min_le_left _ _⟩
  have hsl := lenA_sound (P := P) (w := w) hsn hs
  have hvl : vs.length = min sn dn * ei.size := by rw [← f2.length, f3]
  have nmin : Nat.min sn dn = min sn dn := rfl
  have run0 : ∀ (base : Option Addr) (cap : Nat) (w' : World), (match base with | some a => storeCells a vs | none => pure ()).run P w = .ok () w' →
      (Builtin.copy_ (List.toArray (t :: rest)) ty #[.slice base dn cap, cs]).run P w = .ok (.int .i64 (Int.ofNat (min sn dn))) w' := by
    intro base cap w' hst
    cases base with
    | none =>
      simp only [Sem.run_pure, Result.ok.injEq, true_and] at hst
      subst hst
      simp [Builtin.copy_, run_und ht, run_size he, hsl, nmin, f1, goInt]
    | some a => simp [Builtin.copy_, run_und ht, run_size he, hsl, nmin, f1, hst, goInt]
  split at h
  · simp only [Option.some.injEq, Prod.mk.injEq] at h
    obtain ⟨rfl, rfl⟩ := h
    simp only [VRel] at hd
    subst hd
    simp only [lenA, Option.some.injEq] at hdn
    subst hdn
    exact ⟨_, w, run0 none 0 w rfl, Ext.refl _ _ _, hr, by simp [VRel]⟩
  · simp only [Option.some.injEq, Prod.mk.injEq] at h
    obtain ⟨rfl, rfl⟩ := h
    obtain ⟨a, c, rfl⟩ := hd
    simp only [lenA, Option.some.injEq] at hdn
    subst hdn
    have : vs = [] := List.eq_nil_of_length_eq_zero (by simpa using hvl)
    subst this
    exact ⟨_, w, run0 (some a) c w (by simp [storeCells]), Ext.refl _ _ _, hr, by simp [VRel]⟩
  · rename_i id off len cap
    obtain ⟨m, c, hm, rfl, hcap⟩ := hd
    simp only [lenA, Option.some.injEq] at hdn
    subst hdn
    simp only [Bool.cond_eq_ite, Nat.beq_eq] at h
    split at h
    · rename_i h0
      simp only [Option.some.injEq, Prod.mk.injEq] at h
      obtain ⟨rfl, rfl⟩ := h
      have : vs = [] := List.eq_nil_of_length_eq_zero (by rw [hvl, h0]; simp)
      subst this
      exact ⟨_, w, run0 _ c w (by simp [storeCells]), Ext.refl _ _ _, hr, by simp [VRel, h0]⟩
    · split at h
      case h_2 => cases h
      rename_i n c0 e0 g fz ro mk ho
      split at h
      case isFalse => cases h
      rename_i hcond
      simp only [Bool.and_eq_true, Nat.ble_eq, Bool.not_eq_true'] at hcond
      obtain ⟨q1, q2, rfl, q4⟩ := hcond
      simp only [Option.some.injEq, Prod.mk.injEq] at h
      obtain ⟨rfl, rfl⟩ := h
      obtain ⟨cur, e', lo, hi, k1, k2, k3, k4, k5, k6, k7⟩ := hr.blk ho hm
      obtain ⟨rfl, hb0⟩ := k2 rfl
      obtain ⟨w', cur', hrun, j1, j2, j3, j4⟩ := run_storeCells' (P := P) (m.base + off) vs 0 cur w k1 (by rw [hvl]; omega)
        (fun k hk hk2 hx => by have := k5 rfl k hx.1 hx.2 (by rw [hvl] at hk2; omega); omega) (VRels.ones f2 q4)
      have hO : ORel M m w' (.cells n (c0.putAll off news) e' g fz false mk) := by
        refine ⟨cur', e', lo, hi, j1, fun _ => ⟨rfl, hb0⟩, by rw [j2]; exact k3, fun gs e => by rw [j2]; exact k4 gs e,
          fun _ i a b cc => k5 rfl i a b (by rw [← j2]; exact cc), fun a b => by rw [j2]; exact k6 a b, ?_⟩
        intro j u hu
        rcases Tr.get_putAll _ hu with ⟨q, rfl, hq⟩ | ⟨hj, hu⟩
        · obtain ⟨x, hx, r⟩ := f2.get q u hq
          have hql : q < min sn len * ei.size := by rw [← f3]; exact (List.getElem?_eq_some_iff.1 hq).1
          refine ⟨by omega, x, ?_, r⟩
          rw [j3, if_pos (by rw [hvl]; omega)]
          rw [show m.base + (off + q) - (m.base + off + 0) = q from by omega]
          exact hx
        · obtain ⟨a, x, hx, r⟩ := k7 j u hu
          refine ⟨a, x, ?_, r⟩
          rw [j3, if_neg (by rw [hvl]; rw [f3] at hj; omega)]
          exact hx
      obtain ⟨r1, r2⟩ := hr.put ho rfl hm j4 _ hO
      exact ⟨_, w', run0 _ c w' hrun, r2, r1, rfl⟩
  · cases h
theorem bytesA_rel {cs : List AV} {s : List UInt8} {vs : List Value} (h : bytesA cs = some s) (hr : VRels M cs vs) : ∃ ns : List Int, vs = ns.map (Value.int .u8) ∧ s = ns.map (fun n => UInt8.ofNat n.toNat) := by
  induction cs generalizing s vs with
  | nil =>
    simp only [bytesA, Option.some.injEq] at h
    subst h
    cases vs with
    | nil => exact ⟨[], rfl, rfl⟩
    | cons => exact hr.elim
  | cons c cs ih =>
    cases vs with
    | nil => exact hr.elim
    | cons v vs =>
      unfold bytesA at h
      split at h
      · simp_all
      · rename_i n r heq
        simp only [List.cons.injEq] at heq
        obtain ⟨rfl, rfl⟩ := heq
        cases hb : bytesA cs with
        | none => simp [hb] at h
        | some l =>
          simp only [hb, Option.some.injEq] at h
          subst h
          obtain ⟨ns, rfl, rfl⟩ := ih hb hr.2
          have := hr.1
          simp only [VRel] at this
          subst this
          exact ⟨n :: ns, rfl, rfl⟩
      · cases h
theorem foldl_push (ns : List Int) : ∀ (r : ByteArray), ns.foldl (fun r n => r.push (UInt8.ofNat n.toNat)) r = ⟨⟨r.data.toList ++ ns.map (fun n => UInt8.ofNat n.toNat)⟩⟩ := by
  induction ns with
  | nil => intro r; simp
  | cons n ns ih =>
    intro r
    simp only [List.foldl_cons, ih, List.map_cons]
    apply ByteArray.ext
    simp [ByteArray.push]
set_option maxHeartbeats 1000000 in
theorem convertA_sound (hE : TysOk E P) (hr : HRel M H w) {src dst : TypeId} {x v : AV} {H' : AHeap} {cx : Value} (h : convertA E H src dst x = some (v, H')) (hx : VRel M x cx) :
    ∃ cv w' M', (convert src dst cx).run P w = .ok cv w' ∧ Ext M H w M' H' w' ∧ HRel M' H' w' ∧ VRel M' v cv := by
  unfold convertA at h
  split at h
  case h_2 => cases h
  rename_i si di hsi hdi
  obtain ⟨i1, d1, z1, h1⟩ := hE.ty src si hsi
  obtain ⟨i2, d2, z2, h2⟩ := hE.ty dst di hdi
  have e1 := h1.desc
  have e2 := h2.desc
  split at h
  · rename_i k k' n hq
    rw [hq] at e2
    simp only [DRel] at e2
    subst e2
    simp only [VRel] at hx
    subst hx
    simp only [Option.some.injEq, Prod.mk.injEq] at h
    obtain ⟨rfl, rfl⟩ := h
    refine ⟨_, w, M, ?_, Ext.refl _ _ _, hr, rfl⟩
    simp only [convert, Sem.run_bind, run_und h1, run_und h2, Result.andThen_ok]
    cases d1 <;> rfl
  · rename_i kq n hq
    rw [hq] at e2
    simp only [DRel] at e2
    subst e2
    simp only [VRel] at hx
    subst hx
    simp only [Bool.cond_eq_ite, Bool.and_eq_true, Bool.not_eq_true', ilt_iff, decide_eq_false_iff_not, decide_eq_true_eq] at h
    split at h
    case isFalse => cases h
    rename_i hb
    simp only [Option.some.injEq, Prod.mk.injEq] at h
    obtain ⟨rfl, rfl⟩ := h
    refine ⟨.string (Utf8.encode n), w, M, ?_, Ext.refl _ _ _, hr, ?_⟩
    · simp only [convert, Sem.run_bind, run_und h1, run_und h2, Result.andThen_ok]
      cases d1 <;> rfl
    · have hv : Utf8.valid n = true := by
        simp only [Utf8.valid]
        simp
        omega
      have hc : n.toNat < 0x80 := by omega
      simp only [VRel, Utf8.encode, hv, if_true, hc]
  · rename_i s hq
    rw [hq] at e2
    simp only [DRel] at e2
    subst e2
    simp only [VRel] at hx
    subst hx
    simp only [Option.some.injEq, Prod.mk.injEq] at h
    obtain ⟨rfl, rfl⟩ := h
    refine ⟨_, w, M, ?_, Ext.refl _ _ _, hr, rfl⟩
    simp only [convert, Sem.run_bind, run_und h1, run_und h2, Result.andThen_ok]
    cases d1 <;> rfl
  · rename_i x _ _ hq hni hns
    rw [hq] at e2
    simp only [DRel] at e2
    subst e2
    split at h
    case h_2 => cases h
    rename_i e hqs
    rw [hqs] at e1
    simp only [DRel] at e1
    subst e1
    split at h
    case h_2 => cases h
    rename_i ei hte
    obtain ⟨i3, d3, z3, he⟩ := hE.ty e ei hte
    have e3 := he.desc
    split at h
    case h_2 => cases h
    rename_i n hk hl
    rw [hk] at e3
    simp only [DRel] at e3
    subst e3
    split at h
    case h_2 => cases h
    rename_i cs hcs
    split at h
    case h_2 => cases h
    rename_i s hb
    simp only [Option.some.injEq, Prod.mk.injEq] at h
    obtain ⟨rfl, rfl⟩ := h
    obtain ⟨vs, f1, f2, f3⟩ := sliceCells_sound (P := P) hr hcs hx ⟨n, hl, Nat.le_refl _⟩
    obtain ⟨ns, rfl, rfl⟩ := bytesA_rel hb f2
    refine ⟨.string ⟨⟨ns.map (fun n : Int => UInt8.ofNat n.toNat)⟩⟩, w, M, ?_, Ext.refl _ _ _, hr, rfl⟩
    rw [Nat.mul_one] at f3
    cases x <;> simp only [lenA, Option.some.injEq] at hl <;> first | (cases hl; done) | skip
    case str s' => exact absurd rfl (hns _)
    case nils =>
      simp only [VRel] at hx
      subst hx; subst hl
      have : ns = [] := by
        have := f2.length
        rw [f3] at this
        simpa using this.symm
      subst this
      rw [run_convert_bytes_string w src dst e none 0 0 h1.und he.und h2.und]
      rfl
    case sl id off len cap =>
      obtain ⟨m, c, hm, rfl, _⟩ := hx
      subst hl
      rw [run_convert_bytes_string w src dst e _ _ _ h1.und he.und h2.und]
      have hload : (loadCells ⟨m.block, m.base + off, none⟩ len).run P w = .ok (ns.map (Value.int .u8)).toArray w := by
        simpa [Builtin.firstCells] using f1
      rw [run_bytesToString w _ len c ns hload, foldl_push]
      rfl
    case sl0 =>
      obtain ⟨a, c, rfl⟩ := hx
      subst hl
      have : ns = [] := by
        have := f2.length
        rw [f3] at this
        simpa using this.symm
      subst this
      rw [run_convert_bytes_string w src dst e _ _ _ h1.und he.und h2.und]
      rw [run_bytesToString w a 0 c [] (by simp [loadCells, loadCellsFrom])]
      rfl
  · rename_i e s hq
    rw [hq] at e2
    simp only [DRel] at e2
    subst e2
    simp only [VRel] at hx
    subst hx
    split at h
    case h_2 => cases h
    rename_i ei hte
    obtain ⟨i3, d3, z3, he⟩ := hE.ty e ei hte
    have e3 := he.desc
    split at h
    case h_2 => cases h
    rename_i hk hss
    rw [hk] at e3
    simp only [DRel] at e3
    subst e3
    simp only [Bool.cond_eq_ite] at h
    split at h
    case isFalse => cases h
    rename_i hroom
    simp only [Option.some.injEq, Prod.mk.injEq] at h
    obtain ⟨rfl, rfl⟩ := h
    have hsm := room_small hroom
    have hls : (ByteArray.mk ⟨s⟩).size = s.length := rfl
    simp only [lenU] at hroom hsm
    rw [hss] at e1
    simp only [DRel] at e1
    subst e1
    have hrun := run_bytes_of_string w src dst e ⟨⟨s⟩⟩ h1.und h2.und he.und
    have hpre : M <+: M ++ [⟨w.heap.size, 0, (bytesRow ⟨⟨s⟩⟩ (grownCap w s.length 0 e)).size, 1⟩] := List.prefix_append _ _
    have hge : s.length ≤ grownCap w s.length 0 e := grownCap_ge w _ _ _
    have hsz : (bytesRow ⟨⟨s⟩⟩ (grownCap w s.length 0 e)).size = grownCap w s.length 0 e := by
      simp [bytesRow, ByteArray.size]; omega
    have hget : ∀ (i : Nat) (b : UInt8), s[i]? = some b → (bytesRow ⟨⟨s⟩⟩ (grownCap w s.length 0 e))[i]? = some (Value.int .u8 (b.toNat : Int)) := by
      intro i b hb
      have hi : i < s.length := (List.getElem?_eq_some_iff.1 hb).1
      simp only [bytesRow]
      rw [Array.getElem?_append_left (by simpa using hi)]
      simp [hb]
    have hO : ORel (M ++ [⟨w.heap.size, 0, (bytesRow ⟨⟨s⟩⟩ (grownCap w s.length 0 e)).size, 1⟩]) ⟨w.heap.size, 0, (bytesRow ⟨⟨s⟩⟩ (grownCap w s.length 0 e)).size, 1⟩
        (w.drew.alloc (.cells (bytesRow ⟨⟨s⟩⟩ (grownCap w s.length 0 e)) e ((bytesRow ⟨⟨s⟩⟩ (grownCap w s.length 0 e)).size, (bytesRow ⟨⟨s⟩⟩ (grownCap w s.length 0 e)).size + 1)))
        (.cells (lenU s) (Tr.nil.putAll 0 (s.map byteAV)) e (some 1) 0 false true) := by
      refine ⟨bytesRow ⟨⟨s⟩⟩ (grownCap w s.length 0 e), e, (bytesRow ⟨⟨s⟩⟩ (grownCap w s.length 0 e)).size, (bytesRow ⟨⟨s⟩⟩ (grownCap w s.length 0 e)).size + 1, ?_, fun _ => ⟨rfl, rfl⟩, ?_, fun gs eg => ⟨by cases eg; rfl, rfl, rfl⟩, fun _ i a b c => by omega, (fun _ e => by cases e), ?_⟩
      · show (w.heap.push _)[w.heap.size]? = _
        simp
      · rw [hsz]; simpa [lenU] using hge
      · intro i v hv
        rcases Tr.get_putAll _ hv with ⟨q, rfl, hq⟩ | ⟨_, hu⟩
        · rw [List.getElem?_map] at hq
          cases hb : s[q]? with
          | none => simp [hb] at hq
          | some b =>
            simp only [hb, Option.map_some, Option.some.injEq] at hq
            subst hq
            refine ⟨by simpa [lenU] using (List.getElem?_eq_some_iff.1 hb).1, _, ?_, rfl⟩
            simp only [Nat.zero_add]
            exact hget q b hb
        · simp [Tr.get_nil] at hu
    obtain ⟨r1, r2⟩ := hr.new (grown_drew_push w _) _ _ (Nat.le_refl _) hO
    exact ⟨_, _, _, hrun, r2, r1, ⟨_, grownCap w s.length 0 e, newAt hr _, rfl, (fun _ e => by cases e), fun _ => ⟨by simpa [lenU] using hge, by simp [hsz], Nat.one_pos⟩⟩⟩
  · rename_i e id off len cap hq
    rw [hq] at e2
    simp only [DRel] at e2
    subst e2
    split at h
    case h_2 => cases h
    rename_i ei t' n c e' g hte hss hget
    obtain ⟨i3, d3, z3, he⟩ := hE.ty e ei hte
    have e3 := he.desc
    split at h
    case h_2 => cases h
    rename_i hk
    rw [hk] at e3
    simp only [DRel] at e3
    subst e3
    simp only [Bool.cond_eq_ite, Nat.beq_eq] at h
    split at h
    case isFalse => cases h
    rename_i hsd
    simp only [Option.some.injEq, Prod.mk.injEq] at h
    obtain ⟨rfl, rfl⟩ := h
    have hx' := hx
    obtain ⟨m, cc, hm, rfl, _, _⟩ := hx
    rw [hss] at e1
    simp only [DRel] at e1
    subst e1
    obtain ⟨cur, e'', lo, hi, g1, g2, g3, g4, g5, g6, g7⟩ := hr.blk hget hm
    have hlo : lo = hi := by
      obtain ⟨a1, a2⟩ := g6 rfl rfl
      by_cases hlt : lo < hi
      · have := g5 rfl lo (Nat.le_refl _) hlt (by omega); omega
      · omega
    have hs : w.shape? m.block = some (e'', cur.size) := by simp [World.shape?, g1]
    have hg' : w.grownBy (w.freeze ⟨m.block, cur.size, none⟩ 1) (some m.block) := by
      refine ⟨?_, ?_, ?_, ?_, ?_⟩
      all_goals simp only [World.freeze, Nat.one_ne_zero, if_false]
      · simp
      · intro k _ hne
        simp only [Array.getElem?_modify]
        rw [if_neg (by intro e; apply hne; rw [e])]
    have hheap : (w.freeze ⟨m.block, cur.size, none⟩ 1).heap[m.block]? = some (.cells cur e'' (cur.size, cur.size + 1)) := by
      simp [World.freeze, Array.getElem?_modify, g1, hlo]
    obtain ⟨n1, n2⟩ := hr.put hget rfl hm hg' (.cells n c e' g 0 false true) ⟨cur, e'', cur.size, cur.size + 1, hheap, g2, g3, g4, fun _ i a b d => by omega, (fun _ e => by cases e), g7⟩
    refine ⟨_, _, M, ?_, n2, n1, hx'⟩
    subst hsd
    have ht := h1.und.symm.trans h2.und
    simp only [Option.some.injEq, TypeDesc.slice.injEq] at ht
    subst ht
    simp [convert, run_und h1, run_und he, markStringish, hs]
  · cases h
theorem rowAt_mono (P : Program) (fits : TypeId → Bool) : ∀ (d e c c' off n : Nat), c ≤ c' → rowAt P fits d e c off n = true → rowAt P fits d e c' off n = true := by
  intro d e c c' off n hc h
  cases d with
  | zero => simp [rowAt] at h
  | succ d =>
    simp only [rowAt] at h ⊢
    split at h
    · cases h
    · rename_i hs
      rw [if_neg hs]
      simp only [Bool.or_eq_true, Bool.and_eq_true, decide_eq_true_eq] at h ⊢
      rcases h with ⟨⟨h1, h2⟩, h3⟩ | ⟨h1, h2⟩
      · exact .inl ⟨⟨h1, by omega⟩, h3⟩
      · exact .inr ⟨by omega, h2⟩
theorem liesAt_mono (P : Program) : ∀ (d e c c' off u n : Nat), c ≤ c' → liesAt P d e c off u n = true → liesAt P d e c' off u n = true := by
  intro d
  induction d with
  | zero => intro e c c' off u n _ h; simp [liesAt] at h
  | succ d ih =>
    intro e c c' off u n hc h
    simp only [liesAt, Bool.or_eq_true] at h ⊢
    rcases h with h | h
    · exact .inl (rowAt_mono P _ _ _ _ _ _ _ hc h)
    · refine .inr ?_
      split at h
      · exact ih _ _ _ _ _ _ hc h
      · cases h
theorem lies_sound (hE : TysOk E P) {e u n off k : Nat} (h : lies E e u n off k = true) {b : Nat} {cur : Array Value} {lo hi : Nat} (hb : w.heap[b]? = some (.cells cur e (lo, hi))) (hn : n ≤ cur.size) :
    (variablesAt ⟨b, off, none⟩ u k).run P w = .ok true w := by
  have hs : w.shape? b = some (e, cur.size) := by simp [World.shape?, hb]
  have : liesAt P P.depth e (cur.size / P.cellsOf e) off u k = true := liesAt_mono P _ _ _ _ _ _ _ (Nat.div_le_div_right hn) (hE.lay e u n off k h)
  simp only [variablesAt, Sem.run_bind, program, Sem.run, run_shape, hs, Result.andThen_ok, Sem.run_pure, this]
theorem seenAt_plain {b off : Nat} {e : TypeId} {k : Nat} (hs : w.shape? b = some (e, k)) : (Conv.seenAt ⟨b, off, none⟩).run P w = .ok ⟨b, off, none⟩ w := by
  simp [Conv.seenAt, viewAt, hs]
theorem convertU_sound (hE : TysOk E P) (hr : HRel M H w) {src dst : TypeId} {x v : AV} {cx : Value} (h : convertU E H src dst x = some v) (hx : VRel M x cx) :
    ∃ cv, (convert src dst cx).run P w = .ok cv w ∧ VRel M v cv := by
  unfold convertU at h
  split at h
  case h_2 => cases h
  rename_i si di hsi hdi
  obtain ⟨i1, d1, z1, h1⟩ := hE.ty src si hsi
  obtain ⟨i2, d2, z2, h2⟩ := hE.ty dst di hdi
  have e1 := h1.desc
  have e2 := h2.desc
  split at h
  · rename_i t hq1 hq2
    rw [hq1] at e1; rw [hq2] at e2
    simp only [DRel] at e1 e2
    subst e1; subst e2
    simp only [VRel] at hx; subst hx
    simp only [Option.some.injEq] at h; subst h
    exact ⟨.pointer none, by simp [convert, run_und h1, run_und h2, Conv.unsafePointer], rfl⟩
  · rename_i t id off hq1 hq2
    rw [hq1] at e1; rw [hq2] at e2
    simp only [DRel] at e1 e2
    subst e1; subst e2
    split at h
    case h_2 => cases h
    rename_i ti n c e g fz ro mk hti hget
    obtain ⟨i3, d3, z3, h3⟩ := hE.ty t ti hti
    cases hc : (Nat.beq ti.size 0 || !(Nat.blt off n)) with
    | true => simp [hc] at h
    | false =>
      simp only [hc, cond_false, Option.some.injEq] at h; subst h
      simp only [Bool.or_eq_false_iff, Bool.not_eq_false', Nat.blt_eq] at hc
      obtain ⟨m, hm, rfl⟩ := hx
      obtain ⟨cur, e', lo, hi, g1, g2, g3, _⟩ := hr.blk hget hm
      have hs : w.shape? m.block = some (e', cur.size) := by simp [World.shape?, g1]
      have hz : ti.size ≠ 0 := by intro e0; rw [e0] at hc; simp at hc
      have hlt : m.base + off < cur.size := by omega
      refine ⟨.pointer (some ⟨m.block, m.base + off, none⟩), ?_, m, hm, rfl⟩
      have hcells : (cellsIn m.block).run P w = .ok (some cur.size) w := by simp [cellsIn, hs]
      simp only [convert, Sem.run_bind, run_und h1, run_und h2, Result.andThen_ok, Conv.unsafePointer, seenAt_plain hs, hcells, run_size h3]
      simp [hz, Nat.not_le.2 hlt]
  · rename_i t hq1 hq2
    rw [hq1] at e1; rw [hq2] at e2
    simp only [DRel] at e1 e2
    subst e1; subst e2
    simp only [VRel] at hx; subst hx
    simp only [Option.some.injEq] at h; subst h
    exact ⟨.pointer none, by simp [convert, run_und h1, run_und h2, Conv.unsafePointer], rfl⟩
  · rename_i u id off hq1 hq2
    rw [hq1] at e1; rw [hq2] at e2
    simp only [DRel] at e1 e2
    subst e1; subst e2
    split at h
    case h_2 => cases h
    rename_i ui n c e g fz mk hti hget
    obtain ⟨i3, d3, z3, h3⟩ := hE.ty u ui hti
    cases hc : lies E e u n off 1 with
    | false => simp [hc] at h
    | true =>
      simp only [hc, cond_true, Option.some.injEq] at h; subst h
      obtain ⟨m, hm, rfl⟩ := hx
      obtain ⟨cur, e', lo, hi, g1, g2, g3, _⟩ := hr.blk hget hm
      obtain ⟨rfl, hb0⟩ := g2 rfl
      rw [hb0] at g3 ⊢
      have hs : w.shape? m.block = some (e', cur.size) := by simp [World.shape?, g1]
      refine ⟨.pointer (some ⟨m.block, 0 + off, none⟩), ?_, m, hm, by rw [hb0]⟩
      have hv := lies_sound (b := m.block) hE hc g1 (by omega)
      simp only [Nat.zero_add] at hv ⊢
      simp only [convert, Sem.run_bind, run_und h1, run_und h2, Result.andThen_ok, Conv.unsafePointer, seenAt_plain hs, run_size h3, hv]
      simp
  · cases h
end
end Go.Vai
end
section
namespace Go.Vai
section
variable {E : Env} {P : Program} {M : List MEnt} {H : AHeap} {w : World}
theorem foldl_set (off : Nat) : ∀ (l : List Value) (k : Nat) (cs : Array Value), off + k + l.length ≤ cs.size →
    ((l.zipIdx k).foldl (fun cs (c, j) => cs.setIfInBounds (off + j) c) cs).size = cs.size ∧
    ∀ i, ((l.zipIdx k).foldl (fun cs (c, j) => cs.setIfInBounds (off + j) c) cs)[i]? = if off + k ≤ i ∧ i < off + k + l.length then l[i - (off + k)]? else cs[i]? := by
  intro l
  induction l with
  | nil => intro k cs _; exact ⟨rfl, fun i => by rw [if_neg (by intro h; simp only [List.length_nil] at h; omega)]; rfl⟩
  | cons c l ih =>
    intro k cs h
    simp only [List.length_cons] at h
    obtain ⟨h1, h2⟩ := ih (k + 1) (cs.setIfInBounds (off + k) c) (by simp; omega)
    simp only [List.zipIdx_cons, List.foldl_cons]
    refine ⟨by rw [h1]; simp, fun i => ?_⟩
    rw [h2]
    by_cases h3 : off + (k + 1) ≤ i ∧ i < off + (k + 1) + l.length
    · rw [if_pos h3, if_pos (by simp only [List.length_cons]; omega), show i - (off + k) = (i - (off + (k + 1))) + 1 from by omega, List.getElem?_cons_succ]
    · rw [if_neg h3]
      by_cases h4 : i = off + k
      · subst h4
        rw [if_pos (by simp only [List.length_cons]; omega), Nat.sub_self]
        simp [show off + k < cs.size from by omega]
      · rw [if_neg (by simp only [List.length_cons]; omega), Array.getElem?_setIfInBounds_ne (by omega)]
theorem fillA_sound {place cplace : Nat → Option (Nat × Nat)} (hp : ∀ i r, place i = some r → cplace i = some r) : ∀ {ps : List (Nat × AV)} {cps : List (Nat × Value)} {cells l : List AV} {cc : List Value},
    ps.map (·.1) = cps.map (·.1) → VRels M (ps.map (·.2)) (cps.map (·.2)) → VRels M cells cc → fillA place cells ps = some l → ∃ cl : List Value, Instr.fill cplace cc.toArray cps = some cl.toArray ∧ VRels M l cl := by
  intro ps
  induction ps with
  | nil =>
    intro cps cells l cc h1 _ hc h
    cases cps with
    | nil => simp only [fillA, Option.some.injEq] at h; subst h; exact ⟨cc, rfl, hc⟩
    | cons => simp at h1
  | cons p ps ih =>
    intro cps cells l cc h1 h2 hc h
    cases cps with
    | nil => simp at h1
    | cons q cps =>
      obtain ⟨i, v⟩ := p
      obtain ⟨j, cv⟩ := q
      simp only [List.map_cons, List.cons.injEq] at h1
      obtain ⟨rfl, h1⟩ := h1
      obtain ⟨hv, h2⟩ := h2
      simp only [fillA] at h
      split at h
      · cases h
      rename_i off size hpl
      simp only [Bool.cond_eq_ite, Bool.and_eq_true, Nat.beq_eq, Nat.ble_eq] at h
      split at h
      case isFalse => cases h
      rename_i hcond
      obtain ⟨c1, c2⟩ := hcond
      have hcells := hv.cells
      have hlen : cv.cells.size = size := by rw [← c1, hcells.length]; simp
      have hcl := hc.length
      obtain ⟨s1, s2⟩ := foldl_set off cv.cells.toList 0 cc.toArray (by simp; omega)
      have heq : ((cv.cells.zipIdx).foldl (fun cs (c, j) => cs.setIfInBounds (off + j) c) cc.toArray) = ((cv.cells.toList.zipIdx 0).foldl (fun cs (c, j) => cs.setIfInBounds (off + j) c) cc.toArray) := by
        rw [← Array.foldl_toList]; simp
      have hcc : VRels M (putSub cells off v.cells) (((cv.cells.toList.zipIdx 0).foldl (fun cs (c, j) => cs.setIfInBounds (off + j) c) cc.toArray).toList) := by
        refine VRels.of ?_ fun k a u ha hu => ?_
        · simp only [Array.length_toList, s1, putSub, List.length_append, List.length_take, List.length_drop, List.size_toArray]
          omega
        · rw [Array.getElem?_toList, s2] at hu
          simp only [putSub] at ha
          simp only [Nat.add_zero, Array.length_toList] at hu
          by_cases hk : off ≤ k ∧ k < off + cv.cells.size
          · rw [if_pos hk] at hu
            rw [List.getElem?_append_right (by simp; omega), List.getElem?_append_left (by simp; omega)] at ha
            simp only [List.length_take] at ha
            rw [show k - min off cells.length = k - off from by omega] at ha
            obtain ⟨x, hx, r⟩ := hcells.get _ _ ha
            rw [hx] at hu; cases hu; exact r
          · rw [if_neg hk] at hu
            by_cases hlt : k < off
            · rw [List.getElem?_append_left (by simp; omega), List.getElem?_take, if_pos hlt] at ha
              obtain ⟨x, hx, r⟩ := hc.get _ _ ha
              rw [List.getElem?_toArray, hx] at hu; cases hu; exact r
            · rw [List.getElem?_append_right (by simp; omega), List.getElem?_append_right (by simp; omega), List.getElem?_drop] at ha
              simp only [List.length_take] at ha
              rw [show off + v.cells.length + (k - min off cells.length - v.cells.length) = k from by omega] at ha
              obtain ⟨x, hx, r⟩ := hc.get _ _ ha
              rw [List.getElem?_toArray, hx] at hu; cases hu; exact r
      obtain ⟨cl, r1, r2⟩ := ih h1 h2 hcc h
      refine ⟨cl, ?_, r2⟩
      simp only [Instr.fill, hp _ _ hpl, hlen]
      rw [if_neg (by simp; omega)]
      rw [heq]
      simpa using r1
theorem run_places {F : List Field} (h : ∀ f ∈ F, ∃ i, P.info? f.type = some i) :
    (F.mapM (m := Sem) fun f => do pure (f.offset, ← sizeOf f.type)).run P w = .ok (F.map fun f => (f.offset, P.cellsOf f.type)) w := by
  induction F with
  | nil => simp
  | cons f F ih =>
    obtain ⟨i, hi⟩ := h f (by simp)
    have hs : (sizeOf f.type).run P w = .ok (P.cellsOf f.type) w := by simp [sizeOf, typeInfo, hi, Program.cellsOf]
    simp only [List.mapM_cons, Sem.run_bind, hs, Result.andThen_ok, Sem.run_pure, ih (fun g hg => h g (List.mem_cons_of_mem _ hg)), List.map_cons]
theorem buildA_sound (hE : TysOk E P) {t : TypeId} {ps : List (Nat × AV)} {cps : List (Nat × Value)} {v : AV} (h : buildA E t ps = some v) (h1 : ps.map (·.1) = cps.map (·.1)) (h2 : VRels M (ps.map (·.2)) (cps.map (·.2))) :
    ∃ cv, (Instr.build t cps.toArray).run P w = .ok cv w ∧ VRel M v cv := by
  unfold buildA at h
  split at h
  · cases h
  rename_i ti hty
  obtain ⟨i, d, z, ht⟩ := hE.ty t ti hty
  have hd := ht.desc
  have hz := ht.zrel.mono (List.nil_prefix (l := M))
  split at h
  · rename_i fs ok hq
    rw [hq] at hd
    obtain ⟨F, rfl, hF, _⟩ := hd
    split at h
    case h_2 => cases h
    rename_i l hl
    simp only [Option.some.injEq] at h
    subst h
    have hfi := hE.fields t ti F hty ht.und
    have hpl := run_places (w := w) hfi
    obtain ⟨cl, r1, r2⟩ := fillA_sound (cplace := (((F.toList.map fun f => (f.offset, P.cellsOf f.type)).toArray)[·]?)) (fun i r hr => by
      split at hr
      · cases hr
      rename_i off ft hn
      split at hr
      case h_2 => cases hr
      rename_i fi hfi
      simp only [Option.some.injEq] at hr
      subst hr
      obtain ⟨fd, e1, rfl, rfl⟩ := field_of hF hn
      obtain ⟨_, _, _, hf⟩ := hE.ty _ _ hfi
      simp [e1, Program.cellsOf, hf.info, hf.size]) h1 h2 hz hl
    refine ⟨.agg cl.toArray, ?_, ⟨cl, rfl, r2⟩⟩
    simp only [Instr.build, Sem.run_bind, run_zero ht, run_und ht, Result.andThen_ok]
    rw [Array.mapM_eq_mapM_toList, Sem.run_map, hpl]
    simp only [Result.andThen_ok]
    rw [Array.toArray_toList] at r1
    simp only [r1]
    rfl
  · rename_i n e hq
    rw [hq] at hd
    simp only [DRel] at hd
    subst hd
    split at h
    · cases h
    rename_i ei hte
    obtain ⟨_, _, _, he⟩ := hE.ty e ei hte
    split at h
    case h_2 => cases h
    rename_i l hl
    simp only [Option.some.injEq] at h
    subst h
    obtain ⟨cl, r1, r2⟩ := fillA_sound (cplace := fun i => some (i * ei.size, ei.size)) (fun i r hr => hr) h1 h2 hz hl
    refine ⟨.agg cl.toArray, ?_, ⟨cl, rfl, r2⟩⟩
    rw [Array.toArray_toList] at r1
    simp [Instr.build, run_zero ht, run_und ht, run_size he, r1]
  · cases h
theorem buildSlice_run (hE : TysOk E P) {t : TypeId} {ti ei : ATy} {e len : Nat} {ps : List (Nat × AV)} {cps : List (Nat × Value)} {cs : List AV} (hty : E.ty t = some ti) (hq : ti.d = .slice e) (hte : E.ty e = some ei)
    (hb : len * ei.size ≤ 65536) (h : fillA (fun i => some (i * ei.size, ei.size)) (rep ei.zero len) ps = some cs) (h1 : ps.map (·.1) = cps.map (·.1)) (h2 : VRels M (ps.map (·.2)) (cps.map (·.2))) (w : World) :
    ∃ vs, (Instr.buildSlice t len cps.toArray).run P w = .ok (.slice (some ⟨w.heap.size, 0, none⟩) len len) { w with heap := w.heap.push (.cells (List.toArray vs) e) } ∧ VRels M cs vs := by
  obtain ⟨i, d, z, ht⟩ := hE.ty t ti hty
  obtain ⟨i2, d2, z2, he⟩ := hE.ty e ei hte
  have hd := ht.desc
  rw [hq] at hd
  simp only [DRel] at hd
  subst hd
  have hz := rep_rel (he.zrel.mono (List.nil_prefix (l := M))) len
  rw [he.zlen] at hz
  obtain ⟨cl, r1, r2⟩ := fillA_sound (cplace := fun i => some (i * ei.size, ei.size)) (fun i r hr => hr) h1 h2 hz h
  refine ⟨cl, ?_, r2⟩
  have hng : ¬ (len * ei.size > 2 ^ 24) := by omega
  rw [Array.toArray_toList] at r1
  by_cases h0 : len * ei.size = 0
  · have hr0 : Array.range 0 = #[] := by simp
    have hzero : ((Array.range (len * ei.size)).map (z2.cells[· % ei.size]!)) = #[] := by rw [h0]; simp
    rw [hzero] at r1
    simp only [Instr.buildSlice, Sem.run_bind, run_und ht, run_size he, Result.andThen_ok, h0, if_true]
    simp [hr0, r1, newRow]
  · simp only [Instr.buildSlice, Sem.run_bind, run_und ht, run_size he, Result.andThen_ok, if_neg hng, if_neg h0, run_zero he, Sem.run_pure, he.zlen]
    simp [r1, newRow]
theorem buildSlice_sound (hE : TysOk E P) (hr : HRel M H w) {t : TypeId} {ti ei : ATy} {e len : Nat} {ps : List (Nat × AV)} {cps : List (Nat × Value)} {cs : List AV} (hty : E.ty t = some ti) (hq : ti.d = .slice e) (hte : E.ty e = some ei)
    (hb : len * ei.size ≤ 65536) (h : fillA (fun i => some (i * ei.size, ei.size)) (rep ei.zero len) ps = some cs) (h1 : ps.map (·.1) = cps.map (·.1)) (h2 : VRels M (ps.map (·.2)) (cps.map (·.2))) :
    ∃ cv w' M', (Instr.buildSlice t len cps.toArray).run P w = .ok cv w' ∧ Ext M H w M' (newRowA H e cs) w' ∧ HRel M' (newRowA H e cs) w' ∧ VRel M' (.sl H.next 0 len (some len)) cv := by
  obtain ⟨vs, r1, r2⟩ := buildSlice_run hE hty hq hte hb h h1 h2 w
  obtain ⟨n1, n2⟩ := newRow_sound hr e r2
  exact ⟨_, _, _, r1, n2, n1, ⟨_, len, newAt hr _, rfl, (fun _ e => by cases e; rfl), (fun e => by cases e)⟩⟩
theorem makeSlice_run (hE : TysOk E P) (M : List MEnt) {t : TypeId} {ti ei : ATy} {e : Nat} {k1 k2 : IntKind} {l c : Int} (hty : E.ty t = some ti) (hq : ti.d = .slice e) (hte : E.ty e = some ei)
    (h0 : ¬ l < 0) (h1 : ¬ c < l) (hroom : roomy c.toNat (ei.bytes + ei.size) = true) (w : World) :
    ∃ vs, (Instr.makeSlice t (.int k1 l) (.int k2 c)).run P w = .ok (.slice (some ⟨w.heap.size, 0, none⟩) l.toNat c.toNat) { w with heap := w.heap.push (.cells (List.toArray vs) e) } ∧ VRels M (rep ei.zero c.toNat) vs := by
  obtain ⟨i, d, z, ht⟩ := hE.ty t ti hty
  obtain ⟨i2, d2, z2, he⟩ := hE.ty e ei hte
  have hd := ht.desc
  rw [hq] at hd
  simp only [DRel] at hd
  subst hd
  have hz := rep_rel (he.zrel.mono (List.nil_prefix (l := M))) c.toNat
  rw [he.zlen] at hz
  refine ⟨_, ?_, hz⟩
  have hs := room_small hroom
  obtain ⟨cn, rfl⟩ := Int.eq_ofNat_of_zero_le (show 0 ≤ c by omega)
  obtain ⟨ln, rfl⟩ := Int.eq_ofNat_of_zero_le (show 0 ≤ l by omega)
  simp only [Int.toNat_natCast] at hs hroom
  have wl : IntKind.i64.wrap (ln : Int) = ln := wrap_small (by omega) (by omega)
  have wc : IntKind.i64.wrap (cn : Int) = cn := wrap_small (by omega) (by omega)
  have hb : ¬ ((281474976710656 : Int) < (i2.bytes : Int) * (cn : Int)) := by
    rw [he.bytes]
    replace hroom := roomy_cases hroom
    have h2 : ei.bytes * cn ≤ (cn + 1) * (ei.bytes + ei.size + 1) := by
      rw [Nat.mul_comm]
      exact Nat.mul_le_mul (by omega) (by omega)
    have h3 : ((ei.bytes * cn : Nat) : Int) ≤ 211106232532992 := by omega
    push_cast at h3
    omega
  have hn1 : ¬ ((cn : Int) < 0) := by omega
  have hn2 : ¬ ((ln : Int) < 0) := by omega
  have hn3 : ¬ ((cn : Int) < (ln : Int)) := h1
  have hr0 : Array.range 0 = #[] := by simp
  by_cases hz0 : cn * ei.size = 0
  · simp [Instr.makeSlice, run_und ht, run_info he, asInt, asIntOf, wl, wc, hb, hn1, hn2, hn3, run_size he, hz0, newRow, hr0] <;> rfl
  · simp [Instr.makeSlice, run_und ht, run_info he, asInt, asIntOf, wl, wc, hb, hn1, hn2, hn3, run_size he, hz0, newRow, run_zero he, he.zlen]
    congr 2
    apply Array.ext'
    simp
theorem makeSlice_sound (hE : TysOk E P) (hr : HRel M H w) {t : TypeId} {ti ei : ATy} {e : Nat} {k1 k2 : IntKind} {l c : Int} (hty : E.ty t = some ti) (hq : ti.d = .slice e) (hte : E.ty e = some ei)
    (h0 : ¬ l < 0) (h1 : ¬ c < l) (hroom : roomy c.toNat (ei.bytes + ei.size) = true) :
    ∃ cv w' M', (Instr.makeSlice t (.int k1 l) (.int k2 c)).run P w = .ok cv w' ∧ Ext M H w M' (newRowA H e (rep ei.zero c.toNat)) w' ∧ HRel M' (newRowA H e (rep ei.zero c.toNat)) w' ∧ VRel M' (.sl H.next 0 l.toNat (some c.toNat)) cv := by
  obtain ⟨vs, r1, r2⟩ := makeSlice_run hE M hty hq hte h0 h1 hroom w (k1 := k1) (k2 := k2)
  obtain ⟨n1, n2⟩ := newRow_sound hr e r2
  exact ⟨_, _, _, r1, n2, n1, ⟨_, c.toNat, newAt hr _, rfl, (fun _ e => by cases e; rfl), (fun e => by cases e)⟩⟩
end
end Go.Vai
end
section
namespace Go.Vai
mutual
theorem eqb_eq : ∀ (a b : AV), AV.eqb a b = true → a = b
  | .bool a, b, h => by cases b <;> simp_all [AV.eqb]
  | .int j a, b, h => by
    cases b <;> simp only [AV.eqb, Bool.and_eq_true, sameKind_iff, ieq_iff, decide_eq_true_eq, Bool.false_eq_true] at h
    rw [h.1, h.2]
  | .str a, b, h => by
    cases b <;> simp only [AV.eqb, leq_iff, decide_eq_true_eq, Bool.false_eq_true] at h
    rw [h]
  | .nilp, b, h => by cases b <;> simp_all [AV.eqb]
  | .ptr x y, b, h => by
    cases b <;> simp only [AV.eqb, Bool.and_eq_true, Nat.beq_eq, Bool.false_eq_true] at h
    rw [h.1, h.2]
  | .nils, b, h => by cases b <;> simp_all [AV.eqb]
  | .sl x y z none, b, h => by
    cases b with
    | sl d e f c => cases c <;> simp_all [AV.eqb]
    | _ => simp_all [AV.eqb]
  | .sl x y z (some q), b, h => by
    cases b with
    | sl d e f c => cases c <;> simp_all [AV.eqb]
    | _ => simp_all [AV.eqb]
  | .sl0, b, h => by cases b <;> simp_all [AV.eqb]
  | .nilf, b, h => by cases b <;> simp_all [AV.eqb]
  | .fn f x y, b, h => by
    cases b <;> simp only [AV.eqb, Bool.and_eq_true, Nat.beq_eq, Bool.false_eq_true] at h
    rw [h.1, eqbs_eq _ _ h.2.1, eqbs_eq _ _ h.2.2]
  | .yld _, b, h => by cases b <;> simp_all [AV.eqb]
  | .nili, b, h => by cases b <;> simp_all [AV.eqb]
  | .iface t a, b, h => by
    cases b <;> simp only [AV.eqb, Bool.and_eq_true, Nat.beq_eq, Bool.false_eq_true] at h
    rw [h.1, eqb_eq _ _ h.2]
  | .agg asz, b, h => by
    cases b <;> simp only [AV.eqb, Bool.false_eq_true] at h
    rw [eqbs_eq _ _ h]
  | .tup asz, b, h => by
    cases b <;> simp only [AV.eqb, Bool.false_eq_true] at h
    rw [eqbs_eq _ _ h]
  | .nilm, b, h => by cases b <;> simp_all [AV.eqb]
  | .opq _, b, h => by cases b <;> simp_all [AV.eqb]
  | .ext _ _ _ _ _ _, b, h => by cases b <;> simp_all [AV.eqb]
  | .mapv _, b, h => by cases b <;> simp_all [AV.eqb]
theorem eqbs_eq : ∀ (a b : List AV), AV.eqb.eqbs a b = true → a = b
  | [], b, h => by cases b <;> simp_all [AV.eqb.eqbs]
  | x :: xs, b, h => by
    cases b with
    | nil => simp [AV.eqb.eqbs] at h
    | cons y ys =>
      simp only [AV.eqb.eqbs, Bool.and_eq_true] at h
      rw [eqb_eq _ _ h.1, eqbs_eq _ _ h.2]
end
section
variable {E : Env} {P : Program} {M : List MEnt} {w : World}
theorem grown_put' (w : World) (b : Nat) (o : Obj) : w.grownBy { w with heap := w.heap.setIfInBounds b o } (some b) :=
  ⟨rfl, rfl, rfl, by simp, fun i _ hi => by
    have : i ≠ b := fun e => hi (by rw [e])
    simp [Ne.symm this]⟩
theorem eqEs_sound (hE : TysOk E P) {e : Nat} {ei : ATy} {d k : Nat} (hdk : d ≤ k) {asz bs : List AV} {xs ys : List Value} (hx : VRels M asz xs) (hy : VRels M bs ys) {f : Nat → Option Bool × Unit → Sem (ForInStep (Option Bool × Unit))}
    (hf : ∀ j s u v q, (part e xs.toArray (j * ei.size)).run P w = .ok u w → (part e ys.toArray (j * ei.size)).run P w = .ok v w → (Op.equalIn k e u v).run P w = .ok q w → (f j s).run P w = .ok (bif q then .yield (none, ()) else .done (some false, ())) w) :
    ∀ (n i : Nat) (b : Bool), eqEs E (eqv E d) e ei.size asz bs n i = some b → (forIn (List.range' i n) (none, ()) f : Sem (Option Bool × Unit)).run P w = .ok (bif b then (none, ()) else (some false, ())) w
  | 0, i, b, h => by
    simp only [eqEs, Option.some.injEq] at h; subst h
    simp
  | n + 1, i, b, h => by
    simp only [eqEs] at h
    cases hpx : partA E e asz (i * ei.size) with
    | none => simp [hpx] at h
    | some px =>
      cases hpy : partA E e bs (i * ei.size) with
      | none => simp [hpx, hpy] at h
      | some py =>
        obtain ⟨cpx, rx, vx⟩ := partA_sound (w := w) hE hx hpx
        obtain ⟨cpy, ry, vy⟩ := partA_sound (w := w) hE hy hpy
        simp only [hpx, hpy] at h
        cases hq : eqv E d e px py with
        | none => simp [hq] at h
        | some q =>
          have hr2 := eqv_sound (w := w) hE d k e px py q cpx cpy hdk hq vx vy
          simp only [hq] at h
          simp only [List.range'_succ, List.forIn_cons, Sem.run_bind, hf i _ _ _ _ rx ry hr2, Result.andThen_ok]
          cases q with
          | false => simp only [Option.some.injEq] at h; subst h; simp
          | true => exact eqEs_sound hE hdk hx hy hf n (i + 1) b h
theorem eqArr_sound (hE : TysOk E P) {t e n : Nat} {ti ei : ATy} (hty : E.ty t = some ti) (hd : ti.d = .array n e) (he : E.ty e = some ei) {k : Nat} (hk : 5 ≤ k) {asz bs : List AV} {b : Bool} {cx cy : Value} (h : eqEs E (eqv E 5) e ei.size asz bs n 0 = some b) (hx : VRel M (.agg asz) cx) (hy : VRel M (.agg bs) cy) :
    (Op.equalIn (k + 1) t cx cy).run P w = .ok b w := by
  obtain ⟨i, td, z, ht⟩ := hE.ty t ti hty
  obtain ⟨ie, tde, ze, hte⟩ := hE.ty e ei he
  have hdd := ht.desc
  rw [hd] at hdd
  simp only [DRel] at hdd
  subst hdd
  obtain ⟨xs, rfl, hxs⟩ := hx
  obtain ⟨ys, rfl, hys⟩ := hy
  simp only [Op.equalIn, Sem.run_bind, run_und ht, Result.andThen_ok, run_size hte]
  simp only [Std.Legacy.Range.forIn_eq_forIn_range', Std.Legacy.Range.size, Nat.sub_zero, Nat.add_sub_cancel, Nat.div_one]
  rw [eqEs_sound (ei := ei) hE hk hxs hys (fun j s u v q h1 h2 h3 => by
    simp only [Sem.run_bind, h1, h2, h3, Result.andThen_ok]
    cases q <;> simp) n 0 b h]
  cases b <;> simp
theorem eqK_sound (hE : TysOk E P) {t : Nat} {x y : AV} {b : Bool} {cx cy : Value} (h : eqK E t x y = some b) (hx : VRel M x cx) (hy : VRel M y cy) : (Op.equal t cx cy).run P w = .ok b w := by
  have plain : eqv E 6 t x y = some b → (Op.equal t cx cy).run P w = .ok b w := fun h => eqv_sound hE 6 Op.maxDepth t x y b cx cy (by decide) h hx hy
  unfold eqK at h
  split at h
  · rename_i ti asz bs hty
    split at h
    · rename_i n e hd
      split at h
      case h_2 => cases h
      rename_i ei he
      exact eqArr_sound hE hty hd he (k := 9999) (by decide) h hx hy
    · exact plain h
  · exact plain h
theorem forIn_unit {α : Type} {f : α → Unit → Sem (ForInStep Unit)} : ∀ (l : List α), (∀ x ∈ l, ∀ s, (f x s).run P w = .ok (.yield ()) w) → (forIn l () f : Sem Unit).run P w = .ok () w
  | [], _ => by simp
  | x :: l, h => by
    simp only [List.forIn_cons, Sem.run_bind, h x List.mem_cons_self, Result.andThen_ok]
    exact forIn_unit l fun y hy => h y (List.mem_cons_of_mem _ hy)
theorem checkB (hE : TysOk E P) {t : Nat} (h : keyB E t = true) (em : Bool) {n : Nat} (hn : 1 ≤ n) (cv : Value) : (Instr.checkKey em n t cv).run P w = .ok () w := by
  obtain ⟨n, rfl⟩ : ∃ m, n = m + 1 := ⟨n - 1, by omega⟩
  unfold keyB at h
  split at h
  case h_2 => cases h
  rename_i ti hty
  obtain ⟨i, td, z, ht⟩ := hE.ty t ti hty
  have hd := ht.desc
  split at h <;> first | (cases h; done) | skip
  all_goals
    rename_i hq
    rw [hq] at hd
    simp only [DRel] at hd
    subst hd
    simp [Instr.checkKey, run_und ht]
theorem checkKey_sound (hE : TysOk E P) {t : Nat} {v : AV} {cv : Value} (h : keyOk E t v = true) (hv : VRel M v cv) (em : Bool) {n : Nat} (hn : 1 ≤ n) : (Instr.checkKey em (n + 1) t cv).run P w = .ok () w := by
  unfold keyOk at h
  split at h
  case h_2 => cases h
  rename_i ti hty
  obtain ⟨i, td, z, ht⟩ := hE.ty t ti hty
  have hd := ht.desc
  have agg : isAggV v = true → ∃ asz xs, v = .agg asz ∧ cv = .agg xs.toArray ∧ VRels M asz xs := fun h => by
    cases v <;> first | (cases h; done) | skip
    obtain ⟨xs, rfl, r⟩ := hv
    exact ⟨_, xs, rfl, rfl, r⟩
  split at h <;> first | (cases h; done) | skip
  case h_4 =>
    rename_i fs q hq
    rw [hq] at hd
    obtain ⟨F, rfl, hF, _⟩ := hd
    simp only [Bool.and_eq_true, List.all_eq_true] at h
    obtain ⟨asz, xs, rfl, rfl, r⟩ := agg h.1
    simp only [Instr.checkKey, Sem.run_bind, run_und ht, Result.andThen_ok]
    rw [← Array.forIn_toList]
    rw [forIn_unit F.toList]
    · simp
    intro x hx s
    have hm : (x.offset, x.type) ∈ fs := by rw [← hF]; exact List.mem_map_of_mem hx
    obtain ⟨h1, h2⟩ := h.2 _ hm
    obtain ⟨px, hp⟩ := Option.isSome_iff_exists.1 h2
    obtain ⟨cp, rp, _⟩ := partA_sound (w := w) hE r hp
    split
    · simp only [Sem.run_bind, rp, checkB hE h1 em hn, Result.andThen_ok, Sem.run_pure]
    · simp
  case h_5 =>
    rename_i len e hq
    rw [hq] at hd
    simp only [DRel] at hd
    subst hd
    split at h
    case h_2 => cases h
    rename_i ei he
    obtain ⟨ie, tde, ze, hte⟩ := hE.ty e ei he
    simp only [Bool.and_eq_true, List.all_eq_true, List.mem_range] at h
    obtain ⟨asz, xs, rfl, rfl, r⟩ := agg h.1
    simp only [Instr.checkKey, Sem.run_bind, run_und ht, Result.andThen_ok]
    simp only [Std.Legacy.Range.forIn_eq_forIn_range', Std.Legacy.Range.size, Nat.sub_zero, Nat.add_sub_cancel, Nat.div_one]
    rw [forIn_unit (List.range' 0 len)]
    · simp
    intro x hx s
    have hx' : x < len := by simpa [List.mem_range'] using hx
    obtain ⟨px, hp⟩ := Option.isSome_iff_exists.1 (h.2.2 x hx')
    obtain ⟨cp, rp, _⟩ := partA_sound (w := w) hE r hp
    simp only [Sem.run_bind, run_size hte, rp, checkB hE h.2.1 em hn, Result.andThen_ok, Sem.run_pure]
  all_goals
    rename_i hq
    rw [hq] at hd
    simp only [DRel] at hd
    subst hd
    simp [Instr.checkKey, run_und ht]
def FRelO (M : List MEnt) : Option (Nat × AV) → Option (Nat × Value) → Prop
  | none, r => r = none
  | some (i, v), r => ∃ cv, r = some (i, cv) ∧ VRel M v cv
theorem findAsking_sound (hE : TysOk E P) {t : Nat} {k : AV} {ck : Value} (hk : VRel M k ck) : ∀ {es : List (AV × AV × Nat)} {ces : List MapEntry} {i : Nat} {r : Option (Nat × AV)}, keyFind E t k es i = some r → EsRel M es ces →
    ∃ cr, (Instr.findAsking t ck ces i).run P w = .ok cr w ∧ FRelO M r cr
  | [], [], i, r, h, _ => by
    simp only [keyFind, Option.some.injEq] at h; subst h
    exact ⟨none, by simp [Instr.findAsking], rfl⟩
  | (k', v, b) :: es, e :: ces, i, r, h, ⟨r1, r2, _, r4⟩ => by
    simp only [keyFind] at h
    cases hq : eqK E t k k' with
    | none => simp [hq] at h
    | some q =>
      have he := eqK_sound (w := w) hE hq hk r1
      simp only [hq] at h
      cases q with
      | true =>
        simp only [Option.some.injEq] at h; subst h
        exact ⟨some (i, e.val), by simp [Instr.findAsking, he], e.val, rfl, r2⟩
      | false =>
        obtain ⟨cr, h1, h2⟩ := findAsking_sound hE hk h r4
        exact ⟨cr, by simp [Instr.findAsking, he, h1], h2⟩
theorem findNow_asking {t : Nat} {d : TypeDesc} {ck : Value} (hu : P.underlying t = some d) : ∀ {ces : List MapEntry} {i : Nat} {r : Option (Nat × Value)}, Instr.findNow d ck ces i = some r → (Instr.findAsking t ck ces i).run P w = .ok r w
  | [], i, r, h => by
    simp only [Instr.findNow, Option.some.injEq] at h; subst h
    simp [Instr.findAsking]
  | e :: ces, i, r, h => by
    simp only [Instr.findNow] at h
    have eqOf : ∀ q, Instr.sameNow d ck e.key = some q → (Op.equal t ck e.key).run P w = .ok q w := fun q hs => by
      generalize e.key = x at hs ⊢
      unfold Instr.sameNow at hs
      split at hs
      · split at hs
        · simp only [Option.some.injEq] at hs; subst hs
          rename_i hkk; subst hkk
          exact run_equalIn_int w 9999 t _ _ _ _ hu
        · cases hs
      · simp only [Option.some.injEq] at hs; subst hs
        have := run_equalIn_string (P := P) w 9999 t
        rw [beq_toListBytes]
        exact this _ _ hu
      · simp only [Option.some.injEq] at hs; subst hs
        exact run_equalIn_bool w 9999 t _ _ hu
      · cases hs
    split at h
    · rename_i hs
      simp only [Option.some.injEq] at h; subst h
      simp [Instr.findAsking, eqOf _ hs]
    · rename_i hs
      simp [Instr.findAsking, eqOf _ hs, findNow_asking hu h]
    · cases h
theorem findKey_sound (hE : TysOk E P) {t : Nat} {d : TypeDesc} (hu : P.underlying t = some d) {k : AV} {ck : Value} (hk : VRel M k ck) {es : List (AV × AV × Nat)} {ces : List MapEntry} {r : Option (Nat × AV)} (h : keyFind E t k es 0 = some r) (he : EsRel M es ces) :
    ∃ cr, (Instr.findKey t ck ces).run P w = .ok cr w ∧ FRelO M r cr := by
  obtain ⟨cr, h1, h2⟩ := findAsking_sound (w := w) hE hk h he
  refine ⟨cr, ?_, h2⟩
  simp only [Instr.findKey, Sem.run_bind, run_underlying hu, Result.andThen_ok]
  split
  · rename_i q hq
    rw [findNow_asking (w := w) hu hq] at h1
    simpa using h1
  · exact h1
theorem zeroV_rel {t : Nat} {ti : ATy} {i : TypeInfo} {d : TypeDesc} {z : Value} (ht : TyOk P t ti i d z) {v : AV} (h : zeroV ti = some v) : VRel M v z := zeroVal_rel ht h
theorem mapRow_sound {H : AHeap} (hr : HRel M H w) {x : AV} {cx : Value} (hx : VRel M x cx) {es : List (AV × AV × Nat)} (h : mapRow H x = some es) :
    (cx = .map none ∧ es = []) ∨ ∃ id m ces clock, x = .mapv id ∧ cx = .map (some m.block) ∧ M[id]? = some m ∧ (∃ q, H.get id = some (.mp es clock q)) ∧ w.heap[m.block]? = some (.map (List.toArray ces) clock) ∧ EsRel M es ces := by
  unfold mapRow at h
  split at h
  · simp only [Option.some.injEq] at h
    exact .inl ⟨hx, h.symm⟩
  · rename_i id
    split at h
    · rename_i es' clock q hget
      simp only [Option.some.injEq] at h
      subst h
      obtain ⟨m, hm, rfl⟩ := hx
      obtain ⟨ces, h1, h2⟩ := hr.blk hget hm
      exact .inr ⟨id, m, ces, clock, rfl, rfl, hm, ⟨q, hget⟩, h1, h2⟩
    · cases h
  · cases h
theorem lookupA_sound (hE : TysOk E P) {H : AHeap} (hr : HRel M H w) {t : TypeId} {x k : AV} {ok : Bool} {v : AV} (h : lookupA E H t x k ok = some v) {cx ck : Value} (hx : VRel M x cx) (hk : VRel M k ck) :
    ∃ cv, (Instr.lookup t cx ck ok).run P w = .ok cv w ∧ VRel M v cv := by
  unfold lookupA at h
  split at h
  case h_2 => cases h
  rename_i ti hty
  obtain ⟨i, td, z, ht⟩ := hE.ty t ti hty
  have hd := ht.desc
  split at h
  case h_2 => cases h
  rename_i kt et hq
  rw [hq] at hd
  simp only [DRel] at hd
  subst hd
  cases hko : keyOk E kt k with
  | false => simp [hko] at h
  | true =>
    simp only [hko, cond_true] at h
    split at h
    case h_2 => cases h
    rename_i es hes
    obtain ⟨kti, hkt⟩ : ∃ kti, E.ty kt = some kti := by
      unfold keyOk at hko
      split at hko
      · exact ⟨_, by assumption⟩
      · cases hko
    obtain ⟨ki, ktd, kz, hkty⟩ := hE.ty kt kti hkt
    have main : ∀ ces : List MapEntry, EsRel M es ces → ∃ cv, ((do
        Instr.checkKey ces.toArray.isEmpty 10000 kt ck
        let (v, ok') ← match ← Instr.findKey kt ck ces with
          | some (_, v) => pure (v, true)
          | none => pure (← zeroValue et, false)
        pure (if ok = true then .tuple #[v, .bool ok'] else v)) : Sem Value).run P w = .ok cv w ∧ VRel M v cv := by
      intro ces he
      simp only [Sem.run_bind, checkKey_sound hE hko hk _ (n := 9999) (by decide), Result.andThen_ok]
      split at h
      · rename_i j u hf
        obtain ⟨cr, h1, cu, rfl, h2⟩ := findKey_sound (w := w) hE hkty.und hk hf he
        simp only [Option.some.injEq] at h
        subst h
        refine ⟨if ok = true then .tuple #[cu, .bool true] else cu, by simp [h1], ?_⟩
        cases ok with
        | true => exact ⟨[cu, .bool true], rfl, h2, rfl, trivial⟩
        | false => exact h2
      · rename_i ei hf hei
        obtain ⟨cr, h1, h2⟩ := findKey_sound (w := w) hE hkty.und hk hf he
        simp only [FRelO] at h2
        subst h2
        obtain ⟨ie, etd, ez, hety⟩ := hE.ty et ei hei
        split at h
        case h_2 => cases h
        rename_i zv hz
        simp only [Option.some.injEq] at h
        subst h
        refine ⟨if ok = true then .tuple #[ez, .bool false] else ez, by simp [h1, run_zero hety], ?_⟩
        have rz := zeroV_rel (M := M) hety hz
        cases ok with
        | true => exact ⟨[ez, .bool false], rfl, rz, rfl, trivial⟩
        | false => exact rz
      · cases h
    rcases mapRow_sound hr hx hes with ⟨rfl, rfl⟩ | ⟨id, m, ces, clock, _, rfl, _, _, hb, he⟩
    · obtain ⟨cv, h1, h2⟩ := main [] trivial
      refine ⟨cv, ?_, h2⟩
      simp only [Instr.lookup, Sem.run_bind, run_und ht, Result.andThen_ok, Sem.run_pure]
      simp only [Sem.run_bind] at h1
      exact h1
    · obtain ⟨cv, h1, h2⟩ := main ces he
      refine ⟨cv, ?_, h2⟩
      have hobj : (getObj m.block).run P w = .ok (.map (List.toArray ces) clock) w := by simp [getObj, Sem.run, hb]
      simp only [Instr.lookup, Sem.run_bind, run_und ht, Result.andThen_ok, hobj, Sem.run_pure]
      simp only [Sem.run_bind] at h1
      exact h1
theorem EsRel.len : ∀ {es : List (AV × AV × Nat)} {ces : List MapEntry}, EsRel M es ces → es.length = ces.length
  | [], [], _ => rfl
  | (_, _, _) :: _, _ :: _, ⟨_, _, _, r⟩ => by simp [EsRel.len r]
theorem EsRel.append : ∀ {es es' : List (AV × AV × Nat)} {ces ces' : List MapEntry}, EsRel M es ces → EsRel M es' ces' → EsRel M (es ++ es') (ces ++ ces')
  | [], _, [], _, _, h => h
  | (_, _, _) :: _, _, _ :: _, _, ⟨a, b, c, r⟩, h => ⟨a, b, c, EsRel.append r h⟩
theorem EsRel.putAt {v : AV} {cv : Value} (hv : VRel M v cv) (ck : MapEntry → Value) : ∀ {es : List (AV × AV × Nat)} {ces : List MapEntry} (i : Nat), EsRel M es ces → (∀ e, ces[i]? = some e → ck e = e.key) → EsRel M (Vai.putAt v es i) (ces.modify i fun e => { e with key := ck e, val := cv })
  | [], [], _, _, _ => by simp [Vai.putAt, EsRel]
  | (k, u, b) :: es, e :: ces, 0, ⟨r1, _, r3, r4⟩, h => by
    have := h e (by simp)
    simp only [Vai.putAt, List.modify_zero_cons]
    exact ⟨by simp only [this]; exact r1, hv, r3, r4⟩
  | (k, u, b) :: es, e :: ces, i + 1, ⟨r1, r2, r3, r4⟩, h => by
    simp only [Vai.putAt, List.modify_succ_cons]
    exact ⟨r1, r2, r3, EsRel.putAt hv ck i r4 fun x hx => h x (by simpa using hx)⟩
theorem EsRel.keyAt : ∀ {es : List (AV × AV × Nat)} {ces : List MapEntry} {i : Nat} {k : AV}, EsRel M es ces → Vai.keyAt es i = some k → ∃ e, ces[i]? = some e ∧ VRel M k e.key
  | [], [], i, k, _, h => by cases i <;> simp [Vai.keyAt] at h
  | (k', u, b) :: es, e :: ces, 0, k, ⟨r1, _, _, _⟩, h => by
    simp only [Vai.keyAt, Option.some.injEq] at h; subst h
    exact ⟨e, by simp, r1⟩
  | (k', u, b) :: es, e :: ces, i + 1, k, ⟨_, _, _, r4⟩, h => by
    obtain ⟨x, hx, hk⟩ := EsRel.keyAt r4 (i := i) h
    exact ⟨x, by simpa using hx, hk⟩
def litV : AV → Bool
  | .int _ _ => true
  | .str _ => true
  | .bool _ => true
  | _ => false
theorem sameBits_lit (n : Nat) {v : AV} (h : litV v = true) {c : Value} (r : VRel M v c) : Instr.sameBits n c c = true := by
  cases v <;> first | (cases h; done) | skip
  all_goals
    simp only [VRel] at r
    subst r
    cases n <;> simp [Instr.sameBits, beq_toListBytes]
theorem sameBits_lits (n : Nat) : ∀ {l : List AV} {cs : List Value}, l.all litV = true → VRels M l cs → ((cs.zip cs).all fun (x, y) => Instr.sameBits n x y) = true
  | [], [], _, _ => rfl
  | a :: l, c :: cs, h, ⟨r1, r2⟩ => by
    simp only [List.all_cons, Bool.and_eq_true] at h
    simp only [List.zip_cons_cons, List.all_cons, Bool.and_eq_true]
    exact ⟨sameBits_lit n h.1 r1, sameBits_lits n h.2 r2⟩
theorem stays_lit {v : AV} (h : stays v = true) : litV v = true ∨ ∃ l, v = .agg l ∧ l.all litV = true := by
  cases v <;> first | (exact .inl rfl) | (cases h; done) | skip
  rename_i l
  refine .inr ⟨l, rfl, ?_⟩
  rw [List.all_eq_true]
  intro x hx
  have := List.all_eq_true.1 h x hx
  cases x <;> first | rfl | (cases this; done)
theorem sameBits_stays (n : Nat) {v : AV} (h : stays v = true) {c : Value} (r : VRel M v c) : Instr.sameBits (n + 1) c c = true := by
  rcases stays_lit h with h | ⟨l, rfl, h⟩
  · exact sameBits_lit _ h r
  · obtain ⟨vs, rfl, r⟩ := r
    simp only [Instr.sameBits, beq_self_eq_true, Bool.true_and]
    exact sameBits_lits n h r
theorem keyThatStays_same {v : AV} (h : stays v = true) {c : Value} (r : VRel M v c) : (Instr.keyThatStays c c).run P w = .ok c w := by
  unfold Instr.keyThatStays
  rw [if_pos (sameBits_stays 9999 h r)]
  simp
theorem litV_val {v : AV} (h : litV v = true) {c d : Value} (r : VRel M v c) (q : VRel M v d) : c = d := by
  cases v <;> first | (cases h; done) | skip
  all_goals
    simp only [VRel] at r q
    rw [r, q]
theorem lits_val : ∀ {l : List AV} {cs ds : List Value}, l.all litV = true → VRels M l cs → VRels M l ds → cs = ds
  | [], [], [], _, _, _ => rfl
  | a :: l, c :: cs, d :: ds, h, r, q => by
    simp only [List.all_cons, Bool.and_eq_true] at h
    rw [litV_val h.1 r.1 q.1, lits_val h.2 r.2 q.2]
theorem stays_val {v : AV} (h : stays v = true) {c d : Value} (r : VRel M v c) (q : VRel M v d) : c = d := by
  rcases stays_lit h with h | ⟨l, rfl, h⟩
  · exact litV_val h r q
  · obtain ⟨vs, rfl, r⟩ := r
    obtain ⟨us, rfl, q⟩ := q
    rw [lits_val h r q]
theorem updateA_sound (hE : TysOk E P) {H H' : AHeap} (hr : HRel M H w) {t : TypeId} {x k v : AV} (h : updateA E H t x k v = some H') {cx ck cv : Value} (hx : VRel M x cx) (hk : VRel M k ck) (hv : VRel M v cv) :
    ∃ w', (Instr.mapUpdate t cx ck cv).run P w = .ok () w' ∧ Ext M H w M H' w' ∧ HRel M H' w' := by
  unfold updateA at h
  split at h
  case h_2 => cases h
  rename_i ti id hty
  split at h
  case h_2 => cases h
  rename_i kt et es clock hq hget
  obtain ⟨i, td, z, ht⟩ := hE.ty t ti hty
  have hd := ht.desc
  rw [hq] at hd
  simp only [DRel] at hd
  subst hd
  cases hko : keyOk E kt k with
  | false => simp [hko] at h
  | true =>
    simp only [hko, cond_true] at h
    obtain ⟨kti, hkt⟩ : ∃ kti, E.ty kt = some kti := by
      unfold keyOk at hko
      split at hko
      · exact ⟨_, by assumption⟩
      · cases hko
    obtain ⟨ki, ktd, kz, hkty⟩ := hE.ty kt kti hkt
    obtain ⟨m, hm, rfl⟩ := hx
    obtain ⟨ces, hb, he⟩ := hr.blk hget hm
    have hblt : m.block < w.heap.size := (Array.getElem?_eq_some_iff.1 hb).1
    have hobj : (getObj m.block).run P w = .ok (.map (List.toArray ces) clock) w := by simp [getObj, Sem.run, hb]
    have hset : ∀ o : Obj, (setObj m.block o).run P w = .ok () { w with heap := w.heap.setIfInBounds m.block o } := fun o => by simp [setObj, Sem.run, hb]
    split at h
    · rename_i j u hf
      obtain ⟨cr, h1, cu, rfl, h2⟩ := findKey_sound (w := w) hE hkty.und hk hf he
      split at h
      case h_2 => cases h
      rename_i k' hk'
      simp only [Bool.cond_eq_ite, Bool.and_eq_true] at h
      split at h
      case isFalse => cases h
      rename_i hs
      simp only [Option.some.injEq] at h
      subst h
      have hkk := eqb_eq _ _ hs.2
      subst hkk
      obtain ⟨e, hce, hkey⟩ := EsRel.keyAt he hk'
      have hck := stays_val hs.1 hk hkey
      have he2 := EsRel.putAt (M := M) hv (fun _ => ck) j he (fun x hx => by rw [hce] at hx; cases hx; exact hck)
      obtain ⟨n1, n2⟩ := hr.put hget rfl hm (grown_put' w m.block (.map (List.toArray (ces.modify j fun e => { e with key := ck, val := cv })) clock)) (.mp (putAt v es j) clock false) ⟨_, by simp [hblt], he2⟩
      refine ⟨_, ?_, n2, n1⟩
      simp only [Instr.mapUpdate, Sem.run_bind, run_und ht, hobj, Result.andThen_ok, checkKey_sound hE hko hk _ (n := 9999) (by decide), h1]
      have hold : (((List.toArray ces)[j]?).map (·.key)).getD ck = ck := by simp [hce, hck]
      rw [hold, keyThatStays_same hs.1 hk]
      simp only [Result.andThen_ok, hset, List.modify_toArray]
    · rename_i hf
      obtain ⟨cr, h1, h2⟩ := findKey_sound (w := w) hE hkty.und hk hf he
      simp only [FRelO] at h2
      subst h2
      simp only [Option.some.injEq] at h
      subst h
      have he2 : EsRel M (es ++ [(k, v, clock)]) (ces ++ [({ key := ck, val := cv, born := clock } : MapEntry)]) := he.append ⟨hk, hv, rfl, trivial⟩
      obtain ⟨n1, n2⟩ := hr.put hget rfl hm (grown_put' w m.block (.map (List.toArray (ces ++ [{ key := ck, val := cv, born := clock }])) (clock + 1))) (.mp (es ++ [(k, v, clock)]) (clock + 1) false) ⟨_, by simp [hblt], he2⟩
      refine ⟨_, ?_, n2, n1⟩
      simp only [Instr.mapUpdate, Sem.run_bind, run_und ht, hobj, Result.andThen_ok, checkKey_sound hE hko hk _ (n := 9999) (by decide), h1, hset, List.push_toArray]
    · cases h
theorem memB_eq (n : Nat) : ∀ l : List Nat, memB n l = l.contains n
  | [] => rfl
  | x :: l => by
    simp only [memB, List.contains_cons, memB_eq n l]
    congr 1
    rw [Bool.eq_iff_iff, Nat.beq_eq, beq_iff_eq]; exact eq_comm
theorem unseen_rel (seen : List Nat) : ∀ {es : List (AV × AV × Nat)} {ces : List MapEntry}, EsRel M es ces → EsRel M (unseen seen es) (ces.filter fun e => !(List.toArray seen).contains e.born)
  | [], [], _ => trivial
  | (k, v, b) :: es, e :: ces, ⟨r1, r2, r3, r4⟩ => by
    have ih := unseen_rel seen r4
    simp only [unseen, memB_eq]
    have hc : (List.toArray seen).contains e.born = seen.contains b := by rw [r3]; simp
    rw [List.filter_cons, hc]
    cases seen.contains b with
    | true => simpa using ih
    | false => simp only [cond_false, Bool.not_false, if_true]; exact ⟨r1, r2, r3, ih⟩
theorem EsRel.allBorn {q : Nat → Bool} : ∀ {es : List (AV × AV × Nat)} {ces : List MapEntry}, EsRel M es ces → (ces.all fun e => q e.born) = es.all fun e => q e.2.2
  | [], [], _ => rfl
  | (_, _, b) :: es, e :: ces, ⟨_, _, r3, r4⟩ => by simp [r3, EsRel.allBorn r4]
theorem EsRel.nil_iff : ∀ {es : List (AV × AV × Nat)} {ces : List MapEntry}, EsRel M es ces → anyIn es = !ces.isEmpty
  | [], [], _ => rfl
  | (_, _, _) :: _, _ :: _, _ => rfl
theorem nextA_sound {H H' : AHeap} (hr : HRel M H w) {id : Nat} {v : AV} (h : nextA H id = some (v, H')) {m : MEnt} (hm : M[id]? = some m) (ty : TypeId) :
    ∃ cv w', (Instr.next (.pointer (some ⟨m.block, m.base + 0, none⟩)) false ty).run P w = .ok cv w' ∧ Ext M H w M H' w' ∧ HRel M H' w' ∧ VRel M v cv := by
  unfold nextA at h
  split at h
  · rename_i since seen last hget
    simp only [Option.some.injEq, Prod.mk.injEq] at h
    obtain ⟨rfl, rfl⟩ := h
    obtain ⟨c, hb, h0, hc⟩ := hr.blk hget hm
    simp only [MiRel] at hc
    subst hc
    have hobj : (getObj m.block).run P w = .ok (.mapIter none since (List.toArray seen) last) w := by simp [getObj, Sem.run, hb]
    refine ⟨_, w, ?_, Ext.refl _ _ _, hr, ⟨[.bool false], rfl, rfl, trivial⟩⟩
    rw [h0]
    simp only [Instr.next, Sem.run_bind, hobj, Result.andThen_ok, Sem.run_pure]
  · rename_i mid since seen last hget
    split at h
    case h_2 => cases h
    rename_i es clock qro hgm
    simp only [Bool.cond_eq_ite] at h
    split at h
    case isTrue => cases h
    rename_i hguard
    obtain ⟨c, hb, h0, k, hk, rfl⟩ := hr.blk hget hm
    obtain ⟨ces, hbm, he⟩ := hr.blk hgm hk
    have hobj : (getObj m.block).run P w = .ok (.mapIter (some k.block) since (List.toArray seen) last) w := by simp [getObj, Sem.run, hb]
    have hobm : (getObj k.block).run P w = .ok (.map (List.toArray ces) clock) w := by simp [getObj, Sem.run, hbm]
    have hset : ∀ o : Obj, (setObj m.block o).run P w = .ok () { w with heap := w.heap.setIfInBounds m.block o } := fun o => by simp [setObj, Sem.run, hb]
    have hg : (!(List.toArray seen).isEmpty && !(List.toArray ces).isEmpty && (List.toArray ces).all (·.born ≥ last)) = false := by
      have e1 : (!(List.toArray ces).isEmpty) = anyIn es := by rw [EsRel.nil_iff he]; simp
      have e2 : (List.toArray ces).all (fun e => decide (e.born ≥ last)) = es.all fun e => Nat.ble last e.2.2 := by
        rw [← EsRel.allBorn (q := fun b => Nat.ble last b) he]
        simp only [List.all_toArray]
        congr 1
        funext e
        rw [ble_iff]
      have e3 : (!(List.toArray seen).isEmpty) = anyIn seen := by cases seen <;> simp [anyIn]
      rw [e1, e2, e3, Bool.and_assoc]
      simpa using hguard
    have hleft := unseen_rel seen he
    have hfil : (List.toArray ces).filter (fun e => !(List.toArray seen).contains e.born) = List.toArray (ces.filter fun e => !(List.toArray seen).contains e.born) := by simp
    rw [h0]
    split at h
    · rename_i hu
      simp only [Option.some.injEq, Prod.mk.injEq] at h
      obtain ⟨rfl, rfl⟩ := h
      rw [hu] at hleft
      generalize hL : ces.filter (fun e => !(List.toArray seen).contains e.born) = L at hleft hfil
      cases L with
      | cons => exact hleft.elim
      | nil =>
        refine ⟨_, w, ?_, Ext.refl _ _ _, hr, ⟨[.bool false], rfl, rfl, trivial⟩⟩
        simp only [Instr.next, Sem.run_bind, hobj, hobm, Result.andThen_ok, hg, hfil]
        simp [choose, Sem.run, Question.forced]
    · rename_i k' v' b hu
      split at h
      case isFalse => cases h
      rename_i hlt
      rw [Nat.blt_eq] at hlt
      simp only [Option.some.injEq, Prod.mk.injEq] at h
      obtain ⟨rfl, rfl⟩ := h
      rw [hu] at hleft
      generalize hL : ces.filter (fun e => !(List.toArray seen).contains e.born) = L at hleft hfil
      match L, hleft with
      | [e], ⟨r1, r2, r3, _⟩ =>
      subst r3
      have hblt : m.block < w.heap.size := (Array.getElem?_eq_some_iff.1 hb).1
      obtain ⟨n1, n2⟩ := hr.put hget rfl hm (grown_put' w m.block (.mapIter (some k.block) since (List.toArray (seen ++ [e.born])) clock)) (.miter (some mid) since (seen ++ [e.born]) clock) ⟨some k.block, by simp [hblt], h0, k, hk, rfl⟩
      refine ⟨.tuple #[.bool true, e.key, e.val], _, ?_, n2, n1, ⟨[.bool true, e.key, e.val], rfl, rfl, r1, r2, trivial⟩⟩
      simp only [Instr.next, Sem.run_bind, hobj, hobm, Result.andThen_ok, hg, hfil]
      have hn : ¬ (since ≤ e.born) := by omega
      have f1 : [e].filter (fun x => decide (x.born < since)) = [e] := by simp [hlt]
      have f2 : [e].filter (fun x => decide (since ≤ x.born)) = [] := by simp [hn]
      simp only [List.filter_toArray, ge_iff_le, f1, f2]
      simp [choose, Sem.run, Question.forced, Sem.run_bind, hset]
    · cases h
  · cases h
theorem bornAt_sound (b : Nat) : ∀ {es : List (AV × AV × Nat)} {ces : List MapEntry} {k v : AV}, EsRel M es ces → bornAt b es = some (k, v) → ∃ e, ces.find? (fun e => e.born == b) = some e ∧ VRel M k e.key ∧ VRel M v e.val
  | [], [], _, _, _, h => by cases h
  | (k', v', c) :: es, e :: ces, k, v, ⟨r1, r2, r3, r4⟩, h => by
    simp only [bornAt, Bool.cond_eq_ite, Nat.beq_eq] at h
    split at h
    · rename_i hcb
      simp only [Option.some.injEq, Prod.mk.injEq] at h
      obtain ⟨rfl, rfl⟩ := h
      exact ⟨e, by simp [r3, hcb], r1, r2⟩
    · rename_i hcb
      obtain ⟨x, h1, h2⟩ := bornAt_sound b r4 h
      exact ⟨x, by simp [r3, hcb, h1], h2⟩
theorem lastOf_eq : ∀ {l : List Nat} {b : Nat}, lastOf l = some b → (List.toArray l).back? = some b
  | [], _, h => by cases h
  | [x], b, h => by simpa [lastOf] using h
  | x :: y :: l, b, h => by
    have := lastOf_eq (l := y :: l) h
    simpa using this
theorem entryA_sound {H : AHeap} (hr : HRel M H w) {id : Nat} {v : AV} (h : entryA H id = some v) {m : MEnt} (hm : M[id]? = some m) :
    ∃ cv, (Instr.entry (.pointer (some ⟨m.block, m.base + 0, none⟩))).run P w = .ok cv w ∧ VRel M v cv := by
  unfold entryA at h
  split at h
  case h_2 => cases h
  rename_i mid since seen stepped hget
  split at h
  case h_2 => cases h
  rename_i es clock qro b hgm hlast
  simp only [Bool.cond_eq_ite, Nat.beq_eq] at h
  split at h
  case isFalse => cases h
  rename_i hcl
  subst hcl
  split at h
  case h_2 => cases h
  rename_i k' v' hborn
  simp only [Option.some.injEq] at h
  subst h
  obtain ⟨c, hb, h0, k, hk, rfl⟩ := hr.blk hget hm
  obtain ⟨ces, hbm, he⟩ := hr.blk hgm hk
  obtain ⟨e, h1, h2, h3⟩ := bornAt_sound b he hborn
  have hobj : (getObj m.block).run P w = .ok (.mapIter (some k.block) since (List.toArray seen) clock) w := by simp [getObj, Sem.run, hb]
  have hobm : (getObj k.block).run P w = .ok (.map (List.toArray ces) clock) w := by simp [getObj, Sem.run, hbm]
  refine ⟨.tuple #[e.key, e.val], ?_, ⟨[e.key, e.val], rfl, h2, h3, trivial⟩⟩
  rw [h0]
  simp only [Instr.entry, Sem.run_bind, hobj, hobm, Result.andThen_ok, lastOf_eq hlast, bne_self_eq_false, Bool.false_eq_true, if_false, List.find?_toArray, h1, Sem.run_pure]
end
end Go.Vai
end
section
namespace Go.Vai
section
variable {E : Env} {P : Program} {M : List MEnt} {H : AHeap} {w : World}
def DfRel (M : List MEnt) : ADf → Deferred → Prop
  | .mark id, d => ∃ m, M[id]? = some m ∧ d = { target := .collected m.block, args := #[] }
  | .call f args, d => ∃ (cap asz fs : List Value), d = { target := .fn (.func f) cap.toArray, args := asz.toArray } ∧ fs = asz ++ cap ∧ VRels M args fs
theorem DfRel.mono {M M' : List MEnt} (h : M <+: M') : ∀ {x : ADf} {d : Deferred}, DfRel M x d → DfRel M' x d
  | .mark _, _, ⟨m, hm, e⟩ => ⟨m, pre_get h hm, e⟩
  | .call _ _, _, ⟨c, a, f, e, e2, r⟩ => ⟨c, a, f, e, e2, r.mono h⟩
def XRel (P : Program) (M : List MEnt) (H : AHeap) (w : World) (s : Sem Next) : ARes → Prop
  | .val v H' => ∃ cv w' M', s.run P w = .ok (.value cv) w' ∧ Ext M H w M' H' w' ∧ HRel M' H' w' ∧ VRel M' v cv
  | .skip H' => ∃ w' M', s.run P w = .ok .skip w' ∧ Ext M H w M' H' w' ∧ HRel M' H' w'
  | .panic v H' => ∃ cv, s.run P w = .halt (.panic cv) w ∧ H' = H ∧ VRel M v cv
  | .call f args => ∃ cargs : List Value, s.run P w = (callFunc f cargs.toArray).run P w ∧ VRels M args cargs
  | .ycall id args => ∃ (m : MEnt) (cargs : List Value), M[id]? = some m ∧ s.run P w = (Instr.yield m.block cargs.toArray).run P w ∧ VRels M args cargs
  | .defer f args => ∃ d, s.run P w = .ok (.defer d) w ∧ DfRel M (.call f args) d
theorem XRel.congr {s s' : Sem Next} {r : ARes} (h : s.run P w = s'.run P w) (x : XRel P M H w s' r) : XRel P M H w s r := by
  cases r <;> simp only [XRel] at x ⊢ <;> rw [h] <;> exact x
theorem xval {s : Sem Value} {v : AV} {cv : Value} (hr : HRel M H w) (h : s.run P w = .ok cv w) (r : VRel M v cv) : XRel P M H w (do pure (.value (← s))) (.val v H) :=
  ⟨cv, w, M, by simp [h], Ext.refl _ _ _, hr, r⟩
theorem xval' {s : Sem Value} {v : AV} {H' : AHeap} (h : ∃ cv w' M', s.run P w = .ok cv w' ∧ Ext M H w M' H' w' ∧ HRel M' H' w' ∧ VRel M' v cv) : XRel P M H w (do pure (.value (← s))) (.val v H') := by
  obtain ⟨cv, w', M', h1, h2, h3, h4⟩ := h
  exact ⟨cv, w', M', by simp [h1], h2, h3, h4⟩
theorem vh_some {o : Option AV} {r : ARes} (h : vh H o = some r) : ∃ v, o = some v ∧ r = .val v H := by
  cases o with
  | none => simp [vh] at h
  | some v => simp only [vh, Option.some.injEq] at h; exact ⟨v, rfl, h.symm⟩
theorem vhh_some {o : Option (AV × AHeap)} {r : ARes} (h : vhh o = some r) : ∃ v H', o = some (v, H') ∧ r = .val v H' := by
  cases o with
  | none => simp [vhh] at h
  | some p => obtain ⟨v, H'⟩ := p; simp only [vhh, Option.some.injEq] at h; exact ⟨v, H', rfl, h.symm⟩
theorem xex {s : Sem Value} {v : AV} (hr : HRel M H w) (h : ∃ cv, s.run P w = .ok cv w ∧ VRel M v cv) : XRel P M H w (do pure (.value (← s))) (.val v H) := by
  obtain ⟨cv, h1, h2⟩ := h; exact xval hr h1 h2
theorem optOpd_rel (hG : GRel E M) {fr : Tr AV} {a : Act} (hf : TRel M fr a.tmps) {x : Option Operand} {r : Option AV} (h : optOpd E fr x = some r) : ORelO M r (x.map a.eval) := by
  cases x with
  | none => simp only [optOpd, Option.some.injEq] at h; subst h; trivial
  | some x =>
    simp only [optOpd] at h
    cases ho : opd E fr x with
    | none => simp [ho] at h
    | some v => simp only [ho, Option.some.injEq] at h; subst h; exact opd_rel hG hf ho
theorem run_loadBytesI {w : World} {b : Nat} {cur : Array Value} {e : TypeId} {lo hi : Nat} (h : w.heap[b]? = some (.cells cur e (lo, hi))) : ∀ (ns : List Int) (off : Nat) (acc : ByteArray), (∀ j n, ns[j]? = some n → cur[off + j]? = some (.int .u8 n)) →
    (loadBytes ⟨b, off, none⟩ acc ns.length).run P w = .ok ⟨acc.data ++ (ns.map (fun n : Int => UInt8.ofNat n.toNat)).toArray⟩ w := by
  intro ns
  induction ns with
  | nil => intro off acc _; simp [loadBytes]
  | cons n ns ih =>
    intro off acc hc
    have h0 : w.cell? ⟨b, off, none⟩ = some (.int .u8 n) := by
      rw [cell_at h]; have := hc 0 n (by simp); simpa using this
    have := ih (off + 1) (acc.push (UInt8.ofNat n.toNat)) (fun j m hm => by have := hc (j + 1) m (by simpa using hm); rw [← this]; congr 1; omega)
    simp only [List.length_cons, loadBytes, Sem.run_bind, run_load, h0, Result.andThen_ok, addr_add]
    have e : (acc.push (UInt8.ofNat n.toNat)).data = acc.data.push (UInt8.ofNat n.toNat) := rfl
    rw [e] at this
    refine Eq.trans this ?_
    simp
theorem trimS_sound (hr : HRel M H w) {t : TypeId} {s : AV} {cs : Value} (hs : VRel M s cs) : HRel M (trimS E H t s) w ∧ Ext M H w M (trimS E H t s) w := by
  have same : HRel M H w ∧ Ext M H w M H w := ⟨hr, Ext.refl _ _ _⟩
  unfold trimS
  split
  case h_2 => exact same
  rename_i id len
  split
  case h_2 => exact same
  rename_i ti hti
  split
  case h_2 => exact same
  rename_i e hq
  split
  case h_2 => exact same
  rename_i ei n c e' g fz mk hte hget
  cases hc : (Nat.blt (len * ei.size) n && Nat.ble fz (len * ei.size)) with
  | false => exact same
  | true =>
    simp only [cond_true]
    split
    case h_2 => exact same
    rename_i vs hvs
    simp only [Bool.and_eq_true, Nat.blt_eq, Nat.ble_eq] at hc
    obtain ⟨m, cc, hm, _⟩ := hs
    obtain ⟨cur, e1, lo, hi, g1, g2, g3, g4, g5, g6, g7⟩ := hr.blk hget hm
    obtain ⟨hlen, hg⟩ := Tr.getAll_spec _ hvs
    refine hr.put hget rfl hm (grown_refl w _) _ ⟨cur, e1, lo, hi, g1, g2, by omega, g4, g5, g6, fun j u hu => ?_⟩
    rcases Tr.get_putAll vs hu with ⟨q, rfl, hq⟩ | ⟨_, hu⟩
    · have hql : q < len * ei.size := by rw [← hlen]; exact (List.getElem?_eq_some_iff.1 hq).1
      have := hg q hql
      rw [hq] at this
      obtain ⟨_, r⟩ := g7 (0 + q) u this
      exact ⟨by omega, r⟩
    · cases hu
theorem builtinA_sound (hE : TysOk E P) (hr : HRel M H w) {b : Builtin} {ts : List TypeId} {ty : TypeId} {consts : Array Bool} {args : List AV} {cargs : List Value} {r : ARes} (h : builtinA E H b ts args = some r) (ha : VRels M args cargs) :
    XRel P M H w (builtin b ts.toArray ty consts cargs.toArray) r := by
  unfold builtinA at h
  split at h
  · 
    rename_i t rest x
    match cargs, ha with
    | [cx], ⟨hx, _⟩ =>
    split at h
    case h_2 => cases h
    rename_i ti hty
    obtain ⟨i, d, z, ht⟩ := hE.ty t ti hty
    have hd := ht.desc
    split at h
    · rename_i s hq
      rw [hq] at hd; simp only [DRel] at hd; subst hd
      simp only [VRel] at hx; subst hx
      simp only [Option.some.injEq] at h; subst h
      exact xval hr (by simp [Builtin.len_, run_und ht, goInt] <;> rfl) rfl
    · rename_i e hq
      rw [hq] at hd; simp only [DRel] at hd; subst hd
      simp only [VRel] at hx; subst hx
      simp only [Option.some.injEq] at h; subst h
      exact xval hr (by simp [Builtin.len_, run_und ht, goInt] <;> rfl) rfl
    · rename_i e hq
      rw [hq] at hd; simp only [DRel] at hd; subst hd
      obtain ⟨a, c, rfl⟩ := hx
      simp only [Option.some.injEq] at h; subst h
      exact xval hr (by simp [Builtin.len_, run_und ht, goInt] <;> rfl) rfl
    · rename_i e id off n c hq
      rw [hq] at hd; simp only [DRel] at hd; subst hd
      obtain ⟨m, c', _, rfl, _⟩ := hx
      simp only [Option.some.injEq] at h; subst h
      exact xval hr (by simp [Builtin.len_, run_und ht, goInt] <;> rfl) rfl
    · rename_i n e hq
      rw [hq] at hd; simp only [DRel] at hd; subst hd
      simp only [Option.some.injEq] at h; subst h
      exact xval hr (by simp [Builtin.len_, run_und ht, goInt] <;> rfl) rfl
    · rename_i kt et hq
      rw [hq] at hd; simp only [DRel] at hd; subst hd
      simp only [VRel] at hx; subst hx
      simp only [Option.some.injEq] at h; subst h
      exact xval hr (by simp [Builtin.len_, run_und ht, goInt] <;> rfl) rfl
    · rename_i kt et id hq
      rw [hq] at hd; simp only [DRel] at hd; subst hd
      obtain ⟨m, hm, rfl⟩ := hx
      split at h
      case h_2 => cases h
      rename_i es clock qro hget
      simp only [Option.some.injEq] at h; subst h
      obtain ⟨ces, hb, he⟩ := hr.blk hget hm
      have hobj : (getObj m.block).run P w = .ok (.map (List.toArray ces) clock) w := by simp [getObj, Sem.run, hb]
      exact xval hr (by simp [Builtin.len_, run_und ht, hobj, goInt, he.len] <;> rfl) rfl
    · cases h
  · 
    rename_i t rest x
    match cargs, ha with
    | [cx], ⟨hx, _⟩ =>
    split at h
    case h_2 => cases h
    rename_i ti hty
    obtain ⟨i, d, z, ht⟩ := hE.ty t ti hty
    have hd := ht.desc
    split at h
    · rename_i e hq
      rw [hq] at hd; simp only [DRel] at hd; subst hd
      simp only [VRel] at hx; subst hx
      simp only [Option.some.injEq] at h; subst h
      exact xval hr (by simp [Builtin.cap_, run_und ht, goInt] <;> rfl) rfl
    · rename_i e id off n c hq
      rw [hq] at hd; simp only [DRel] at hd; subst hd
      obtain ⟨m, c', _, rfl, hc, _⟩ := hx
      have := hc c rfl; subst this
      simp only [Option.some.injEq] at h; subst h
      exact xval hr (by simp [Builtin.cap_, run_und ht, goInt] <;> rfl) rfl
    · cases h
  · 
    rename_i t u rest s x
    match cargs, ha with
    | [cs, cx], ⟨hs, hx, _⟩ =>
    obtain ⟨v, H', h1, rfl⟩ := vhh_some h
    obtain ⟨t1, t2⟩ := trimS_sound (E := E) (t := t) hr hs
    obtain ⟨cv, w', M', y1, y2, y3, y4⟩ := appendA_sound (ty := ty) (rest := rest) hE t1 h1 hs hx
    exact xval' ⟨cv, w', M', y1, t2.trans y2, y3, y4⟩
  · 
    rename_i t rest d s
    match cargs, ha with
    | [cd, cs], ⟨hd, hs, _⟩ =>
    obtain ⟨v, H', h1, rfl⟩ := vhh_some h
    obtain ⟨cv, w', h2, h3, h4, h5⟩ := copyA_sound hE hr h1 hd hs
    exact xval' ⟨cv, w', M, h2, h3, h4, h5⟩
  · rename_i k x k' y
    match cargs, ha with
    | [cx, cy], ⟨hx, hy, _⟩ =>
    simp only [VRel] at hx hy
    subst hx; subst hy
    simp only [Option.some.injEq] at h; subst h
    refine xval hr (cv := .int k (if y < x then y else x)) ?_ ?_
    · simp [Builtin.min_, Builtin.min2]
    · simp only [VRel, ilt_iff, Bool.cond_decide]
  · rename_i k x k' y
    match cargs, ha with
    | [cx, cy], ⟨hx, hy, _⟩ =>
    simp only [VRel] at hx hy
    subst hx; subst hy
    simp only [Option.some.injEq] at h; subst h
    refine xval hr (cv := .int k (if x < y then y else x)) ?_ ?_
    · simp [Builtin.max_, Builtin.max2]
    · simp only [VRel, ilt_iff, Bool.cond_decide]
  · 
    rename_i x
    match cargs, ha with
    | [cx], ⟨hx, _⟩ =>
    split at h
    · simp only [VRel] at hx; subst hx
      simp only [Option.some.injEq] at h; subst h
      exact xval hr (Lib.run_unsafeSliceData_nil _ _ _ _ _) rfl
    · rename_i id off len
      cases hl : Nat.beq len 0 with
      | true => simp [hl] at h
      | false =>
        simp only [hl, cond_false, Option.some.injEq] at h; subst h
        obtain ⟨m, c, hm, rfl, _, hc⟩ := hx
        have hne : c ≠ 0 := by
          have := (hc rfl).1
          intro e0; subst e0
          have : len = 0 := by omega
          subst this; simp at hl
        exact xval hr (cv := .pointer (some ⟨m.block, m.base + off, none⟩)) (Lib.run_unsafeSliceData_row _ _ _ _ _ _ hne) ⟨m, hm, rfl⟩
    · rename_i id off len c
      cases hl : Nat.beq c 0 with
      | true => simp [hl] at h
      | false =>
        simp only [hl, cond_false, Option.some.injEq] at h; subst h
        obtain ⟨m, c', hm, rfl, hc, _⟩ := hx
        have := hc c rfl; subst this
        have hne : c' ≠ 0 := by intro e0; subst e0; simp at hl
        exact xval hr (cv := .pointer (some ⟨m.block, m.base + off, none⟩)) (Lib.run_unsafeSliceData_row _ _ _ _ _ _ hne) ⟨m, hm, rfl⟩
    · cases h
  · 
    rename_i t rest id off k n
    match cargs, ha with
    | [cp, cn], ⟨hp, hn, _⟩ =>
    simp only [VRel] at hn; subst hn
    simp only [Bool.cond_eq_ite, ilt_iff, decide_eq_true_eq] at h
    split at h
    · cases h
    rename_i hn1
    split at h
    case h_2 => cases h
    rename_i ti mm c e g fz hty hget
    obtain ⟨i, d, z, ht⟩ := hE.ty t ti hty
    have hd := ht.desc
    split at h
    case h_2 => cases h
    rename_i u hq
    rw [hq] at hd; simp only [DRel] at hd; subst hd
    split at h
    case isFalse => cases h
    rename_i hcond
    simp only [Bool.and_eq_true, Nat.ble_eq] at hcond
    obtain ⟨hlies, hle, hbig⟩ := hcond
    split at h
    case h_2 => cases h
    rename_i cs hcs
    split at h
    case h_2 => cases h
    rename_i s hs
    simp only [Option.some.injEq] at h; subst h
    obtain ⟨m, hm, rfl⟩ := hp
    obtain ⟨cur, e', lo, hi, g1, g2, g3, g4, g5, g6, g7⟩ := hr.blk hget hm
    obtain ⟨rfl, hb0⟩ := g2 rfl
    obtain ⟨hlen, hget'⟩ := Tr.getAll_spec _ hcs
    rw [hb0] at g3 g7
    simp only [Nat.zero_add] at g3 g7
    have hrel : ∃ vs, VRels M cs vs ∧ vs.length = n.toNat ∧ ∀ j v, vs[j]? = some v → cur[off + j]? = some v := by
      refine ⟨(List.range n.toNat).map fun j => (cur[off + j]?).getD undef, ?_, by simp, fun j v hv => ?_⟩
      · refine VRels.of (by simp [hlen]) fun j a v ha hv => ?_
        have hj : j < n.toNat := by rw [← hlen]; exact (List.getElem?_eq_some_iff.1 ha).1
        obtain ⟨_, cv, h1, h2⟩ := g7 (off + j) a (by rw [hget' j hj]; exact ha)
        have : v = cv := by
          rw [List.getElem?_map, List.getElem?_range hj] at hv
          simp only [Option.map_some, h1, Option.getD_some, Option.some.injEq] at hv
          exact hv.symm
        rw [this]; exact h2
      · have hj : j < n.toNat := by
          have := (List.getElem?_eq_some_iff.1 hv).1
          simpa using this
        have hlt : off + j < cur.size := by omega
        rw [List.getElem?_map, List.getElem?_range hj] at hv
        simp only [Option.map_some, Option.some.injEq] at hv
        rw [Array.getElem?_eq_getElem hlt] at hv ⊢
        simpa using hv
    obtain ⟨vs, v1, v2, v3⟩ := hrel
    obtain ⟨ns, rfl, rfl⟩ := bytesA_rel hs v1
    have hns : ns.length = n.toNat := by simpa using v2
    have hload := run_loadBytesI (P := P) g1 ns off ByteArray.empty (fun j x hx => v3 j (.int .u8 x) (by simp [hx]))
    rw [hns] at hload
    have hv := lies_sound (b := m.block) hE hlies g1 g3
    have hblt : m.block < w.heap.size := (Array.getElem?_eq_some_iff.1 g1).1
    have hn0 : n.toNat ≠ 0 := by omega
    have hg' : w.grownBy (w.freeze ⟨m.block, off, none⟩ n.toNat) (some m.block) := by
      refine ⟨?_, ?_, ?_, ?_, ?_⟩
      all_goals simp only [World.freeze, hn0, if_false]
      · simp
      · intro k _ hne
        simp only [Array.getElem?_modify]
        rw [if_neg (by intro e; apply hne; rw [e])]
    have hheap : (w.freeze ⟨m.block, off, none⟩ n.toNat).heap[m.block]? = some (.cells cur e' (if lo == hi then (off, off + n.toNat) else (min lo off, max hi (off + n.toNat)))) := by
      simp [World.freeze, hn0, Array.getElem?_modify, g1]
    obtain ⟨n1, n2⟩ := hr.put hget rfl hm hg' (.cells mm c e' g (max fz (off + n.toNat)) false false) (by
      by_cases hlh : lo = hi
      · have hb : (lo == hi) = true := by simp [hlh]
        rw [hb] at hheap
        refine ⟨cur, e', off, off + n.toNat, hheap, fun _ => ⟨rfl, hb0⟩, by omega, g4, fun _ i a b _ => by omega, fun _ _ => ⟨by omega, by omega⟩, by rw [hb0]; simpa using g7⟩
      · have hb : (lo == hi) = false := by simp [hlh]
        rw [hb] at hheap
        have ghi := g6 rfl rfl
        refine ⟨cur, e', min lo off, max hi (off + n.toNat), hheap, fun _ => ⟨rfl, hb0⟩, by omega, g4, fun _ i a b d => ?_, fun _ _ => ⟨by omega, by omega⟩, by rw [hb0]; simpa using g7⟩
        by_cases h1 : lo ≤ i ∧ i < hi
        · have := g5 rfl i h1.1 h1.2 d; omega
        · by_cases h2 : i < off + n.toNat
          · omega
          · have h3 : i < hi := by omega
            have h4 : i < lo := by omega
            have := g5 rfl lo (Nat.le_refl _) (by omega) (by omega)
            omega)
    refine xval' ⟨.string ⟨⟨ns.map (fun n : Int => UInt8.ofNat n.toNat)⟩⟩, _, M, ?_, n2, n1, rfl⟩
    have hnn : ¬ n < 0 := by omega
    have hmx : IntKind.i64.max = 9223372036854775807 := rfl
    have hmax : n ≤ 9223372036854775807 := by
      have : (n.toNat : Int) = n := Int.toNat_of_nonneg (by omega)
      omega
    have hne0 : ¬ n = 0 := by omega
    have hel : (elemOf t).run P w = .ok u w := by simp [elemOf, run_und ht]
    have hdef : ∀ (o : Nat) (pts : List TypeId), Builtin.unsafeString_ (t :: pts).toArray ty #[.pointer (some ⟨m.block, o, none⟩), .int k n] =
        (do
          let n ← asInt (.int k n)
          if n < 0 then runtimePanic (.error "unsafe.String: len out of range")
          if n > IntKind.i64.max then unsupported (.unsafePointer "String: a length above the largest int")
          if n = 0 then pure (.string .empty)
          else if ← variablesAt ⟨m.block, o, none⟩ (← elemOf t) n.toNat then do
            let s ← loadBytes ⟨m.block, o, none⟩ .empty n.toNat
            freeze ⟨m.block, o, none⟩ n.toNat
            pure (.string s)
          else unsupported (.unsafePointer "String: not so many bytes at ptr")) := fun _ _ => rfl
    have hz : m.base + off = off := by omega
    rw [hz]
    show (Builtin.unsafeString_ (t :: rest).toArray ty #[.pointer (some ⟨m.block, off, none⟩), .int k n]).run P w = _
    rw [hdef]
    simp [asInt, asIntOf, hnn, hmx, hmax, hne0, hel, hv, hload]
  · cases h
theorem map_eval (a : Act) (xs : Array Operand) : xs.map a.eval = (xs.toList.map a.eval).toArray := by
  apply Array.ext'; simp
theorem parts_eval' (a : Act) (xs : Array (Nat × Operand)) : (xs.map fun (i, x) => (i, a.eval x)) = ((xs.toList.map fun p => (p.1, a.eval p.2))).toArray := by
  apply Array.ext'; simp
theorem grown_put (w : World) (b : Nat) (o : Obj) : w.grownBy { w with heap := w.heap.setIfInBounds b o } (some b) :=
  ⟨rfl, rfl, rfl, by simp, fun k _ hne => by
    simp only [Array.getElem?_setIfInBounds]
    rw [if_neg (by intro e; apply hne; rw [e])]⟩
set_option maxHeartbeats 1000000 in
theorem execA_sound (hE : TysOk E P) (hG : GRel E M) (hr : HRel M H w) {fr : Tr AV} {a : Act} (hf : TRel M fr a.tmps) {o : Oper} {r : ARes} (h : execA E H fr o = some r) : XRel P M H w (execOp a.eval o) r := by
  unfold execA at h
  unfold execOp
  split at h
  case h_1 x hop =>
    rw [hop]
    obtain ⟨v, hv, rfl⟩ := vh_some h
    exact xval hr (s := pure (a.eval x)) rfl (opd_rel hG hf hv)
  case h_2 x hop =>
    rw [hop]
    obtain ⟨v, hv, rfl⟩ := vh_some h
    exact xval hr (s := pure (a.eval x)) rfl (opd_rel hG hf hv)
  case h_3 c x y hop =>
    rw [hop]
    split at h
    · rename_i hc
      have := opd_rel hG hf hc
      simp only [VRel] at this
      obtain ⟨v, hv, rfl⟩ := vh_some h
      exact ⟨_, w, M, by simp [this, asBool] <;> rfl, Ext.refl _ _ _, hr, opd_rel hG hf hv⟩
    · rename_i hc
      have := opd_rel hG hf hc
      simp only [VRel] at this
      obtain ⟨v, hv, rfl⟩ := vh_some h
      exact ⟨_, w, M, by simp [this, asBool] <;> rfl, Ext.refl _ _ _, hr, opd_rel hG hf hv⟩
    · cases h
  case h_4 e hop =>
    rw [hop]
    split at h
    case h_2 => cases h
    rename_i ti hty
    simp only [Option.some.injEq] at h
    subst h
    obtain ⟨i, d, z, ht⟩ := hE.ty e ti hty
    obtain ⟨n1, n2⟩ := newRow_sound hr e (ht.zrel.mono (List.nil_prefix (l := M)))
    refine xval' ⟨_, _, _, ?_, n2, n1, ⟨_, newAt hr _, rfl⟩⟩
    simp [Instr.alloc, run_zero ht, newVar, newRow] <;> rfl
  case h_5 e x hop =>
    rw [hop]
    split at h
    case h_2 => cases h
    rename_i v hv
    simp only [Bool.cond_eq_ite] at h
    split at h
    case isFalse => cases h
    simp only [Option.some.injEq] at h
    subst h
    obtain ⟨n1, n2⟩ := newRow_sound hr e (opd_rel hG hf hv).cells
    refine xval' ⟨_, _, _, ?_, n2, n1, ⟨_, newAt hr _, rfl⟩⟩
    simp [Instr.box, newVar, newRow] <;> rfl
  case h_6 t ps hop =>
    rw [hop]
    split at h
    case h_2 => cases h
    rename_i l hl
    obtain ⟨v, hv, rfl⟩ := vh_some h
    obtain ⟨p1, p2⟩ := partsA_rel hG hf hl
    obtain ⟨cv, h1, h2⟩ := buildA_sound (w := w) (cps := ps.toList.map fun p => (p.1, a.eval p.2)) hE hv (by simpa [Function.comp_def] using p1) (by simpa [Function.comp_def] using p2)
    refine xval hr ?_ h2
    simp only [parts_eval']
    exact h1
  case h_7 t len ps hop =>
    rw [hop]
    split at h
    case h_2 => cases h
    rename_i l ti hl hty
    split at h
    case h_2 => cases h
    rename_i e hq
    split at h
    case h_2 => cases h
    rename_i ei hte
    simp only [Bool.cond_eq_ite, Nat.ble_eq] at h
    split at h
    case isFalse => cases h
    rename_i hb
    split at h
    case h_2 => cases h
    rename_i cs hcs
    split at h
    case isFalse => cases h
    simp only [Option.some.injEq] at h
    subst h
    obtain ⟨p1, p2⟩ := partsA_rel hG hf hl
    have := buildSlice_sound (cps := ps.toList.map fun p => (p.1, a.eval p.2)) hE hr hty hq hte hb hcs (by simpa [Function.comp_def] using p1) (by simpa [Function.comp_def] using p2)
    refine xval' ?_
    simp only [parts_eval']
    exact this
  case h_8 t x hop =>
    rw [hop]
    split at h
    case h_2 => cases h
    rename_i p hp
    obtain ⟨v, hv, rfl⟩ := vh_some h
    obtain ⟨ad, cv, h1, h2, h3⟩ := loadVar_sound hE hr (opd_rel hG hf hp) hv
    exact xval hr (by simp [Instr.loadAt, h1, Instr.sureAddr, h2]) h3
  case h_9 t x y hop =>
    rw [hop]
    split at h
    case h_2 => cases h
    rename_i p v hp hv
    split at h
    case h_2 => cases h
    rename_i H' hs
    simp only [Option.some.injEq] at h
    subst h
    obtain ⟨ad, w', h1, h2, h3, h4⟩ := storeVar_sound hE hr (opd_rel hG hf hp) (opd_rel hG hf hv) hs
    exact ⟨w', M, by simp [Instr.storeAt, h1, Instr.sureAddr, h2], h4, h3⟩
  case h_10 x hop =>
    rw [hop]
    split at h
    · rename_i i off hp
      have r := opd_rel hG hf hp
      simp only [Option.some.injEq] at h; subst h
      have r' := r
      obtain ⟨m, hm, e⟩ := r
      refine ⟨_, w, M, by simp only [e]; rfl, Ext.refl _ _ _, hr, ⟨m, hm, rfl⟩⟩
    · rename_i f a' b' hp
      have r := opd_rel hG hf hp
      simp only [Option.some.injEq] at h; subst h
      obtain ⟨fs, cs, e, r1, r2⟩ := r
      refine ⟨_, w, M, by simp only [e]; rfl, Ext.refl _ _ _, hr, ⟨fs, cs, rfl, r1, r2⟩⟩
    · rename_i t v hp
      have r := opd_rel hG hf hp
      simp only [Option.some.injEq] at h; subst h
      obtain ⟨y, e, r1⟩ := r
      refine ⟨_, w, M, by simp only [e]; rfl, Ext.refl _ _ _, hr, ⟨y, rfl, r1⟩⟩
    · cases h
  case h_11 op t x y yt hop =>
    rw [hop]
    split at h
    · rename_i hx hy
      simp only [Bool.cond_eq_ite] at h
      split at h
      case isFalse => cases h
      rename_i hc
      obtain ⟨v, hv, rfl⟩ := vh_some h
      exact xex hr (binA_sound hE hv (opd_rel hG hf hx) (opd_rel hG hf hy) (fun _ _ => hc))
    · rename_i p q hne hx hy
      obtain ⟨v, hv, rfl⟩ := vh_some h
      exact xex hr (binA_sound hE hv (opd_rel hG hf hx) (opd_rel hG hf hy) (fun e1 e2 => (hne e1 e2).elim))
    · cases h
  case h_12 op t x hop =>
    rw [hop]
    split at h
    case h_2 => cases h
    rename_i p hp
    obtain ⟨v, hv, rfl⟩ := vh_some h
    exact xex hr (unA_sound hv (opd_rel hG hf hp))
  case h_13 s d x hop =>
    rw [hop]
    split at h
    case h_2 => cases h
    rename_i p hp
    split at h
    · rename_i v hv
      simp only [Option.some.injEq] at h; subst h
      exact xex hr (convertU_sound hE hr hv (opd_rel hG hf hp))
    · obtain ⟨v, H', hv, rfl⟩ := vhh_some h
      exact xval' (convertA_sound hE hr hv (opd_rel hG hf hp))
  case h_14 t x hop =>
    rw [hop]
    split at h
    case h_2 => cases h
    rename_i p ti hp hty
    obtain ⟨i, d, z, ht⟩ := hE.ty t ti hty
    have hd := ht.desc
    split at h
    · cases h
    rename_i hni
    simp only [Option.some.injEq] at h
    subst h
    have hd' : ∀ ms, d ≠ .interface ms := by
      intro ms e
      subst e
      cases hq : ti.d <;> rw [hq] at hd <;> simp_all [DRel]
    refine xval hr (cv := .iface t (a.eval x)) ?_ ⟨_, rfl, opd_rel hG hf hp⟩
    simp only [Instr.makeInterface, Sem.run_bind, run_und ht, Result.andThen_ok]
    cases d <;> first | rfl | exact absurd rfl (hd' _)
  case h_15 f x y hop =>
    rw [hop]
    split at h
    case h_2 => cases h
    rename_i l m hl hm
    simp only [Option.some.injEq] at h
    subst h
    refine xval hr (cv := .func (.func f) (x.map a.eval) (y.map a.eval)) rfl ⟨x.toList.map a.eval, y.toList.map a.eval, ?_, opds_rel hG hf hl, opds_rel hG hf hm⟩
    rw [map_eval, map_eval]
  case h_16 t l c hop =>
    rw [hop]
    split at h
    case h_2 => cases h
    rename_i k1 l' k2 c' ti hl hc hty
    split at h
    case h_2 => cases h
    rename_i e hq
    split at h
    case h_2 => cases h
    rename_i ei hte
    simp only [Bool.cond_eq_ite, Bool.and_eq_true, Bool.not_eq_true', ilt_iff, decide_eq_false_iff_not] at h
    split at h
    case isFalse => cases h
    rename_i hcond
    simp only [Option.some.injEq] at h
    subst h
    have r1 := opd_rel hG hf hl
    have r2 := opd_rel hG hf hc
    simp only [VRel] at r1 r2
    refine xval' ?_
    rw [r1, r2]
    exact makeSlice_sound hE hr hty hq hte hcond.1 hcond.2.1 hcond.2.2
  case h_17 t x lo hi mx hop =>
    rw [hop]
    split at h
    case h_2 => cases h
    rename_i p l h' m hp hl hh hm
    obtain ⟨v, hv, rfl⟩ := vh_some h
    exact xex hr (sliceA_sound hE hr hv (opd_rel hG hf hp) (optOpd_rel hG hf hl) (optOpd_rel hG hf hh) (optOpd_rel hG hf hm))
  case h_18 t x f hop =>
    rw [hop]
    split at h
    case h_2 => cases h
    rename_i p hp
    obtain ⟨v, hv, rfl⟩ := vh_some h
    exact xex hr (fieldAddrA_sound hE hv (opd_rel hG hf hp))
  case h_19 t x f hop =>
    rw [hop]
    split at h
    case h_2 => cases h
    rename_i p hp
    obtain ⟨v, hv, rfl⟩ := vh_some h
    exact xex hr (fieldA_sound hE hv (opd_rel hG hf hp))
  case h_20 t x i hop =>
    rw [hop]
    split at h
    case h_2 => cases h
    rename_i p q hp hq
    obtain ⟨v, hv, rfl⟩ := vh_some h
    exact xex hr (indexAddrA_sound hE hv (opd_rel hG hf hp) (opd_rel hG hf hq))
  case h_21 t x i hop =>
    rw [hop]
    split at h
    case h_2 => cases h
    rename_i p q hp hq
    obtain ⟨v, hv, rfl⟩ := vh_some h
    exact xex hr (indexA_sound hE hv (opd_rel hG hf hp) (opd_rel hG hf hq))
  case h_22 x xt t ok hop =>
    rw [hop]
    split at h
    case h_2 => cases h
    rename_i p hp
    obtain ⟨v, hv, rfl⟩ := vh_some h
    exact xex hr (typeAssertA_sound hE hv (opd_rel hG hf hp))
  case h_23 x i hop =>
    rw [hop]
    split at h
    case h_2 => cases h
    rename_i vs hp
    split at h
    case h_2 => cases h
    rename_i v hv
    simp only [Option.some.injEq] at h
    subst h
    exact xex hr (extract_sound (opd_rel hG hf hp) hv)
  case h_24 x hop =>
    rw [hop]
    split at h
    case h_2 => cases h
    rename_i t v hp
    simp only [Option.some.injEq] at h
    subst h
    have r := opd_rel hG hf hp
    obtain ⟨y, e, r1⟩ := r
    exact ⟨.iface t y, by simp [e, Instr.panic], rfl, ⟨y, rfl, r1⟩⟩
  case h_25 t x hop =>
    rw [hop]
    split at h
    · rename_i str ti hp hty
      obtain ⟨i, d, z, ht⟩ := hE.ty t ti hty
      have hd := ht.desc
      split at h
      case h_2 => cases h
      rename_i hq
      rw [hq] at hd; simp only [DRel] at hd; subst hd
      simp only [Option.some.injEq] at h
      subst h
      have r := opd_rel hG hf hp
      simp only [VRel] at r
      obtain ⟨n1, n2⟩ := hr.new (World.grownBy_alloc w (.stringIter ⟨⟨str⟩⟩ 0) none) (.siter str 0) ⟨w.heap.size, 0, 0, 0⟩ (Nat.le_refl _) ⟨by rw [World.alloc]; simp, rfl⟩
      refine xval' ⟨_, _, _, ?_, n2, n1, ⟨⟨w.heap.size, 0, 0, 0⟩, by rw [← hr.len]; simp, rfl⟩⟩
      simp [Instr.range, run_und ht, r] <;> rfl
    · rename_i ti hp hty
      obtain ⟨i, d, z, ht⟩ := hE.ty t ti hty
      have hd := ht.desc
      split at h
      case h_2 => cases h
      rename_i kt et hq
      rw [hq] at hd; simp only [DRel] at hd; subst hd
      simp only [Option.some.injEq] at h
      subst h
      have r := opd_rel hG hf hp
      simp only [VRel] at r
      obtain ⟨n1, n2⟩ := hr.new (World.grownBy_alloc w (.mapIter none 0 #[] 0) none) (.miter none 0 [] 0) ⟨w.heap.size, 0, 0, 0⟩ (Nat.le_refl _) ⟨none, by rw [World.alloc]; simp, rfl, rfl⟩
      refine xval' ⟨_, _, _, ?_, n2, n1, ⟨⟨w.heap.size, 0, 0, 0⟩, by rw [← hr.len]; simp, rfl⟩⟩
      simp [Instr.range, run_und ht, r] <;> rfl
    · rename_i id ti hp hty
      obtain ⟨i, d, z, ht⟩ := hE.ty t ti hty
      have hd := ht.desc
      split at h
      case h_2 => cases h
      rename_i kt et es clock qro hq hget
      rw [hq] at hd; simp only [DRel] at hd; subst hd
      simp only [Option.some.injEq] at h
      subst h
      obtain ⟨m, hm, r⟩ := opd_rel hG hf hp
      obtain ⟨ces, hb, he⟩ := hr.blk hget hm
      have hobj : (getObj m.block).run P w = .ok (.map (List.toArray ces) clock) w := by simp [getObj, Sem.run, hb]
      obtain ⟨n1, n2⟩ := hr.new (World.grownBy_alloc w (.mapIter (some m.block) clock #[] clock) none) (.miter (some id) clock [] clock) ⟨w.heap.size, 0, 0, 0⟩ (Nat.le_refl _) ⟨some m.block, by rw [World.alloc]; simp, rfl, m, pre_get (List.prefix_append _ _) hm, rfl⟩
      refine xval' ⟨_, _, _, ?_, n2, n1, ⟨⟨w.heap.size, 0, 0, 0⟩, by rw [← hr.len]; simp, rfl⟩⟩
      simp only [Instr.range, run_und ht, r, Sem.run_bind, hobj, Result.andThen_ok, Sem.run_pure, run_newObj]
      rfl
    · cases h
  case h_26 x hop =>
    rw [hop]
    split at h
    case h_2 => cases h
    rename_i id hp
    split at h
    case h_2 => cases h
    rename_i str pos hget
    obtain ⟨m, hm, e⟩ := opd_rel hG hf hp
    obtain ⟨hb, h0⟩ := hr.blk hget hm
    have hobj : (getObj m.block).run P w = .ok (.stringIter ⟨⟨str⟩⟩ pos) w := by simp [getObj, Sem.run, hb]
    rw [h0] at e
    split at h
    · rename_i hn
      simp only [Option.some.injEq] at h
      subst h
      rw [nth_eq, List.getElem?_eq_none_iff] at hn
      refine xval hr (cv := .tuple #[.bool false]) ?_ ⟨[.bool false], rfl, rfl, trivial⟩
      have hsz : ¬ pos < ByteArray.size ⟨⟨str⟩⟩ := by show ¬ pos < str.length; omega
      simp only [e, Instr.next, Sem.run_bind, hobj, Result.andThen_ok, if_neg hsz, Sem.run_pure]
    · rename_i b hn
      rw [nth_eq] at hn
      simp only [Bool.cond_eq_ite, Nat.blt_eq] at h
      split at h
      case isFalse => cases h
      rename_i hlt
      simp only [Option.some.injEq] at h
      subst h
      have hpos : pos < str.length := (List.getElem?_eq_some_iff.1 hn).1
      have hsz : pos < ByteArray.size ⟨⟨str⟩⟩ := hpos
      have hblt : m.block < w.heap.size := (Array.getElem?_eq_some_iff.1 hb).1
      obtain ⟨n1, n2⟩ := hr.put hget rfl hm (grown_put w m.block (.stringIter ⟨⟨str⟩⟩ (pos + 1))) (.siter str (pos + 1)) ⟨by simp [hblt], h0⟩
      have hdec : Utf8.decode ⟨⟨str⟩⟩ pos = (b.toNat, 1) := by
        have h1 : (ByteArray.get! ⟨⟨str⟩⟩ (pos + 0)).toNat = b.toNat := by
          show ((⟨str⟩ : Array UInt8)[pos + 0]!).toNat = _
          have : (⟨str⟩ : Array UInt8)[pos + 0]! = b := by
            simp only [Nat.add_zero]
            rw [getElem!_def]
            have : (⟨str⟩ : Array UInt8)[pos]? = some b := by simpa using hn
            rw [this]
          rw [this]
        unfold Utf8.decode
        simp only [h1]
        rw [if_pos hlt]
      refine xval' ⟨.tuple #[.bool true, goInt pos, .int .i32 b.toNat], { w with heap := w.heap.setIfInBounds m.block (.stringIter ⟨⟨str⟩⟩ (pos + 1)) }, M, ?_, n2, n1, ⟨[.bool true, goInt pos, .int .i32 b.toNat], rfl, rfl, rfl, rfl, trivial⟩⟩
      simp only [e, Instr.next, Sem.run_bind, hobj, Result.andThen_ok, if_pos hsz, hdec, Sem.run_pure]
      simp [setObj, Sem.run, hb]
  case h_27 x hop =>
    rw [hop]
    split at h
    case h_2 => cases h
    rename_i id hp
    obtain ⟨v, H', hn, rfl⟩ := vhh_some h
    obtain ⟨m, hm, e⟩ := opd_rel hG hf hp
    obtain ⟨cv, w', h1, h2, h3, h4⟩ := nextA_sound hr hn hm o.type
    exact xval' ⟨cv, w', M, by rw [e]; exact h1, h2, h3, h4⟩
  case h_28 x hop =>
    rw [hop]
    split at h
    case h_2 => cases h
    rename_i id hp
    obtain ⟨v, hn, rfl⟩ := vh_some h
    obtain ⟨m, hm, e⟩ := opd_rel hG hf hp
    obtain ⟨cv, h1, h2⟩ := entryA_sound hr hn hm
    exact xex hr ⟨cv, by rw [e]; exact h1, h2⟩
  case h_29 t hop =>
    rw [hop]
    simp only [Option.some.injEq] at h
    subst h
    obtain ⟨n1, n2⟩ := hr.new (World.grownBy_alloc w (.map #[] 0) none) (.mp [] 0 false) ⟨w.heap.size, 0, 0, 0⟩ (Nat.le_refl _) ⟨[], by rw [World.alloc]; simp, trivial⟩
    refine xval' ⟨_, _, _, ?_, n2, n1, ⟨⟨w.heap.size, 0, 0, 0⟩, by rw [← hr.len]; simp, rfl⟩⟩
    simp [Instr.makeMap] <;> rfl
  case h_30 t x i ok hop =>
    rw [hop]
    split at h
    case h_2 => cases h
    rename_i vx vi hp hi
    obtain ⟨v, hv, rfl⟩ := vh_some h
    exact xex hr (lookupA_sound hE hr hv (opd_rel hG hf hp) (opd_rel hG hf hi))
  case h_31 t m k x hop =>
    rw [hop]
    split at h
    case h_2 => cases h
    rename_i vm vk vx hm hk hx
    split at h
    case h_2 => cases h
    rename_i H' hu
    simp only [Option.some.injEq] at h
    subst h
    obtain ⟨w', h1, h2, h3⟩ := updateA_sound hE hr hu (opd_rel hG hf hm) (opd_rel hG hf hk) (opd_rel hG hf hx)
    exact ⟨w', M, by simp [h1], h2, h3⟩
  case h_32 t m k x hop =>
    rw [hop]
    split at h
    case h_2 => cases h
    rename_i vm vk vx hm hk hx
    split at h
    case h_2 => cases h
    rename_i H' hu
    simp only [Option.some.injEq] at h
    subst h
    obtain ⟨w', h1, h2, h3⟩ := updateA_sound hE hr hu (opd_rel hG hf hm) (opd_rel hG hf hk) (opd_rel hG hf hx)
    exact ⟨w', M, by simp [h1], h2, h3⟩
  case h_33 c hop =>
    rw [hop]
    split at h
    · rename_i b hb
      split at h
      case h_2 => cases h
      rename_i l hl
      have := builtinA_sound (consts := c.args.map fun | .const _ => true | _ => false) (ty := o.type) hE hr h (opds_rel hG hf hl)
      refine XRel.congr ?_ this
      simp [resolve, hb, invoke, map_eval]
      rfl
    · rename_i f hb
      split at h
      · rename_i g first cap l hp hl
        simp only [Option.some.injEq] at h
        subst h
        obtain ⟨fs, cs, e, r1, r2⟩ := opd_rel hG hf hp
        refine ⟨fs ++ (c.args.toList.map a.eval ++ cs), ?_, r1.append ((opds_rel hG hf hl).append r2)⟩
        simp [resolve, hb, e, Deferred.ofValue, invoke, map_eval]
      · rename_i id l hp hl
        simp only [Option.some.injEq] at h
        subst h
        obtain ⟨m, hm, e⟩ := opd_rel hG hf hp
        refine ⟨m, c.args.toList.map a.eval, hm, ?_, opds_rel hG hf hl⟩
        simp [resolve, hb, e, Deferred.ofValue, invoke, map_eval]
      · cases h
    · cases h
  case h_34 c hop =>
    rw [hop]
    split at h
    · rename_i f hb
      split at h
      case h_2 => cases h
      rename_i g first cap l hp hl
      simp only [Option.some.injEq] at h
      subst h
      obtain ⟨fs, cs, e, r1, r2⟩ := opd_rel hG hf hp
      refine ⟨{ target := .fn (.func g) cs.toArray, args := (fs ++ c.args.toList.map a.eval).toArray }, ?_, ⟨cs, fs ++ c.args.toList.map a.eval, fs ++ (c.args.toList.map a.eval ++ cs), rfl, by simp, r1.append ((opds_rel hG hf hl).append r2)⟩⟩
      simp [resolve, hb, e, Deferred.ofValue, map_eval]
    · cases h
  case h_35 => cases h
theorem fresh_sound (hE : TysOk E P) (hG : GRel E M) {fr : Tr AV} {a : Act} (hf : TRel M fr a.tmps) {o : Oper} (hfr : freshOp o.op = true) {H1 : AHeap} {r : ARes} (h : execA E H1 fr o = some r) (w : World) :
    ∃ v cv vs e cs, r = .val v (newRowA H1 e cs) ∧ (execOp a.eval o).run P w = .ok (.value cv) { w with heap := w.heap.push (.cells (List.toArray vs) e) } ∧ VRels M cs vs ∧
      ∀ M1 : List MEnt, M1.length = H1.next → VRel (M1 ++ [⟨w.heap.size, 0, 0, 0⟩]) v cv := by
  have at_ : ∀ (M1 : List MEnt) (m : MEnt), M1.length = H1.next → (M1 ++ [m])[H1.next]? = some m := fun M1 m h => by rw [← h]; simp
  unfold execA at h
  unfold execOp
  cases hop : o.op <;> rw [hop] at h hfr <;> (try (simp only [freshOp, Bool.false_eq_true] at hfr; done)) <;> dsimp only at h ⊢
  case alloc e =>
    split at h
    case h_2 => cases h
    rename_i ti hty
    simp only [Option.some.injEq] at h
    subst h
    obtain ⟨i, d, z, ht⟩ := hE.ty e ti hty
    refine ⟨_, _, _, e, _, rfl, ?_, ht.zrel.mono (List.nil_prefix (l := M)), fun M1 hl => ⟨_, at_ M1 _ hl, rfl⟩⟩
    simp [Instr.alloc, run_zero ht, newVar, newRow] <;> rfl
  case box e x =>
    split at h
    case h_2 => cases h
    rename_i v hv
    simp only [Bool.cond_eq_ite] at h
    split at h
    case isFalse => cases h
    simp only [Option.some.injEq] at h
    subst h
    refine ⟨_, _, _, e, _, rfl, ?_, (opd_rel hG hf hv).cells, fun M1 hl => ⟨_, at_ M1 _ hl, rfl⟩⟩
    simp [Instr.box, newVar, newRow] <;> rfl
  case buildSlice t len ps =>
    split at h
    case h_2 => cases h
    rename_i l ti hl hty
    split at h
    case h_2 => cases h
    rename_i e hq
    split at h
    case h_2 => cases h
    rename_i ei hte
    simp only [Bool.cond_eq_ite, Nat.ble_eq] at h
    split at h
    case isFalse => cases h
    rename_i hb
    split at h
    case h_2 => cases h
    rename_i cs hcs
    split at h
    case isFalse => cases h
    simp only [Option.some.injEq] at h
    subst h
    obtain ⟨p1, p2⟩ := partsA_rel hG hf hl
    obtain ⟨vs, r1, r2⟩ := buildSlice_run (cps := ps.toList.map fun p => (p.1, a.eval p.2)) hE hty hq hte hb hcs (by simpa [Function.comp_def] using p1) (by simpa [Function.comp_def] using p2) w
    refine ⟨_, _, vs, e, _, rfl, ?_, r2, fun M1 hl => ⟨_, len, at_ M1 _ hl, rfl, (fun _ e => by cases e; rfl), (fun e => by cases e)⟩⟩
    simp only [parts_eval']
    simp [r1]
  case makeSlice t l c =>
    split at h
    case h_2 => cases h
    rename_i k1 l' k2 c' ti hl hc hty
    split at h
    case h_2 => cases h
    rename_i e hq
    split at h
    case h_2 => cases h
    rename_i ei hte
    simp only [Bool.cond_eq_ite, Bool.and_eq_true, Bool.not_eq_true', ilt_iff, decide_eq_false_iff_not] at h
    split at h
    case isFalse => cases h
    rename_i hcond
    simp only [Option.some.injEq] at h
    subst h
    have r1 := opd_rel hG hf hl
    have r2 := opd_rel hG hf hc
    simp only [VRel] at r1 r2
    obtain ⟨vs, q1, q2⟩ := makeSlice_run hE M hty hq hte hcond.1 hcond.2.1 hcond.2.2 w (k1 := k1) (k2 := k2)
    refine ⟨_, _, vs, e, _, rfl, ?_, q2, fun M1 hl => ⟨_, c'.toNat, at_ M1 _ hl, rfl, (fun _ e => by cases e; rfl), (fun e => by cases e)⟩⟩
    rw [r1, r2]
    simp [q1]
end
end Go.Vai
end
