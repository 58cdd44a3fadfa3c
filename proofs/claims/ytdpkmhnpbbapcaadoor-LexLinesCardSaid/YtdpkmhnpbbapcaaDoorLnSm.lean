/- What Lines answers, as a summary: a fault, or the rows of all lines laid anew. -/
import Derived.Test.YtdpkmhnpbbapcaaDoorLnProg
import Derived.Test.YtdpkmhnpbbapcaaDoorLnRef
namespace Go.Proofs.YtdpkmhnpbbapcaaDoor
open Go Go.Vai
noncomputable section
set_option maxRecDepth 100000
def Z40 (ws : WL) (n : Nat) : Option Nat := match ws with
  | [] => none
  | _ :: _ => some n
def Ze0 : List WL → List AObj
  | [] => []
  | [] :: r => Ze0 r
  | (w :: ws) :: r => J6 (w :: ws) :: Ze0 r
def cnt (ls : List WL) : Nat := (Ze0 ls).length
def Vm (b : Nat) : List WL → List (Option Nat)
  | [] => []
  | [] :: r => none :: Vm b r
  | (_ :: _) :: r => some b :: Vm (b + 1) r
theorem Zd3 : ∀ (ls : List WL) (b : Nat), (Vm b ls).length = ls.length
  | [], _ => rfl
  | [] :: r, b => by simp only [Vm, List.length_cons, Zd3 r]
  | (_ :: _) :: r, b => by simp only [Vm, List.length_cons, Zd3 r]
theorem Kl : ∀ (ls : List WL) (b j : Nat) (ws : WL), ls[j]? = some ws → (Vm b ls)[j]? = some (Z40 ws (b + cnt (ls.take j)))
  | [], _, _, _, h => by simp at h
  | [] :: r, b, 0, ws, h => by cases h; rfl
  | (x :: y) :: r, b, 0, ws, h => by cases h; rfl
  | [] :: r, b, j + 1, ws, h => by
    simp only [Vm, List.getElem?_cons_succ] at h ⊢
    rw [Kl r b j ws h]; rfl
  | (x :: y) :: r, b, j + 1, ws, h => by
    simp only [Vm, List.getElem?_cons_succ] at h ⊢
    rw [Kl r (b + 1) j ws h]
    show _ = some (Z40 ws (b + (cnt (r.take j) + 1)))
    rw [show b + (cnt (r.take j) + 1) = b + 1 + cnt (r.take j) by omega]
theorem Zd0 : ∀ (ls : List WL) (b : Nat), (Vm b ls).filterMap id = List.range' b (cnt ls)
  | [], _ => rfl
  | [] :: r, b => by
    show (Vm b r).filterMap id = _
    rw [Zd0 r b]; rfl
  | (x :: y) :: r, b => by
    show b :: (Vm (b + 1) r).filterMap id = List.range' b (cnt r + 1)
    rw [Zd0 r (b + 1), List.range'_succ]
theorem Zer : ∀ (ls : List WL) (j : Nat) (ws : WL), ls[j]? = some ws → ws ≠ [] → (Ze0 ls)[cnt (ls.take j)]? = some (J6 ws)
  | [], _, _, h, _ => by simp at h
  | [] :: r, 0, ws, h, hn => by cases h; exact absurd rfl hn
  | (x :: y) :: r, 0, ws, h, _ => by cases h; rfl
  | [] :: r, j + 1, ws, h, hn => Zer r j ws h hn
  | (x :: y) :: r, j + 1, ws, h, hn => Zer r j ws h hn
theorem Zey : ∀ (ls : List WL) (q : Nat) (u : AObj), (Ze0 ls)[q]? = some u → ∃ (j : Nat) (ws : WL), ls[j]? = some ws ∧ ws ≠ [] ∧ q = cnt (ls.take j) ∧ u = J6 ws
  | [], _, _, h => by simp [Ze0] at h
  | [] :: r, q, u, h => by
    obtain ⟨j, ws, h1, h2, h3, h4⟩ := Zey r q u h
    exact ⟨j + 1, ws, h1, h2, h3, h4⟩
  | (x :: y) :: r, 0, u, h => by cases h; exact ⟨0, _, rfl, by simp, rfl, rfl⟩
  | (x :: y) :: r, q + 1, u, h => by
    obtain ⟨j, ws, h1, h2, h3, h4⟩ := Zey r q u h
    exact ⟨j + 1, ws, h1, h2, by subst h3; rfl, h4⟩
theorem Zof : ∀ ls : List WL, cnt ls ≤ ls.length
  | [] => Nat.le_refl _
  | [] :: r => Nat.le_succ_of_le (Zof r)
  | (_ :: _) :: r => Nat.succ_le_succ (Zof r)
theorem Zqa {ws : WL} {n : Nat} (h : ws = []) : Z40 ws n = none := by subst h; rfl
theorem Zlt {ws : WL} {n : Nat} (h : ws ≠ []) : Z40 ws n = some n := by
  cases ws with
  | nil => exact absurd rfl h
  | cons => rfl
def Zfo (b : Nat) (ls : List WL) : List AV := List.zipWith cellV (Vm b ls) ls
theorem Zdt (b : Nat) (ls : List WL) : (Zfo b ls).length = ls.length := by
  unfold Zfo
  rw [List.length_zipWith, Zd3, Nat.min_self]
theorem Zh2 {b j : Nat} {ls : List WL} {ws : WL} (h : ls[j]? = some ws) : (Zfo b ls)[j]? = some (cellV (Z40 ws (b + cnt (ls.take j))) ws) := by
  unfold Zfo
  rw [List.getElem?_zipWith, Kl ls b j ws h, h]
def lnO (b : Nat) (ls : List WL) : List AObj := .cells ls.length (Tr.nil.putAll 0 (Zfo (b + 1) ls)) 28 (some 1) 0 false false :: Ze0 ls
theorem Zcl (b : Nat) (ls : List WL) : (lnO b ls).length = cnt ls + 1 := rfl
theorem LI.fresh {H : AHeap} {ls : List WL} (h8 : 8 ≤ H.next) (hb : H.next + ls.length + 1 < 2 ^ 40) (hf : ∀ k, H.next ≤ k → H.get k = none) : LI (news H (lnO H.next ls)) H.next (Vm (H.next + 1) ls) ls := by
  have hc := Zof ls
  have hat : ∀ k, H.next ≤ k → (news H (lnO H.next ls)).get k = (lnO H.next ls)[k - H.next]? := fun k hk => by
    rw [Zik _ _ _ (by rw [Zcl]; omega) hf, if_neg (by omega)]
  have hn : (news H (lnO H.next ls)).next = H.next + (cnt ls + 1) := by rw [Jm, Zcl]
  have hids : H.next :: (Vm (H.next + 1) ls).filterMap id = List.range' H.next (cnt ls + 1) := by rw [Zd0, List.range'_succ]
  refine ⟨Zd3 _ _, fun j ws hj => ?_, ⟨_, by rw [hat _ (Nat.le_refl _), Nat.sub_self]; rfl, fun j x ws h1 h2 => ?_⟩, by rw [hids]; exact List.nodup_range', fun i hi => ?_⟩
  · by_cases hw : ws = []
    · exact .inl ⟨hw, by rw [Kl _ _ _ _ hj, Zqa hw]⟩
    · refine .inr ⟨hw, _, by rw [Kl _ _ _ _ hj, Zlt hw], ?_⟩
      rw [hat _ (by omega), show H.next + 1 + cnt (ls.take j) - H.next = cnt (ls.take j) + 1 by omega]
      exact Zer _ _ _ hj hw
  · have hj := (List.getElem?_eq_some_iff.1 h2).1
    rw [Ws _ _ _ _ (by rw [Zdt]; omega), if_pos (by rw [Zdt]; omega), Nat.sub_zero, Zh2 h2]
    rw [Kl _ _ _ _ h2] at h1
    cases h1; rfl
  · rw [hids, List.mem_range'_1] at hi
    rw [hn]; omega
theorem Z0d : ∀ (ids : List (Option Nat)) (j i : Nat), ids[j]? = some (some i) → (ids.filterMap id)[((ids.take j).filterMap id).length]? = some i
  | [], _, _, h => by simp at h
  | none :: r, 0, i, h => by cases h
  | some k :: r, 0, i, h => by cases h; rfl
  | none :: r, j + 1, i, h => Z0d r j i h
  | some k :: r, j + 1, i, h => Z0d r j i h
theorem Zs7 : ∀ (ids : List (Option Nat)) (ls : List WL), ids.length = ls.length → (∀ (j : Nat) ws, ls[j]? = some ws → (ws = [] ∧ ids[j]? = some none) ∨ (ws ≠ [] ∧ ∃ i, ids[j]? = some (some i))) → (ids.filterMap id).length = cnt ls
  | [], [], _, _ => rfl
  | [], _ :: _, h, _ => by simp at h
  | _ :: _, [], h, _ => by simp at h
  | x :: ids, ws :: ls, h, hr => by
    have ih := Zs7 ids ls (by simpa using h) fun j ws2 hj => hr (j + 1) ws2 hj
    rcases hr 0 ws rfl with ⟨rfl, h2⟩ | ⟨h1, i, h2⟩
    · cases h2
      exact ih
    · cases h2
      cases ws with
      | nil => exact absurd rfl h1
      | cons a b =>
        show (ids.filterMap id).length + 1 = cnt ls + 1
        rw [ih]
theorem LI.told {H : AHeap} {o : Nat} {ids : List (Option Nat)} {ls : List WL} (h : LI H o ids ls) (hl : ls.length < 1048576) (b : Nat) : ∃ keep : List Nat, keep.Nodup ∧ (lnO b ls).length = keep.length ∧ Qu o keep b = some b ∧ ∀ (j : Nat) (x : AObj), (lnO b ls)[j]? = some x → ∃ i u, keep[j]? = some i ∧ H.get i = some u ∧ We b keep u x ∧ u.isRo = false := by
  have hpos : ∀ (j i : Nat) (ws : WL), ls[j]? = some ws → ids[j]? = some (some i) → (o :: ids.filterMap id)[cnt (ls.take j) + 1]? = some i := fun j i ws hj hi => by
    have e := Zs7 (ids.take j) (ls.take j) (by rw [List.length_take, List.length_take, h.len]) fun q ws2 hq => by
      have hq1 := (List.getElem?_eq_some_iff.1 hq).1
      rw [List.length_take] at hq1
      rw [List.getElem?_take_of_lt (by omega)] at hq ⊢
      rcases h.row q ws2 hq with h1 | ⟨h1, i, h2, _⟩
      · exact .inl h1
      · exact .inr ⟨h1, i, h2⟩
    rw [List.getElem?_cons_succ, ← e]
    exact Z0d ids j i hi
  refine ⟨o :: ids.filterMap id, h.nodup, ?_, ?_, fun j x hx => ?_⟩
  · rw [Zcl, List.length_cons, Zs7 ids ls h.len fun j ws hj => by
      rcases h.row j ws hj with h1 | ⟨h1, i, h2, _⟩
      · exact .inl h1
      · exact .inr ⟨h1, i, h2⟩]
  · exact Jy (k := 0) h.nodup rfl
  · cases j with
    | zero =>
      cases hx
      obtain ⟨T, h1, h2⟩ := h.out
      refine ⟨o, _, rfl, h1, ⟨_, rfl, fun i y hy => ?_⟩, rfl⟩
      rcases Tr.get_putAll _ hy with ⟨q, rfl, hq⟩ | ⟨_, hu⟩
      · have hql := (List.getElem?_eq_some_iff.1 hq).1
        rw [Zdt] at hql
        have hw : ls[q]? = some ls[q] := List.getElem?_eq_getElem hql
        generalize ls[q] = ws at hw
        rw [Zh2 hw] at hq
        cases hq
        rw [Nat.zero_add]
        rcases h.row q ws hw with ⟨h3, h4⟩ | ⟨h3, i, h4, _⟩
        · refine ⟨_, h2 q _ _ h4 hw, ?_⟩
          rw [Zqa h3]; rfl
        · refine ⟨_, h2 q _ _ h4 hw, ?_⟩
          rw [Zlt h3]
          have hp := Jy (b := b) h.nodup (hpos q i ws hw h4)
          simp only [cellV, X0, hp]
          rw [show b + (cnt (ls.take q) + 1) = b + 1 + cnt (ls.take q) by omega]
      · simp [Tr.get_nil] at hu
    | succ q =>
      obtain ⟨j, ws, h1, h2, rfl, rfl⟩ := Zey ls q x hx
      rcases h.row j ws h1 with ⟨h3, _⟩ | ⟨_, i, h4, h5⟩
      · exact absurd h3 h2
      · exact ⟨i, _, hpos j i ws h1 h4, h5, ⟨_, rfl, fun q y hy => ⟨y, hy, Zg4 y (wNo ws q y hy)⟩⟩, rfl⟩
def Zrx : List (List UInt8) → Nat → Option (Nat × Nat × Nat)
  | [], _ => none
  | p :: r, k => if (Ye p).2.2 = 0 then Zrx r (k + 1) else some (k + 1, (Ye p).2.1, (Ye p).2.2)
theorem Zun : ∀ (l : List (List UInt8)) (b : Nat), (∀ (j : Nat) p, l[j]? = some p → (Ye p).2.2 = 0) → Zrx l b = none
  | [], _, _ => rfl
  | p :: r, b, h => by
    unfold Zrx
    rw [if_pos (h 0 p rfl)]
    exact Zun r (b + 1) fun j q hq => h (j + 1) q hq
theorem Zuw : ∀ (l : List (List UInt8)) (b k : Nat) (p : List UInt8), l[k]? = some p → (∀ (j : Nat) q, j < k → l[j]? = some q → (Ye q).2.2 = 0) → (Ye p).2.2 ≠ 0 → Zrx l b = some (b + k + 1, (Ye p).2.1, (Ye p).2.2)
  | [], _, _, _, h, _, _ => by simp at h
  | p :: r, b, 0, q, h, _, hn => by
    cases h
    unfold Zrx
    rw [if_neg hn]
  | p :: r, b, k + 1, q, h, ho, hn => by
    unfold Zrx
    rw [if_pos (ho 0 p (by omega) rfl), Zuw r (b + 1) k q h (fun j q2 hj hq => ho (j + 1) q2 (by omega) hq) hn]
    rw [show b + 1 + k + 1 = b + (k + 1) + 1 by omega]
open Classical in
def Wa (s : List UInt8) : Option (Nat × Nat × Nat) := if Zbo s then some (0, 0, 6) else Zrx (Zl 10 s) 0
def Za7 (s : List UInt8) : List WL := Wi s (Zl 10 s).length
def Z6l (s : List UInt8) (H : AHeap) : AV × AHeap := match Wa s with
  | some (a, b, c) => (.tup [.nils, .int .i64 (.ofNat a), .int .i64 (.ofNat b), .int .i64 (.ofNat c)], H)
  | none => (.tup [.sl H.next 0 (Za7 s).length none, .int .i64 (.ofNat 0), .int .i64 (.ofNat 0), .int .i64 (.ofNat 0)], news H (lnO H.next (Za7 s)))
theorem Z06 {s : List UInt8} {v : AV} {H' : AHeap} (h : Z6x s v H') : (∃ a b c, Wa s = some (a, b, c) ∧ v = .tup [.nils, .int .i64 (.ofNat a), .int .i64 (.ofNat b), .int .i64 (.ofNat c)]) ∨
    (Wa s = none ∧ ¬ Zbo s ∧ ∃ o ids, LI H' o ids (Za7 s) ∧ v = .tup [.sl o 0 (Za7 s).length none, .int .i64 (.ofNat 0), .int .i64 (.ofNat 0), .int .i64 (.ofNat 0)]) := by
  rcases h with ⟨h1, rfl⟩ | ⟨h1, k, p, h2, h3, h4, rfl⟩ | ⟨h1, h2, o, ids, h3, rfl⟩
  · exact .inl ⟨0, 0, 6, by unfold Wa; rw [if_pos h1], rfl⟩
  · refine .inl ⟨k + 1, _, _, ?_, rfl⟩
    unfold Wa
    rw [if_neg h1, Zuw _ 0 k p h2 h3 h4, Nat.zero_add]
  · refine .inr ⟨?_, h1, o, ids, h3, ?_⟩
    · unfold Wa
      rw [if_neg h1]
      exact Zun _ _ fun j p hp => h2 j p (List.getElem?_eq_some_iff.1 hp).1 hp
    · unfold Za7
      rw [Wz (Nat.le_refl _)]
theorem Zor {s : List UInt8} (h : ¬ Zbo s) : (Za7 s).length ≤ 16384 := by
  unfold Za7
  rw [Wz (Nat.le_refl _), J0]
  exact Nat.le_of_not_lt fun h2 => h (.inr h2)
def Qe (f : Nat) : Sm := fun g args H => match args with
  | [.str s] => bif Nat.beq g f && Nat.blt (Zb s) 1048576 then some (Z6l s H) else none
  | _ => none
theorem Zp0 (f : Nat) (hB : ∀ (s : List UInt8) (cargs : List Value), s.length < 1048576 → Zq (Wq 8 0) [.str s] cargs → X6 Tryd.prog gl f cargs (Z6x s)) : Qm Tryd.prog gl (Qe f) := by
  intro g args H v H' M w cargs hs hw hr ha
  unfold Qe at hs
  split at hs
  case h_2 => cases hs
  rename_i s
  rw [Bool.cond_eq_ite] at hs
  split at hs
  case isFalse => cases hs
  rename_i hb
  rw [Bool.and_eq_true, Nat.beq_eq, Nat.blt_eq] at hb
  obtain ⟨rfl, hlen⟩ := hb
  have hp : ∀ v ∈ [AV.str s], Plain v := Z2 rfl
  have b := hB s cargs hlen (Zq.anyPlain hp ha _)
  simp only [Option.some.injEq] at hs
  unfold Z6l at hs
  cases hF : Wa s with
  | some x =>
    obtain ⟨x1, x2, x3⟩ := x
    rw [hF] at hs
    simp only [Prod.mk.injEq] at hs
    obtain ⟨rfl, rfl⟩ := hs
    refine X6.calls (os := []) b hw hr ?_
    intro v2 H2 h
    rcases Z06 h with ⟨y1, y2, y3, h1, rfl⟩ | ⟨h1, _⟩
    · rw [hF] at h1
      cases h1
      exact ⟨[], List.nodup_nil, rfl, rfl, fun j x hx => by simp at hx⟩
    · rw [hF] at h1; cases h1
  | none =>
    rw [hF] at hs
    simp only [Prod.mk.injEq] at hs
    obtain ⟨rfl, rfl⟩ := hs
    refine X6.calls (os := lnO H.next (Za7 s)) b hw hr ?_
    intro v2 H2 h
    rcases Z06 h with ⟨y1, y2, y3, h1, _⟩ | ⟨_, hnl, o, ids, h2, rfl⟩
    · rw [hF] at h1; cases h1
    · have hl := Zor hnl
      obtain ⟨keep, k1, k2, k3, k4⟩ := h2.told (by omega) H.next
      exact ⟨keep, k1, k2, by simp only [X0, V7, k3], k4⟩
theorem Yga : Qm Tryd.prog gl (Qe 6) := Zp0 6 fun _ _ hlen ha => Zec Z24 Wl Yd0 ha fun w hw => Yk.ren (Zt hw) (Jg (Z2 rfl)) (Yck (Z24 w hw) (Zt hw) hlen)
theorem Yhx : Qm Tryd.prog gl (Qe 7) := Zp0 7 fun _ _ hlen ha => Zec Z4r Wl Ydn ha fun w hw => Yk.ren (Zt hw) (Jg (Z2 rfl)) (Yev (Z4r w hw) (Zt hw) hlen)
end
end Go.Proofs.YtdpkmhnpbbapcaaDoor
