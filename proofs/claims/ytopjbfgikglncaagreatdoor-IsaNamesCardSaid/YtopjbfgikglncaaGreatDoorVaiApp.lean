/- append, copy, conversions, built rows. -/
import Derived.Test.YtopjbfgikglncaaGreatDoorVaiSl
namespace Go.Vai
section
variable {E : Env} {P : Program} {M : List MEnt} {H : AHeap} {w : World}

theorem lenA_sound {x : AV} {cx : Value} {m : Nat} (h : lenA x = some m) (hx : VRel M x cx) : (Builtin.lenOf cx).run P w = .ok m w := by
  cases x <;> simp only [lenA, Option.some.injEq] at h <;> first | (cases h; done) | skip
  · simp only [VRel] at hx; subst hx; subst h; rfl
  · simp only [VRel] at hx; subst hx; subst h; rfl
  · obtain ⟨_, _, _, rfl, _⟩ := hx; subst h; rfl
  · obtain ⟨_, _, rfl⟩ := hx; subst h; rfl

theorem byteAV_rel (s : List UInt8) : VRels M (s.map byteAV) (s.map fun b => Value.int .u8 b.toNat) := by
  induction s with
  | nil => trivial
  | cons b s ih => exact ⟨rfl, ih⟩

theorem sliceCells_sound (hr : HRel M H w) {es n : Nat} {x : AV} {cx : Value} {cs : List AV} (h : sliceCells H es n x = some cs) (hx : VRel M x cx) (hl : ∃ m, lenA x = some m ∧ n ≤ m) :
    ∃ vs, (Builtin.firstCells es n cx).run P w = .ok (List.toArray vs) w ∧ VRels M cs vs ∧ cs.length = n * es := by
  obtain ⟨m, hm, hnm⟩ := hl
  cases x <;> simp only [sliceCells] at h <;> first | (cases h; done) | skip
  case str s =>
    simp only [Bool.cond_eq_ite, Nat.beq_eq] at h
    split at h
    case isFalse => cases h
    rename_i h1
    subst h1
    simp only [Option.some.injEq] at h
    simp only [VRel] at hx
    subst hx; subst h
    simp only [lenA, Option.some.injEq] at hm
    refine ⟨(s.take n).map fun b => Value.int .u8 b.toNat, ?_, byteAV_rel _, by simp [lenU] at hm ⊢; omega⟩
    simp only [Builtin.firstCells, Sem.run_pure]
    rw [extract_mk]
    simp
  case nils =>
    simp only [Option.some.injEq] at h
    simp only [VRel] at hx
    subst hx; subst h
    simp only [lenA, Option.some.injEq] at hm
    have : n = 0 := by omega
    subst this
    exact ⟨[], by simp [Builtin.firstCells], trivial, by simp⟩
  case sl id off len cap =>
    obtain ⟨me, c, hme, rfl, _⟩ := hx
    cases ho : H.get id with
    | none => simp [ho] at h
    | some o =>
      cases o <;> simp only [ho] at h <;> first | (cases h; done) | skip
      obtain ⟨cur, e', lo, hi, vs, g1, g2, g3, g4⟩ := (hr.blk ho hme).vals h
      refine ⟨vs, ?_, g2, by rw [g2.length, g3]⟩
      have := run_loadCells' (P := P) (off := me.base + off) g1 vs g4
      rw [g3] at this
      simp [Builtin.firstCells, this]
  case sl0 =>
    obtain ⟨a, c, rfl⟩ := hx
    simp only [Bool.cond_eq_ite, Nat.beq_eq] at h
    split at h
    · rename_i hn
      subst hn
      simp only [Option.some.injEq] at h
      subst h
      exact ⟨[], by simp [Builtin.firstCells, loadCells, loadCellsFrom], trivial, by simp⟩
    · cases h

theorem growBy_le (newLen c : Nat) : Builtin.growBy newLen 4 c ≤ 3 * c + 1200 := by
  unfold Builtin.growBy Builtin.growBy Builtin.growBy Builtin.growBy Builtin.growBy
  (repeat' split) <;> omega
theorem nextcap_le (need cap : Nat) (h : cap < need) : Builtin.nextslicecap need cap ≤ 3 * need + 1200 := by
  unfold Builtin.nextslicecap
  split
  · omega
  · split
    · omega
    · have := growBy_le need cap; omega
theorem growBy_le' (newLen c : Nat) (h : c < newLen) : Builtin.growBy newLen 4 c ≤ newLen + (newLen + 768) / 4 := by
  unfold Builtin.growBy Builtin.growBy Builtin.growBy Builtin.growBy Builtin.growBy
  (repeat' split) <;> omega
theorem nextcap_le' (need cap : Nat) (h : cap < need) : Builtin.nextslicecap need cap ≤ need + (need + 768) / 4 + 512 := by
  unfold Builtin.nextslicecap
  split
  · omega
  · split
    · omega
    · have := growBy_le' need cap h; omega
theorem roomy_cases {need b : Nat} (h : roomy need b = true) : (need + 1) * (b + 1) ≤ 68719476736 ∨ (b ≤ 1000 ∧ (need + 1) * (b + 1) ≤ 211106232532992) := by
  simpa only [roomy, Bool.or_eq_true, Bool.and_eq_true, Nat.ble_eq] using h
theorem room_ok {need cap b : Nat} (h : roomy need b = true) (hc : cap < need) : ¬ (Builtin.nextslicecap need cap * b > 2 ^ 48) := by
  rcases roomy_cases h with h | ⟨hb, h⟩
  case inr =>
    have h1 := nextcap_le' need cap hc
    have h2 : 4 * (Builtin.nextslicecap need cap * b) ≤ (5 * need + 2816) * b := by
      rw [← Nat.mul_assoc]
      exact Nat.mul_le_mul_right _ (by omega)
    have h3 : (5 * need + 2816) * b ≤ 5 * ((need + 1) * (b + 1)) + 2816 * b := by
      have : need * b ≤ (need + 1) * (b + 1) := Nat.mul_le_mul (by omega) (by omega)
      rw [Nat.add_mul, Nat.mul_assoc]; omega
    have h5 : (2 : Nat) ^ 48 = 281474976710656 := by decide
    omega
  have h1 := nextcap_le need cap hc
  have h2 : Builtin.nextslicecap need cap * b ≤ (3 * need + 1200) * b := Nat.mul_le_mul_right _ h1
  have h3 : (3 * need + 1200) * b ≤ (1200 * (need + 1)) * (b + 1) := Nat.mul_le_mul (by omega) (by omega)
  have h4 : (1200 * (need + 1)) * (b + 1) = 1200 * ((need + 1) * (b + 1)) := Nat.mul_assoc _ _ _
  have h5 : (2 : Nat) ^ 48 = 281474976710656 := by decide
  omega
theorem room_small {need b : Nat} (h : roomy need b = true) : need ≤ 211106232532992 := by
  replace h := roomy_cases h
  have : (need + 1) * 1 ≤ (need + 1) * (b + 1) := Nat.mul_le_mul_left _ (by omega)
  omega

theorem zeroCells_size (z : Array Value) (n : Nat) : (Builtin.zeroCells z n).size = n * z.size := by simp [Builtin.zeroCells]

set_option maxHeartbeats 1000000 in
/-- What append does where there is room. -/
theorem run_append_fits' {t xt : TypeId} {ty : TypeId} {ti xi ei : ATy} {i1 i2 i3 : TypeInfo} {d1 d2 d3 : TypeDesc} {z1 z2 z3 : Value} {e : Nat} (ht : TyOk P t ti i1 d1 z1) (hd : d1 = .slice e) (hx : TyOk P xt xi i2 d2 z2) (hxi : (∃ e2, d2 = .slice e2) ∨ d2 = .string)
    (he : TyOk P e ei i3 d3 z3) {rest : List TypeId} {base : Option Addr} {len cap m : Nat} {x : Value} {vs : List Value} (hlen : (Builtin.lenOf x).run P w = .ok m w) (hcs : (Builtin.firstCells ei.size m x).run P w = .ok (List.toArray vs) w)
    (hfit : len + m ≤ cap) {w' : World} (hst : (match base with | some a => storeCells (a.add (len * ei.size)) vs | none => pure ()).run P w = .ok () w') :
    (Builtin.append_ (List.toArray (t :: xt :: rest)) ty #[.slice base len cap, x]).run P w = .ok (.slice base (len + m) cap) w' := by
  subst hd
  cases base with
  | none =>
    simp only [Sem.run_pure, Result.ok.injEq, true_and] at hst
    subst hst
    rcases hxi with ⟨_, rfl⟩ | rfl <;> simp [Builtin.append_, run_und ht, run_und hx, run_size he, hlen, hcs, hfit]
  | some a =>
    rcases hxi with ⟨_, rfl⟩ | rfl <;> simp [Builtin.append_, run_und ht, run_und hx, run_size he, hlen, hcs, hfit, hst]

set_option maxHeartbeats 1000000 in
theorem run_append_grows' {t xt : TypeId} {ty : TypeId} {ti xi ei : ATy} {i1 i2 i3 : TypeInfo} {d1 d2 d3 : TypeDesc} {z1 z2 z3 : Value} {e : Nat} (ht : TyOk P t ti i1 d1 z1) (hd : d1 = .slice e) (hx : TyOk P xt xi i2 d2 z2) (hxi : (∃ e2, d2 = .slice e2) ∨ d2 = .string)
    (he : TyOk P e ei i3 d3 z3) {rest : List TypeId} {base : Option Addr} {len cap m : Nat} {x : Value} {vs olds : List Value} (hlen : (Builtin.lenOf x).run P w = .ok m w)
    (hcs : (Builtin.firstCells ei.size m x).run P w.drew = .ok (List.toArray vs) w.drew) (hold : (Builtin.firstCells ei.size len (.slice base len cap)).run P w.drew = .ok (List.toArray olds) w.drew)
    (hfit : cap < len + m) (hroom : roomy (len + m) ei.bytes = true) :
    ∃ (rest' : List Value) (nc : Nat), (Builtin.append_ (List.toArray (t :: xt :: rest)) ty #[.slice base len cap, x]).run P w = .ok (.slice (some ⟨w.heap.size, 0, none⟩) (len + m) nc) (w.drew.alloc (.cells (olds ++ vs ++ rest').toArray e)) ∧
      len + m ≤ nc ∧ rest'.length = (nc - (len + m)) * ei.size := by
  subst hd
  have hsmall := room_small hroom
  have hro := room_ok hroom hfit
  rw [← he.bytes] at hro
  have hng : ¬ (len + m ≤ cap) := by omega
  refine ⟨(Builtin.zeroCells z3.cells (w.tape w.drawn (.appendCap (len + m) cap e) % (2 ^ 63 - (len + m)))).toList, (len + m) + w.tape w.drawn (.appendCap (len + m) cap e) % (2 ^ 63 - (len + m)), ?_, by omega, ?_⟩
  · have hmax' : ¬ (9223372036854775807 < (len : Int) + (m : Int)) := by omega
    rcases hxi with ⟨_, rfl⟩ | rfl
    all_goals
      simp [Builtin.append_, run_und ht, run_und hx, run_size he, hlen, hng, hmax', run_info he, hro, Question.forced, Question.cut, hcs, hold, run_zero he, newRow]
      congr 2
      apply Array.ext'
      simp
  · simp [zeroCells_size, he.zlen]


theorem grown_drew_push (w : World) (o : Obj) : w.grownBy (w.drew.alloc o) none :=
  ⟨rfl, rfl, rfl, by simp, fun k hk _ => by
    show (w.heap.push o)[k]? = w.heap[k]?
    simp [Array.getElem?_push, Nat.ne_of_lt hk]⟩

/-- A new row that may be longer than is known. -/
theorem newGrow_sound (hr : HRel M H w) (e : TypeId) {es n nc : Nat} {cs : List AV} {vs rest : List Value} (h : VRels M cs vs) (hl : cs.length = n * es) (hnc : n ≤ nc) (hrest : rest.length = (nc - n) * es) {w' : World}
    (hg : w.grownBy w' none) (hw : w'.heap[w.heap.size]? = some (.cells (vs ++ rest).toArray e)) (mk : Bool) :
    HRel (M ++ [⟨w.heap.size, 0, nc * es, es⟩]) (H.new (.cells (n * es) (Tr.nil.putAll 0 cs) e (some es) 0 false mk)) w' ∧
    Ext M H w (M ++ [⟨w.heap.size, 0, nc * es, es⟩]) (H.new (.cells (n * es) (Tr.nil.putAll 0 cs) e (some es) 0 false mk)) w' := by
  have hvl : vs.length = n * es := by rw [← h.length, hl]
  have htot : (vs ++ rest).length = nc * es := by
    rw [List.length_append, hvl, hrest, ← Nat.add_mul]; congr 1; omega
  refine hr.new hg _ _ (Nat.le_refl _) ⟨(vs ++ rest).toArray, e, 0, 0, hw, fun _ => ⟨rfl, rfl⟩, ?_, fun gs eg => ⟨by cases eg; rfl, by simp only [List.size_toArray]; exact htot.symm, rfl⟩, fun _ i a b => by omega, fun _ _ => ⟨Nat.zero_le _, Nat.le_refl _⟩, ?_⟩
  · simp only [List.size_toArray, htot, Nat.zero_add]; exact Nat.mul_le_mul_right _ hnc
  · intro i v hv
    rcases Tr.get_putAll _ hv with ⟨q, rfl, hq⟩ | ⟨_, hu⟩
    · obtain ⟨x, hx, r⟩ := h.get q v hq
      have hlt := (List.getElem?_eq_some_iff.1 hq).1
      refine ⟨by omega, x, ?_, r.mono (List.prefix_append _ _)⟩
      simp only [Nat.zero_add, List.getElem?_toArray]
      rw [List.getElem?_append_left (by omega)]
      exact hx
    · simp [Tr.get_nil] at hu

theorem append_push (vs rest : List Value) (w : World) (e : TypeId) : (w.drew.alloc (.cells (vs ++ rest).toArray e)).heap[w.heap.size]? = some (.cells (vs ++ rest).toArray e) := by
  show (w.heap.push _)[w.heap.size]? = _
  simp


theorem rep_len (z : List AV) : ∀ n, (rep z n).length = n * z.length
  | 0 => by simp [rep]
  | n + 1 => by simp [rep, rep_len z n, Nat.add_mul]; omega
theorem rep_rel {zs : List AV} {z : Array Value} (h : VRels M zs z.toList) : ∀ n, VRels M (rep zs n) (((Array.range (n * z.size)).map (z[· % z.size]!)).toList) := by
  intro n
  by_cases h0 : z.size = 0
  · have : zs = [] := List.eq_nil_of_length_eq_zero (by rw [h.length]; simpa using h0)
    subst this
    have hr : ∀ k, rep ([] : List AV) k = [] := fun k => by induction k <;> simp_all [rep]
    rw [hr, h0]
    simp
    trivial
  · refine VRels.of (by simp [rep_len, h.length]) fun i a v ha hv => ?_
    have hi : i < n * z.size := by
      have := (List.getElem?_eq_some_iff.1 ha).1
      rw [rep_len, h.length] at this
      simpa using this
    have key : ∀ n i, i < n * z.size → (rep zs n)[i]? = zs[i % z.size]? := by
      intro n
      induction n with
      | zero => intro i hi; simp at hi
      | succ n ih =>
        intro i hi
        have hzl : zs.length = z.size := by rw [h.length]; simp
        simp only [rep]
        by_cases hlt : i < z.size
        · rw [List.getElem?_append_left (by omega), Nat.mod_eq_of_lt hlt]
        · rw [Nat.add_mul] at hi
          rw [List.getElem?_append_right (by omega), hzl, ih (i - z.size) (by omega)]
          rw [← Nat.mod_eq_sub_mod (by omega)]
    rw [key n i hi] at ha
    obtain ⟨x, hx, r⟩ := h.get _ _ ha
    rw [Array.getElem?_toList] at hv hx
    simp only [Array.getElem?_map, Array.getElem?_range, hi, if_true, Option.map_some, Option.some.injEq] at hv
    rw [getElem!_def, hx] at hv
    simp only at hv
    rw [← hv]; exact r

theorem wrap_small {n : Int} (h0 : 0 ≤ n) (h1 : n < 9223372036854775808) : IntKind.i64.wrap n = n := by
  exact IntWalk.i64_in _ (by omega)

theorem zeros_room {m b s : Nat} {ib : Nat} (h : roomy m (b + s) = true) (hb : ib = b) : IntKind.i64.wrap (m : Int) = m ∧ ¬ ((281474976710656 : Int) < (m : Int) * (ib : Int)) := by
  have hs := room_small h
  refine ⟨wrap_small (by omega) (by omega), ?_⟩
  subst hb
  replace h := roomy_cases h
  have h2 : m * ib ≤ (m + 1) * (ib + s + 1) := Nat.mul_le_mul (by omega) (by omega)
  have h3 : ((m * ib : Nat) : Int) ≤ 211106232532992 := by omega
  push_cast at h3
  omega

set_option maxHeartbeats 1000000 in
theorem run_append_fitsZ {t xt : TypeId} {ty : TypeId} {ti xi ei : ATy} {i1 i2 i3 : TypeInfo} {d1 d3 : TypeDesc} {z1 z2 z3 : Value} {e : Nat} {k kx : IntKind} (ht : TyOk P t ti i1 d1 z1) (hd : d1 = .slice e) (hx : TyOk P xt xi i2 (.int k) z2)
    (he : TyOk P e ei i3 d3 z3) {rest : List TypeId} {base : Option Addr} {len cap m : Nat} (hroom : roomy m (ei.bytes + ei.size) = true)
    (hfit : len + m ≤ cap) {w' : World} (hst : (match base with | some a => storeCells (a.add (len * ei.size)) (Builtin.zeroCells z3.cells m).toList | none => pure ()).run P w = .ok () w') :
    (Builtin.append_ (List.toArray (t :: xt :: rest)) ty #[.slice base len cap, .int kx m]).run P w = .ok (.slice base (len + m) cap) w' := by
  subst hd
  obtain ⟨wm, hb⟩ := zeros_room hroom he.bytes
  have hn : ¬ ((m : Int) < 0) := by omega
  have zz : m * ei.size = 0 → Builtin.zeroCells z3.cells m = #[] := fun h0 => Array.eq_empty_of_size_eq_zero (by rw [zeroCells_size, he.zlen, h0])
  cases base with
  | none =>
    simp only [Sem.run_pure, Result.ok.injEq, true_and] at hst
    subst hst
    by_cases h0 : m * ei.size = 0
    · simp [Builtin.append_, run_und ht, run_und hx, run_size he, run_info he, asInt, asIntOf, wm, hb, hn, hfit, h0]
    · simp [Builtin.append_, run_und ht, run_und hx, run_size he, run_info he, asInt, asIntOf, wm, hb, hn, hfit, run_zero he]
  | some a =>
    by_cases h0 : m * ei.size = 0
    · rw [zz h0] at hst
      simp only [] at hst
      simp [Builtin.append_, run_und ht, run_und hx, run_size he, run_info he, asInt, asIntOf, wm, hb, hn, hfit, h0, hst]
    · simp [Builtin.append_, run_und ht, run_und hx, run_size he, run_info he, asInt, asIntOf, wm, hb, hn, hfit, h0, run_zero he, hst]

set_option maxHeartbeats 1000000 in
theorem run_append_growsZ {t xt : TypeId} {ty : TypeId} {ti xi ei : ATy} {i1 i2 i3 : TypeInfo} {d1 d3 : TypeDesc} {z1 z2 z3 : Value} {e : Nat} {k kx : IntKind} (ht : TyOk P t ti i1 d1 z1) (hd : d1 = .slice e) (hx : TyOk P xt xi i2 (.int k) z2)
    (he : TyOk P e ei i3 d3 z3) {rest : List TypeId} {base : Option Addr} {len cap m : Nat} {olds : List Value} (hroomZ : roomy m (ei.bytes + ei.size) = true)
    (hold : (Builtin.firstCells ei.size len (.slice base len cap)).run P w.drew = .ok (List.toArray olds) w.drew)
    (hfit : cap < len + m) (hroom : roomy (len + m) ei.bytes = true) :
    ∃ (rest' : List Value) (nc : Nat), (Builtin.append_ (List.toArray (t :: xt :: rest)) ty #[.slice base len cap, .int kx m]).run P w = .ok (.slice (some ⟨w.heap.size, 0, none⟩) (len + m) nc) (w.drew.alloc (.cells (olds ++ (Builtin.zeroCells z3.cells m).toList ++ rest').toArray e)) ∧
      len + m ≤ nc ∧ rest'.length = (nc - (len + m)) * ei.size := by
  subst hd
  obtain ⟨wm, hb⟩ := zeros_room hroomZ he.bytes
  have hn : ¬ ((m : Int) < 0) := by omega
  have hsmall := room_small hroom
  have hro := room_ok hroom hfit
  rw [← he.bytes] at hro
  have hng : ¬ (len + m ≤ cap) := by omega
  have zz : m * ei.size = 0 → Builtin.zeroCells z3.cells m = #[] := fun h0 => Array.eq_empty_of_size_eq_zero (by rw [zeroCells_size, he.zlen, h0])
  refine ⟨(Builtin.zeroCells z3.cells (w.tape w.drawn (.appendCap (len + m) cap e) % (2 ^ 63 - (len + m)))).toList, (len + m) + w.tape w.drawn (.appendCap (len + m) cap e) % (2 ^ 63 - (len + m)), ?_, by omega, ?_⟩
  · have hmax' : ¬ (9223372036854775807 < (len : Int) + (m : Int)) := by omega
    by_cases h0 : m * ei.size = 0
    · simp [Builtin.append_, run_und ht, run_und hx, run_size he, hng, hmax', run_info he, hro, Question.forced, Question.cut, hold, run_zero he, newRow, asInt, asIntOf, wm, hb, hn, zz h0]
      try (congr 2; apply Array.ext'; simp)
    · simp [Builtin.append_, run_und ht, run_und hx, run_size he, hng, hmax', run_info he, hro, Question.forced, Question.cut, hold, run_zero he, newRow, asInt, asIntOf, wm, hb, hn, h0]
      try (congr 2; apply Array.ext'; simp)
  · simp [zeroCells_size, he.zlen]

set_option maxHeartbeats 2000000 in
theorem appendCells_sound (hr : HRel M H w) {t xt ty : TypeId} {rest : List TypeId} {ei : ATy} {e m : Nat} {news : List AV} {vs vs' : List Value} {s v : AV} {H' : AHeap} {cs cx : Value} (hes : ei.size ≠ 0)
    (h : appendCells H e ei.size ei.bytes m news s = some (v, H')) (hs : VRel M s cs) (f2 : VRels M news vs) (f2' : VRels M news vs') (f3 : news.length = m * ei.size)
    (hF : ∀ {base : Option Addr} {len cap : Nat} {w' : World}, len + m ≤ cap → (match base with | some a => storeCells (a.add (len * ei.size)) vs | none => pure ()).run P w = .ok () w' →
      (Builtin.append_ (List.toArray (t :: xt :: rest)) ty #[.slice base len cap, cx]).run P w = .ok (.slice base (len + m) cap) w')
    (hG : ∀ {base : Option Addr} {len cap : Nat} {olds : List Value}, (Builtin.firstCells ei.size len (.slice base len cap)).run P w.drew = .ok (List.toArray olds) w.drew → cap < len + m → roomy (len + m) ei.bytes = true →
      ∃ (rest' : List Value) (nc : Nat), (Builtin.append_ (List.toArray (t :: xt :: rest)) ty #[.slice base len cap, cx]).run P w = .ok (.slice (some ⟨w.heap.size, 0, none⟩) (len + m) nc) (w.drew.alloc (.cells (olds ++ vs' ++ rest').toArray e)) ∧
      len + m ≤ nc ∧ rest'.length = (nc - (len + m)) * ei.size) :
    ∃ cv w' M', (Builtin.append_ (List.toArray (t :: xt :: rest)) ty #[cs, cx]).run P w = .ok cv w' ∧ Ext M H w M' H' w' ∧ HRel M' H' w' ∧ VRel M' v cv := by
  have hvl : vs.length = m * ei.size := by rw [← f2.length, f3]
  cases s <;> simp only [appendCells] at h <;> first | (cases h; done) | skip
  case nils =>
    simp only [VRel] at hs
    subst hs
    simp only [Bool.cond_eq_ite, Nat.beq_eq] at h
    split at h
    · rename_i hm0
      subst hm0
      simp only [Option.some.injEq, Prod.mk.injEq] at h
      obtain ⟨rfl, rfl⟩ := h
      exact ⟨_, w, M, hF (Nat.le_refl _) rfl, Ext.refl _ _ _, hr, rfl⟩
    · rename_i hm0
      split at h
      case isFalse => cases h
      rename_i hroom
      simp only [Option.some.injEq, Prod.mk.injEq] at h
      obtain ⟨rfl, rfl⟩ := h
      obtain ⟨rest', nc, hrun, hnc, hrl⟩ := hG (base := none) (len := 0) (cap := 0) (olds := []) (by simp [Builtin.firstCells]) (by omega) (by simpa using hroom)
      rw [List.nil_append] at hrun
      simp only [Nat.zero_add] at hrun hnc hrl
      obtain ⟨g1, g2⟩ := newGrow_sound hr e f2' f3 hnc hrl (grown_drew_push w _) (append_push vs' rest' w e) false
      exact ⟨_, _, _, hrun, g2, g1, ⟨_, nc, newAt hr _, by simp, (fun _ e => by cases e), fun _ => ⟨hnc, by simp, by show 0 < ei.size; omega⟩⟩⟩
  case sl id off len cap =>
    obtain ⟨me, c, hme, rfl, hc, hcn⟩ := hs
    cases cap with
    | some c0 =>
      have := hc c0 rfl; subst this
      simp only [Bool.cond_eq_ite, Nat.ble_eq] at h
      split at h
      · rename_i hfit
        split at h
        · rename_i hm0
          simp only [Nat.beq_eq] at hm0
          subst hm0
          simp only [Option.some.injEq, Prod.mk.injEq] at h
          obtain ⟨rfl, rfl⟩ := h
          have hv0 : vs = [] := List.eq_nil_of_length_eq_zero (by simpa using hvl)
          subst hv0
          exact ⟨_, w, M, hF hfit (by simp [storeCells]), Ext.refl _ _ _, hr, ⟨me, c, hme, rfl, fun _ e => by cases e; rfl, (fun e => by cases e)⟩⟩
        · split at h
          case h_2 => cases h
          rename_i n c0 e0 g fz ro mk ho
          split at h
          case isFalse => cases h
          rename_i hcond
          simp only [Bool.and_eq_true, Nat.ble_eq, Bool.not_eq_true'] at hcond
          obtain ⟨q1, q2, rfl, q4⟩ := hcond
          simp only [Option.some.injEq, Prod.mk.injEq] at h
          obtain ⟨rfl, rfl⟩ := h
          obtain ⟨cur, e', lo, hi, k1, k2, k3, k4, k5, k6, k7⟩ := hr.blk ho hme
          obtain ⟨rfl, hb0⟩ := k2 rfl
          rw [Nat.add_mul] at q1
          obtain ⟨w', cur', hrun, j1, j2, j3, j4⟩ := run_storeCells' (P := P) (me.base + off + len * ei.size) vs 0 cur w k1 (by rw [hvl]; omega)
            (fun k hk hk2 hx => by have := k5 rfl k hx.1 hx.2 (by rw [hvl] at hk2; omega); omega) (VRels.ones f2 q4)
          refine ⟨_, w', M, hF hfit (by simpa [addr_add] using hrun), ?_⟩
          have hO : ORel M me w' (.cells n (c0.putAll (off + len * ei.size) news) e' g fz false mk) := by
            refine ⟨cur', e', lo, hi, j1, fun _ => ⟨rfl, hb0⟩, by rw [j2]; exact k3, fun gs e => by rw [j2]; exact k4 gs e,
            fun _ i a b cc => k5 rfl i a b (by rw [← j2]; exact cc), fun a b => by rw [j2]; exact k6 a b, ?_⟩
            intro j u hu
            rcases Tr.get_putAll _ hu with ⟨q, rfl, hq⟩ | ⟨hj, hu⟩
            · obtain ⟨x, hx, r⟩ := f2.get q u hq
              have hql : q < m * ei.size := by rw [← f3]; exact (List.getElem?_eq_some_iff.1 hq).1
              refine ⟨by omega, x, ?_, r⟩
              rw [j3, if_pos (by rw [hvl]; omega)]
              rw [show me.base + (off + len * ei.size + q) - (me.base + off + len * ei.size + 0) = q from by omega]
              exact hx
            · obtain ⟨a, x, hx, r⟩ := k7 j u hu
              refine ⟨a, x, ?_, r⟩
              rw [j3, if_neg (by rw [hvl]; rw [f3] at hj; omega)]
              exact hx
          obtain ⟨r1, r2⟩ := hr.put ho rfl hme j4 _ hO
          exact ⟨r2, r1, ⟨me, c, hme, rfl, fun _ e => by cases e; rfl, (fun e => by cases e)⟩⟩
      · rename_i hfit
        split at h
        case isFalse => cases h
        rename_i hroom
        split at h
        case h_2 => cases h
        rename_i olds hol
        simp only [Option.some.injEq, Prod.mk.injEq] at h
        obtain ⟨rfl, rfl⟩ := h
        have hsl : VRel M (.sl id off len (some c)) (.slice (some ⟨me.block, me.base + off, none⟩) len c) := ⟨me, c, hme, rfl, fun _ e => by cases e; rfl, (fun e => by cases e)⟩
        obtain ⟨us, p1, p2, p3⟩ := sliceCells_sound (P := P) (w := w.drew) (hr.drew rfl) hol hsl ⟨len, rfl, Nat.le_refl _⟩
        obtain ⟨rest', nc, hrun, hnc, hrl⟩ := hG p1 (by omega) hroom
        obtain ⟨g1, g2⟩ := newGrow_sound hr e (p2.append f2') (by rw [List.length_append, p3, f3, Nat.add_mul]) hnc hrl (grown_drew_push w _) (append_push (us ++ vs') rest' w e) false
        exact ⟨_, _, _, hrun, g2, g1, ⟨_, nc, newAt hr _, by simp, (fun _ e => by cases e), fun _ => ⟨hnc, by simp, by show 0 < ei.size; omega⟩⟩⟩
    | none =>
      obtain ⟨c1, c2, c3⟩ := hcn rfl
      simp only [Bool.cond_eq_ite, Nat.beq_eq] at h
      split at h
      · rename_i hm0
        subst hm0
        simp only [Option.some.injEq, Prod.mk.injEq] at h
        obtain ⟨rfl, rfl⟩ := h
        have hv0 : vs = [] := List.eq_nil_of_length_eq_zero (by simpa using hvl)
        subst hv0
        exact ⟨_, w, M, hF (by omega) (by simp [storeCells]), Ext.refl _ _ _, hr, ⟨me, c, hme, by simp, (fun _ e => by cases e), hcn⟩⟩
      · rename_i hm0
        split at h
        case h_2 => cases h
        rename_i n c0 e0 gs fz mk ho
        split at h
        case isFalse => cases h
        rename_i hcond
        simp only [Bool.and_eq_true, Nat.beq_eq, Nat.ble_eq] at hcond
        obtain ⟨rfl, rfl, rfl, rfl, q5, q6, q7⟩ := hcond
        simp only [Option.some.injEq, Prod.mk.injEq] at h
        obtain ⟨rfl, rfl⟩ := h
        obtain ⟨cur, e', lo, hi, k1, k2, k3, k4, k5, k6, k7⟩ := hr.blk ho hme
        obtain ⟨rfl, hb0⟩ := k2 rfl
        obtain ⟨g1, g2, _⟩ := k4 _ rfl
        rw [hb0] at k3 k7
        simp only [Nat.zero_add] at k3 k7 c2
        by_cases hfit : len + m ≤ c
        · have hcm : (len + m) * ei.size ≤ c * ei.size := Nat.mul_le_mul_right _ hfit
          rw [Nat.add_mul] at hcm
          rw [g1, g2] at c2
          obtain ⟨w', cur', hrun, j1, j2, j3, j4⟩ := run_storeCells' (P := P) (me.base + 0 + len * ei.size) vs 0 cur w k1 (by rw [hvl, hb0]; omega)
            (fun k hk hk2 hx => by have := k5 rfl k hx.1 hx.2 (by rw [hvl, hb0] at hk2; omega); rw [hb0] at hk; omega) (VRels.ones f2 q7)
          have hpre : M <+: M ++ [⟨me.block, 0, cur.size, ei.size⟩] := List.prefix_append _ _
          have hO : ORel (M ++ [⟨me.block, 0, cur.size, ei.size⟩]) ⟨me.block, 0, cur.size, ei.size⟩ w' (.cells (len * ei.size + m * ei.size) (c0.putAll (len * ei.size) news) e' (some ei.size) fz false mk) := by
            refine ⟨cur', e', lo, hi, j1, fun _ => ⟨rfl, rfl⟩, by rw [j2]; simp only [Nat.zero_add]; omega, fun gs eg => ⟨by cases eg; rfl, by rw [j2], rfl⟩, fun _ i a b cc => k5 rfl i a b (by rw [← j2]; exact cc), fun a b => by rw [j2]; exact k6 a b, ?_⟩
            intro j u hu
            simp only [Nat.zero_add]
            rcases Tr.get_putAll _ hu with ⟨q, rfl, hq⟩ | ⟨hj, hu⟩
            · obtain ⟨x, hx, r⟩ := f2.get q u hq
              have hql : q < m * ei.size := by rw [← f3]; exact (List.getElem?_eq_some_iff.1 hq).1
              refine ⟨by omega, x, ?_, r.mono hpre⟩
              rw [j3, if_pos (by rw [hvl, hb0]; omega), hb0]
              rw [show len * ei.size + q - (0 + 0 + len * ei.size + 0) = q from by omega]
              exact hx
            · obtain ⟨a, x, hx, r⟩ := k7 j u hu
              refine ⟨by omega, x, ?_, r.mono hpre⟩
              rw [j3, if_neg (by rw [hvl, hb0]; rw [f3] at hj; omega)]
              exact hx
          obtain ⟨r1, r2⟩ := hr.rename ho rfl hme j4 _ ⟨me.block, 0, cur.size, ei.size⟩ rfl hO
          exact ⟨_, w', _, hF hfit (by simpa [addr_add] using hrun), r2, r1,
              ⟨_, c, newAt hr _, by simp [hb0], (fun _ e => by cases e), fun _ => ⟨hfit, by simp; exact c2, by show 0 < ei.size; omega⟩⟩⟩
        · have hold : (Builtin.firstCells ei.size len (.slice (some ⟨me.block, me.base + 0, none⟩) len c)).run P w.drew = .ok (List.toArray (cur.toList.take (len * ei.size))) w.drew := by
            have := run_loadCells' (P := P) (w := w.drew) (off := me.base + 0) k1 (cur.toList.take (len * ei.size)) (fun j v hv => by
              rw [List.getElem?_take] at hv
              split at hv
              · rw [hb0]; simpa using hv
              · cases hv)
            rw [show (cur.toList.take (len * ei.size)).length = len * ei.size from by simp; omega] at this
            simpa [Builtin.firstCells] using this
          obtain ⟨rest', nc, hrun, hnc, hrl⟩ := hG hold (by omega) q6
          obtain ⟨kr, ke⟩ := hr.kill id
          have hpre : M <+: M ++ [⟨w.heap.size, 0, nc * ei.size, ei.size⟩] := List.prefix_append _ _
          have hvl' : vs'.length = m * ei.size := by rw [← f2'.length, f3]
          have htl : (cur.toList.take (len * ei.size)).length = len * ei.size := by simp; omega
          have htot : (cur.toList.take (len * ei.size) ++ vs' ++ rest').length = nc * ei.size := by
            rw [List.length_append, List.length_append, htl, hvl', hrl, ← Nat.add_mul, ← Nat.add_mul]; congr 1; omega
          have hncm : (len + m) * ei.size ≤ nc * ei.size := Nat.mul_le_mul_right _ hnc
          rw [Nat.add_mul] at hncm
          have hO : ORel (M ++ [⟨w.heap.size, 0, nc * ei.size, ei.size⟩]) ⟨w.heap.size, 0, nc * ei.size, ei.size⟩ (w.drew.alloc (.cells (cur.toList.take (len * ei.size) ++ vs' ++ rest').toArray e')) (.cells (len * ei.size + m * ei.size) (c0.putAll (len * ei.size) news) e' (some ei.size) fz false mk) := by
            refine ⟨(cur.toList.take (len * ei.size) ++ vs' ++ rest').toArray, e', 0, 0, append_push _ rest' w e', fun _ => ⟨rfl, rfl⟩, by simp only [List.size_toArray, htot, Nat.zero_add]; exact hncm, fun gs eg => ⟨by cases eg; rfl, by simp only [List.size_toArray]; exact htot.symm, rfl⟩, fun _ i a b => by omega, fun _ _ => ⟨Nat.zero_le _, Nat.le_refl _⟩, ?_⟩
            intro j u hu
            simp only [Nat.zero_add, List.getElem?_toArray]
            rcases Tr.get_putAll _ hu with ⟨q, rfl, hq⟩ | ⟨hj, hu⟩
            · obtain ⟨x, hx, r⟩ := f2'.get q u hq
              have hql : q < m * ei.size := by rw [← f3]; exact (List.getElem?_eq_some_iff.1 hq).1
              refine ⟨by omega, x, ?_, r.mono hpre⟩
              rw [List.append_assoc, List.getElem?_append_right (by rw [htl]; omega), htl, Nat.add_sub_cancel_left, List.getElem?_append_left (by omega)]
              exact hx
            · obtain ⟨a, x, hx, r⟩ := k7 j u hu
              refine ⟨by omega, x, ?_, r.mono hpre⟩
              rw [List.append_assoc, List.getElem?_append_left (by rw [htl]; exact a), List.getElem?_take, if_pos a]
              simpa using hx
          obtain ⟨r1, r2⟩ := kr.new (grown_drew_push w _) _ _ (Nat.le_refl _) hO
          exact ⟨_, _, _, hrun, ke.trans r2, r1, ⟨_, nc, newAt hr _, by simp, (fun _ e => by cases e), fun _ => ⟨hnc, by simp, by show 0 < ei.size; omega⟩⟩⟩

set_option maxHeartbeats 2000000 in
theorem appendA_sound (hE : TysOk E P) (hr : HRel M H w) {t xt ty : TypeId} {rest : List TypeId} {s x v : AV} {H' : AHeap} {cs cx : Value} (h : appendA E H t xt s x = some (v, H')) (hs : VRel M s cs) (hx : VRel M x cx) :
    ∃ cv w' M', (Builtin.append_ (List.toArray (t :: xt :: rest)) ty #[cs, cx]).run P w = .ok cv w' ∧ Ext M H w M' H' w' ∧ HRel M' H' w' ∧ VRel M' v cv := by
  unfold appendA at h
  split at h
  · cases h
  rename_i ti hty
  obtain ⟨i1, d1, z1, ht⟩ := hE.ty t ti hty
  have hd := ht.desc
  split at h
  case h_2 => cases h
  rename_i e hq
  rw [hq] at hd
  simp only [DRel] at hd
  subst hd
  split at h
  · cases h
  rename_i ei hte
  obtain ⟨i3, d3, z3, he⟩ := hE.ty e ei hte
  simp only [Bool.cond_eq_ite] at h
  split at h
  · rename_i hsrc
    simp only [Bool.and_eq_true, Bool.not_eq_true'] at hsrc
    obtain ⟨hsrc, hz⟩ := hsrc
    have hes : ei.size ≠ 0 := Nat.ne_of_beq_eq_false hz
    obtain ⟨xi, i2, d2, z2, htx, hxi⟩ : ∃ xi i2 d2 z2, TyOk P xt xi i2 d2 z2 ∧ ((∃ e2, d2 = .slice e2) ∨ d2 = .string) := by
      unfold srcTy at hsrc
      split at hsrc
      case h_2 => cases hsrc
      rename_i xi hxi
      obtain ⟨i2, d2, z2, h2⟩ := hE.ty xt xi hxi
      have hd2 := h2.desc
      refine ⟨xi, i2, d2, z2, h2, ?_⟩
      split at hsrc
      · rename_i e2 hq2; rw [hq2] at hd2; exact .inl ⟨e2, hd2⟩
      · rename_i hq2; rw [hq2] at hd2; exact .inr hd2
      · cases hsrc
    split at h
    · cases h
    rename_i m hm
    split at h
    · cases h
    rename_i news hn
    obtain ⟨vs, f1, f2, f3⟩ := sliceCells_sound (P := P) hr hn hx ⟨m, hm, Nat.le_refl _⟩
    obtain ⟨vs', f1', f2', _⟩ := sliceCells_sound (P := P) (w := w.drew) (hr.drew rfl) hn hx ⟨m, hm, Nat.le_refl _⟩
    have hlen := lenA_sound (P := P) (w := w) hm hx
    exact appendCells_sound hr hes h hs f2 f2' f3 (fun hf hst => run_append_fits' ht rfl htx hxi he hlen f1 hf hst) (fun ho hf hroom => run_append_grows' ht rfl htx hxi he hlen f1' ho hf hroom)
  · split at h
    case isFalse => cases h
    rename_i _ hsrc
    simp only [Bool.and_eq_true, Bool.not_eq_true'] at hsrc
    obtain ⟨hsrc, hz⟩ := hsrc
    have hes : ei.size ≠ 0 := Nat.ne_of_beq_eq_false hz
    obtain ⟨xi, i2, k2, z2, htx⟩ : ∃ xi i2 k2 z2, TyOk P xt xi i2 (.int k2) z2 := by
      unfold intTy at hsrc
      split at hsrc
      case h_2 => cases hsrc
      rename_i xi hxi
      obtain ⟨i2, d2, z2, h2⟩ := hE.ty xt xi hxi
      have hd2 := h2.desc
      split at hsrc
      case h_2 => cases hsrc
      rename_i k2 hq2
      rw [hq2] at hd2
      simp only [DRel] at hd2
      subst hd2
      exact ⟨xi, i2, k2, z2, h2⟩
    split at h
    case h_2 => cases h
    rename_i kx n
    split at h
    case isFalse => cases h
    rename_i hb
    simp only [Bool.and_eq_true, Bool.not_eq_true', ilt_iff, decide_eq_false_iff_not] at hb
    obtain ⟨hb0, hroomZ⟩ := hb
    simp only [VRel] at hx
    subst hx
    obtain ⟨m, rfl⟩ := Int.eq_ofNat_of_zero_le (show 0 ≤ n by omega)
    simp only [Int.toNat_natCast] at h hroomZ
    have hzr := rep_rel (he.zrel.mono (List.nil_prefix (l := M))) m
    have e : ((Array.range (m * z3.cells.size)).map (z3.cells[· % z3.cells.size]!)).toList = (Builtin.zeroCells z3.cells m).toList := rfl
    rw [e] at hzr
    have f3 : (rep ei.zero m).length = m * ei.size := by rw [hzr.length]; simp [zeroCells_size, he.zlen]
    exact appendCells_sound hr hes h hs hzr hzr f3 (fun hf hst => run_append_fitsZ ht rfl htx he hroomZ hf hst) (fun ho hf hroom => run_append_growsZ ht rfl htx he hroomZ ho hf hroom)
end
end Go.Vai
