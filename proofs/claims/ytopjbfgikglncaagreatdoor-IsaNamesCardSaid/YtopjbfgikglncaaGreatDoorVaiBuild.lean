/- Built values and rows. -/
import Derived.Test.YtopjbfgikglncaaGreatDoorVaiConv
namespace Go.Vai
section
variable {E : Env} {P : Program} {M : List MEnt} {H : AHeap} {w : World}

theorem foldl_set (off : Nat) : ∀ (l : List Value) (k : Nat) (cs : Array Value), off + k + l.length ≤ cs.size →
    ((l.zipIdx k).foldl (fun cs (c, j) => cs.setIfInBounds (off + j) c) cs).size = cs.size ∧
    ∀ i, ((l.zipIdx k).foldl (fun cs (c, j) => cs.setIfInBounds (off + j) c) cs)[i]? = if off + k ≤ i ∧ i < off + k + l.length then l[i - (off + k)]? else cs[i]? := by
  intro l
  induction l with
  | nil => intro k cs _; exact ⟨rfl, fun i => by rw [if_neg (by intro h; simp only [List.length_nil] at h; omega)]; rfl⟩
  | cons c l ih =>
    intro k cs h
    simp only [List.length_cons] at h
    obtain ⟨h1, h2⟩ := ih (k + 1) (cs.setIfInBounds (off + k) c) (by simp; omega)
    simp only [List.zipIdx_cons, List.foldl_cons]
    refine ⟨by rw [h1]; simp, fun i => ?_⟩
    rw [h2]
    by_cases h3 : off + (k + 1) ≤ i ∧ i < off + (k + 1) + l.length
    · rw [if_pos h3, if_pos (by simp only [List.length_cons]; omega), show i - (off + k) = (i - (off + (k + 1))) + 1 from by omega, List.getElem?_cons_succ]
    · rw [if_neg h3]
      by_cases h4 : i = off + k
      · subst h4
        rw [if_pos (by simp only [List.length_cons]; omega), Nat.sub_self]
        simp [show off + k < cs.size from by omega]
      · rw [if_neg (by simp only [List.length_cons]; omega), Array.getElem?_setIfInBounds_ne (by omega)]

theorem fillA_sound {place cplace : Nat → Option (Nat × Nat)} (hp : ∀ i r, place i = some r → cplace i = some r) : ∀ {ps : List (Nat × AV)} {cps : List (Nat × Value)} {cells l : List AV} {cc : List Value},
    ps.map (·.1) = cps.map (·.1) → VRels M (ps.map (·.2)) (cps.map (·.2)) → VRels M cells cc → fillA place cells ps = some l → ∃ cl : List Value, Instr.fill cplace cc.toArray cps = some cl.toArray ∧ VRels M l cl := by
  intro ps
  induction ps with
  | nil =>
    intro cps cells l cc h1 _ hc h
    cases cps with
    | nil => simp only [fillA, Option.some.injEq] at h; subst h; exact ⟨cc, rfl, hc⟩
    | cons => simp at h1
  | cons p ps ih =>
    intro cps cells l cc h1 h2 hc h
    cases cps with
    | nil => simp at h1
    | cons q cps =>
      obtain ⟨i, v⟩ := p
      obtain ⟨j, cv⟩ := q
      simp only [List.map_cons, List.cons.injEq] at h1
      obtain ⟨rfl, h1⟩ := h1
      obtain ⟨hv, h2⟩ := h2
      simp only [fillA] at h
      split at h
      · cases h
      rename_i off size hpl
      simp only [Bool.cond_eq_ite, Bool.and_eq_true, Nat.beq_eq, Nat.ble_eq] at h
      split at h
      case isFalse => cases h
      rename_i hcond
      obtain ⟨c1, c2⟩ := hcond
      have hcells := hv.cells
      have hlen : cv.cells.size = size := by rw [← c1, hcells.length]; simp
      have hcl := hc.length
      obtain ⟨s1, s2⟩ := foldl_set off cv.cells.toList 0 cc.toArray (by simp; omega)
      have heq : ((cv.cells.zipIdx).foldl (fun cs (c, j) => cs.setIfInBounds (off + j) c) cc.toArray) = ((cv.cells.toList.zipIdx 0).foldl (fun cs (c, j) => cs.setIfInBounds (off + j) c) cc.toArray) := by
        rw [← Array.foldl_toList]; simp
      have hcc : VRels M (putSub cells off v.cells) (((cv.cells.toList.zipIdx 0).foldl (fun cs (c, j) => cs.setIfInBounds (off + j) c) cc.toArray).toList) := by
        refine VRels.of ?_ fun k a u ha hu => ?_
        · simp only [Array.length_toList, s1, putSub, List.length_append, List.length_take, List.length_drop, List.size_toArray]
          omega
        · rw [Array.getElem?_toList, s2] at hu
          simp only [putSub] at ha
          simp only [Nat.add_zero, Array.length_toList] at hu
          by_cases hk : off ≤ k ∧ k < off + cv.cells.size
          · rw [if_pos hk] at hu
            rw [List.getElem?_append_right (by simp; omega), List.getElem?_append_left (by simp; omega)] at ha
            simp only [List.length_take] at ha
            rw [show k - min off cells.length = k - off from by omega] at ha
            obtain ⟨x, hx, r⟩ := hcells.get _ _ ha
            rw [hx] at hu; cases hu; exact r
          · rw [if_neg hk] at hu
            by_cases hlt : k < off
            · rw [List.getElem?_append_left (by simp; omega), List.getElem?_take, if_pos hlt] at ha
              obtain ⟨x, hx, r⟩ := hc.get _ _ ha
              rw [List.getElem?_toArray, hx] at hu; cases hu; exact r
            · rw [List.getElem?_append_right (by simp; omega), List.getElem?_append_right (by simp; omega), List.getElem?_drop] at ha
              simp only [List.length_take] at ha
              rw [show off + v.cells.length + (k - min off cells.length - v.cells.length) = k from by omega] at ha
              obtain ⟨x, hx, r⟩ := hc.get _ _ ha
              rw [List.getElem?_toArray, hx] at hu; cases hu; exact r
      obtain ⟨cl, r1, r2⟩ := ih h1 h2 hcc h
      refine ⟨cl, ?_, r2⟩
      simp only [Instr.fill, hp _ _ hpl, hlen]
      rw [if_neg (by simp; omega)]
      rw [heq]
      simpa using r1

theorem run_places {F : List Field} (h : ∀ f ∈ F, ∃ i, P.info? f.type = some i) :
    (F.mapM (m := Sem) fun f => do pure (f.offset, ← sizeOf f.type)).run P w = .ok (F.map fun f => (f.offset, P.cellsOf f.type)) w := by
  induction F with
  | nil => simp
  | cons f F ih =>
    obtain ⟨i, hi⟩ := h f (by simp)
    have hs : (sizeOf f.type).run P w = .ok (P.cellsOf f.type) w := by simp [sizeOf, typeInfo, hi, Program.cellsOf]
    simp only [List.mapM_cons, Sem.run_bind, hs, Result.andThen_ok, Sem.run_pure, ih (fun g hg => h g (List.mem_cons_of_mem _ hg)), List.map_cons]

theorem buildA_sound (hE : TysOk E P) {t : TypeId} {ps : List (Nat × AV)} {cps : List (Nat × Value)} {v : AV} (h : buildA E t ps = some v) (h1 : ps.map (·.1) = cps.map (·.1)) (h2 : VRels M (ps.map (·.2)) (cps.map (·.2))) :
    ∃ cv, (Instr.build t cps.toArray).run P w = .ok cv w ∧ VRel M v cv := by
  unfold buildA at h
  split at h
  · cases h
  rename_i ti hty
  obtain ⟨i, d, z, ht⟩ := hE.ty t ti hty
  have hd := ht.desc
  have hz := ht.zrel.mono (List.nil_prefix (l := M))
  split at h
  · rename_i fs ok hq
    rw [hq] at hd
    obtain ⟨F, rfl, hF, _⟩ := hd
    split at h
    case h_2 => cases h
    rename_i l hl
    simp only [Option.some.injEq] at h
    subst h
    have hfi := hE.fields t ti F hty ht.und
    have hpl := run_places (w := w) hfi
    obtain ⟨cl, r1, r2⟩ := fillA_sound (cplace := (((F.toList.map fun f => (f.offset, P.cellsOf f.type)).toArray)[·]?)) (fun i r hr => by
      split at hr
      · cases hr
      rename_i off ft hn
      split at hr
      case h_2 => cases hr
      rename_i fi hfi
      simp only [Option.some.injEq] at hr
      subst hr
      obtain ⟨fd, e1, rfl, rfl⟩ := field_of hF hn
      obtain ⟨_, _, _, hf⟩ := hE.ty _ _ hfi
      simp [e1, Program.cellsOf, hf.info, hf.size]) h1 h2 hz hl
    refine ⟨.agg cl.toArray, ?_, ⟨cl, rfl, r2⟩⟩
    simp only [Instr.build, Sem.run_bind, run_zero ht, run_und ht, Result.andThen_ok]
    rw [Array.mapM_eq_mapM_toList, Sem.run_map, hpl]
    simp only [Result.andThen_ok]
    rw [Array.toArray_toList] at r1
    simp only [r1]
    rfl
  · rename_i n e hq
    rw [hq] at hd
    simp only [DRel] at hd
    subst hd
    split at h
    · cases h
    rename_i ei hte
    obtain ⟨_, _, _, he⟩ := hE.ty e ei hte
    split at h
    case h_2 => cases h
    rename_i l hl
    simp only [Option.some.injEq] at h
    subst h
    obtain ⟨cl, r1, r2⟩ := fillA_sound (cplace := fun i => some (i * ei.size, ei.size)) (fun i r hr => hr) h1 h2 hz hl
    refine ⟨.agg cl.toArray, ?_, ⟨cl, rfl, r2⟩⟩
    rw [Array.toArray_toList] at r1
    simp [Instr.build, run_zero ht, run_und ht, run_size he, r1]
  · cases h

theorem buildSlice_run (hE : TysOk E P) {t : TypeId} {ti ei : ATy} {e len : Nat} {ps : List (Nat × AV)} {cps : List (Nat × Value)} {cs : List AV} (hty : E.ty t = some ti) (hq : ti.d = .slice e) (hte : E.ty e = some ei)
    (hb : len * ei.size ≤ 65536) (h : fillA (fun i => some (i * ei.size, ei.size)) (rep ei.zero len) ps = some cs) (h1 : ps.map (·.1) = cps.map (·.1)) (h2 : VRels M (ps.map (·.2)) (cps.map (·.2))) (w : World) :
    ∃ vs, (Instr.buildSlice t len cps.toArray).run P w = .ok (.slice (some ⟨w.heap.size, 0, none⟩) len len) { w with heap := w.heap.push (.cells (List.toArray vs) e) } ∧ VRels M cs vs := by
  obtain ⟨i, d, z, ht⟩ := hE.ty t ti hty
  obtain ⟨i2, d2, z2, he⟩ := hE.ty e ei hte
  have hd := ht.desc
  rw [hq] at hd
  simp only [DRel] at hd
  subst hd
  have hz := rep_rel (he.zrel.mono (List.nil_prefix (l := M))) len
  rw [he.zlen] at hz
  obtain ⟨cl, r1, r2⟩ := fillA_sound (cplace := fun i => some (i * ei.size, ei.size)) (fun i r hr => hr) h1 h2 hz h
  refine ⟨cl, ?_, r2⟩
  have hng : ¬ (len * ei.size > 2 ^ 24) := by omega
  rw [Array.toArray_toList] at r1
  by_cases h0 : len * ei.size = 0
  · have hr0 : Array.range 0 = #[] := by simp
    have hzero : ((Array.range (len * ei.size)).map (z2.cells[· % ei.size]!)) = #[] := by rw [h0]; simp
    rw [hzero] at r1
    simp only [Instr.buildSlice, Sem.run_bind, run_und ht, run_size he, Result.andThen_ok, h0, if_true]
    simp [hr0, r1, newRow]
  · simp only [Instr.buildSlice, Sem.run_bind, run_und ht, run_size he, Result.andThen_ok, if_neg hng, if_neg h0, run_zero he, Sem.run_pure, he.zlen]
    simp [r1, newRow]

theorem buildSlice_sound (hE : TysOk E P) (hr : HRel M H w) {t : TypeId} {ti ei : ATy} {e len : Nat} {ps : List (Nat × AV)} {cps : List (Nat × Value)} {cs : List AV} (hty : E.ty t = some ti) (hq : ti.d = .slice e) (hte : E.ty e = some ei)
    (hb : len * ei.size ≤ 65536) (h : fillA (fun i => some (i * ei.size, ei.size)) (rep ei.zero len) ps = some cs) (h1 : ps.map (·.1) = cps.map (·.1)) (h2 : VRels M (ps.map (·.2)) (cps.map (·.2))) :
    ∃ cv w' M', (Instr.buildSlice t len cps.toArray).run P w = .ok cv w' ∧ Ext M H w M' (newRowA H e cs) w' ∧ HRel M' (newRowA H e cs) w' ∧ VRel M' (.sl H.next 0 len (some len)) cv := by
  obtain ⟨vs, r1, r2⟩ := buildSlice_run hE hty hq hte hb h h1 h2 w
  obtain ⟨n1, n2⟩ := newRow_sound hr e r2
  exact ⟨_, _, _, r1, n2, n1, ⟨_, len, newAt hr _, rfl, (fun _ e => by cases e; rfl), (fun e => by cases e)⟩⟩

theorem makeSlice_run (hE : TysOk E P) (M : List MEnt) {t : TypeId} {ti ei : ATy} {e : Nat} {k1 k2 : IntKind} {l c : Int} (hty : E.ty t = some ti) (hq : ti.d = .slice e) (hte : E.ty e = some ei)
    (h0 : ¬ l < 0) (h1 : ¬ c < l) (hroom : roomy c.toNat (ei.bytes + ei.size) = true) (w : World) :
    ∃ vs, (Instr.makeSlice t (.int k1 l) (.int k2 c)).run P w = .ok (.slice (some ⟨w.heap.size, 0, none⟩) l.toNat c.toNat) { w with heap := w.heap.push (.cells (List.toArray vs) e) } ∧ VRels M (rep ei.zero c.toNat) vs := by
  obtain ⟨i, d, z, ht⟩ := hE.ty t ti hty
  obtain ⟨i2, d2, z2, he⟩ := hE.ty e ei hte
  have hd := ht.desc
  rw [hq] at hd
  simp only [DRel] at hd
  subst hd
  have hz := rep_rel (he.zrel.mono (List.nil_prefix (l := M))) c.toNat
  rw [he.zlen] at hz
  refine ⟨_, ?_, hz⟩
  have hs := room_small hroom
  obtain ⟨cn, rfl⟩ := Int.eq_ofNat_of_zero_le (show 0 ≤ c by omega)
  obtain ⟨ln, rfl⟩ := Int.eq_ofNat_of_zero_le (show 0 ≤ l by omega)
  simp only [Int.toNat_natCast] at hs hroom
  have wl : IntKind.i64.wrap (ln : Int) = ln := wrap_small (by omega) (by omega)
  have wc : IntKind.i64.wrap (cn : Int) = cn := wrap_small (by omega) (by omega)
  have hb : ¬ ((281474976710656 : Int) < (i2.bytes : Int) * (cn : Int)) := by
    rw [he.bytes]
    replace hroom := roomy_cases hroom
    have h2 : ei.bytes * cn ≤ (cn + 1) * (ei.bytes + ei.size + 1) := by
      rw [Nat.mul_comm]
      exact Nat.mul_le_mul (by omega) (by omega)
    have h3 : ((ei.bytes * cn : Nat) : Int) ≤ 211106232532992 := by omega
    push_cast at h3
    omega
  have hn1 : ¬ ((cn : Int) < 0) := by omega
  have hn2 : ¬ ((ln : Int) < 0) := by omega
  have hn3 : ¬ ((cn : Int) < (ln : Int)) := h1
  have hr0 : Array.range 0 = #[] := by simp
  by_cases hz0 : cn * ei.size = 0
  · simp [Instr.makeSlice, run_und ht, run_info he, asInt, asIntOf, wl, wc, hb, hn1, hn2, hn3, run_size he, hz0, newRow, hr0] <;> rfl
  · simp [Instr.makeSlice, run_und ht, run_info he, asInt, asIntOf, wl, wc, hb, hn1, hn2, hn3, run_size he, hz0, newRow, run_zero he, he.zlen]
    congr 2
    apply Array.ext'
    simp
theorem makeSlice_sound (hE : TysOk E P) (hr : HRel M H w) {t : TypeId} {ti ei : ATy} {e : Nat} {k1 k2 : IntKind} {l c : Int} (hty : E.ty t = some ti) (hq : ti.d = .slice e) (hte : E.ty e = some ei)
    (h0 : ¬ l < 0) (h1 : ¬ c < l) (hroom : roomy c.toNat (ei.bytes + ei.size) = true) :
    ∃ cv w' M', (Instr.makeSlice t (.int k1 l) (.int k2 c)).run P w = .ok cv w' ∧ Ext M H w M' (newRowA H e (rep ei.zero c.toNat)) w' ∧ HRel M' (newRowA H e (rep ei.zero c.toNat)) w' ∧ VRel M' (.sl H.next 0 l.toNat (some c.toNat)) cv := by
  obtain ⟨vs, r1, r2⟩ := makeSlice_run hE M hty hq hte h0 h1 hroom w (k1 := k1) (k2 := k2)
  obtain ⟨n1, n2⟩ := newRow_sound hr e r2
  exact ⟨_, _, _, r1, n2, n1, ⟨_, c.toNat, newAt hr _, rfl, (fun _ e => by cases e; rfl), (fun e => by cases e)⟩⟩
end
end Go.Vai
