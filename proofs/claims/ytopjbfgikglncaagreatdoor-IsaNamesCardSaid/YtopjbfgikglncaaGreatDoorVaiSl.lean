/- Slices: bounds, append, copy, conversions, built rows. -/
import Derived.Test.YtopjbfgikglncaaGreatDoorVaiOps
import Derived.Laws.BytesString
namespace Go.Vai
section
variable {E : Env} {P : Program} {M : List MEnt} {H : AHeap} {w : World}

def ORelO (M : List MEnt) : Option AV → Option Value → Prop
  | none, none => True
  | some a, some v => VRel M a v
  | _, _ => False

theorem bndV_sound {v : AV} {cv : Value} {top r : Nat} {code : BoundsCode} (h : bndV v top = some r) (hv : VRel M v cv) (big : Nat) (hb : top ≤ big) :
    (Instr.sliceBound cv big code).run P w = .ok r w ∧ r ≤ top := by
  unfold bndV at h
  split at h
  case h_2 => cases h
  rename_i k i
  simp only [VRel] at hv
  subst hv
  simp only [ilt_iff, ble_iff] at h
  by_cases h0 : i < 0
  · simp [h0] at h
  · by_cases h1 : i.toNat ≤ top
    · simp only [h0, h1, decide_false, decide_true, cond_false, cond_true, Option.some.injEq] at h
      subst h
      have a : 0 ≤ i := by omega
      have b : i ≤ (big : Int) := by omega
      simp [Instr.sliceBound, asIntOf, a, b, h1]
    · simp [h0, h1] at h

def topOf (mx : Option AV) (big m : Nat) : Nat :=
  match mx with
  | none => big
  | some _ => m
/-- With a greatest bound of its own that is not given, the model's may be a greater one. -/
theorem bnds_sound {len cap l h m : Nat} {lo hi mx : Option AV} {clo chi cmx : Option Value} {b : Bool} (hh : bnds len cap lo hi mx = some (l, h, m)) (h1 : ORelO M lo clo) (h2 : ORelO M hi chi) (h3 : ORelO M mx cmx)
    (big : Nat) (hb : cap ≤ big) : (Instr.sliceBounds b len big clo chi cmx).run P w = .ok (l, h, topOf mx big m) w ∧ l ≤ h ∧ m ≤ cap ∧ (mx = none → m = cap) ∧ (hi = none → h = len ∧ mx = none) ∧ (hi ≠ none → h ≤ m) := by
  unfold bnds at hh
  cases mx with
  | none =>
    cases cmx with
    | some _ => exact h3.elim
    | none =>
      simp only at hh
      cases hi with
      | none =>
        cases chi with
        | some _ => exact h2.elim
        | none =>
          simp only at hh
          cases lo with
          | none =>
            cases clo with
            | some _ => exact h1.elim
            | none =>
              simp only [Option.some.injEq, Prod.mk.injEq] at hh
              obtain ⟨rfl, rfl, rfl⟩ := hh
              refine ⟨?_, Nat.zero_le _, Nat.le_refl _, fun _ => rfl, fun _ => ⟨rfl, rfl⟩, fun e => absurd rfl e⟩
              simp [topOf, Instr.sliceBounds]
          | some lv =>
            cases clo with
            | none => exact h1.elim
            | some clv =>
              simp only at hh
              cases hl : bndV lv len with
              | none => simp [hl] at hh
              | some r =>
                simp only [hl, Option.some.injEq, Prod.mk.injEq] at hh
                obtain ⟨rfl, rfl, rfl⟩ := hh
                obtain ⟨a, b'⟩ := bndV_sound (P := P) (w := w) (code := .sliceB) hl h1 len (Nat.le_refl _)
                refine ⟨?_, b', Nat.le_refl _, fun _ => rfl, fun _ => ⟨rfl, rfl⟩, fun e => absurd rfl e⟩
                simp [topOf, Instr.sliceBounds, a]
      | some hv =>
        cases chi with
        | none => exact h2.elim
        | some chv =>
          simp only at hh
          cases hq : bndV hv cap with
          | none => simp [hq] at hh
          | some r =>
            simp only [hq] at hh
            obtain ⟨a, b'⟩ := bndV_sound (P := P) (w := w) (code := if b then .sliceAcap else .sliceAlen) hq h2 big hb
            cases lo with
            | none =>
              cases clo with
              | some _ => exact h1.elim
              | none =>
                simp only [Option.some.injEq, Prod.mk.injEq] at hh
                obtain ⟨rfl, rfl, rfl⟩ := hh
                refine ⟨?_, Nat.zero_le _, Nat.le_refl _, fun _ => rfl, (fun e => by cases e), fun _ => b'⟩
                simp [topOf, Instr.sliceBounds, a]
            | some lv =>
              cases clo with
              | none => exact h1.elim
              | some clv =>
                simp only at hh
                cases hl : bndV lv r with
                | none => simp [hl] at hh
                | some r2 =>
                  simp only [hl, Option.some.injEq, Prod.mk.injEq] at hh
                  obtain ⟨rfl, rfl, rfl⟩ := hh
                  obtain ⟨c, d⟩ := bndV_sound (P := P) (w := w) (code := .sliceB) hl h1 r (Nat.le_refl _)
                  refine ⟨?_, d, Nat.le_refl _, fun _ => rfl, (fun e => by cases e), fun _ => b'⟩
                  simp [topOf, Instr.sliceBounds, a, c]
  | some mv =>
    cases cmx with
    | none => exact h3.elim
    | some cmv =>
      simp only at hh
      cases hm : bndV mv cap with
      | none => simp [hm] at hh
      | some m0 =>
        simp only [hm] at hh
        obtain ⟨am, bm⟩ := bndV_sound (P := P) (w := w) (code := if b then .slice3Acap else .slice3Alen) hm h3 big hb
        cases hi with
        | none => simp at hh
        | some hv =>
          cases chi with
          | none => exact h2.elim
          | some chv =>
            simp only at hh
            cases hq : bndV hv m0 with
            | none => simp [hq] at hh
            | some r =>
              simp only [hq] at hh
              obtain ⟨a, b'⟩ := bndV_sound (P := P) (w := w) (code := .slice3B) hq h2 m0 (Nat.le_refl _)
              cases lo with
              | none =>
                cases clo with
                | some _ => exact h1.elim
                | none =>
                  simp only [Option.some.injEq, Prod.mk.injEq] at hh
                  obtain ⟨rfl, rfl, rfl⟩ := hh
                  refine ⟨?_, Nat.zero_le _, bm, (fun e => by cases e), (fun e => by cases e), fun _ => b'⟩
                  simp [topOf, Instr.sliceBounds, a, am]
              | some lv =>
                cases clo with
                | none => exact h1.elim
                | some clv =>
                  simp only at hh
                  cases hl : bndV lv r with
                  | none => simp [hl] at hh
                  | some r2 =>
                    simp only [hl, Option.some.injEq, Prod.mk.injEq] at hh
                    obtain ⟨rfl, rfl, rfl⟩ := hh
                    obtain ⟨c, d⟩ := bndV_sound (P := P) (w := w) (code := .slice3C) hl h1 r (Nat.le_refl _)
                    refine ⟨?_, d, bm, (fun e => by cases e), (fun e => by cases e), fun _ => b'⟩
                    simp [topOf, Instr.sliceBounds, a, c, am]

theorem extract_mk (s : List UInt8) (l h : Nat) : (ByteArray.mk ⟨s⟩).extract l h = ⟨⟨(s.drop l).take (h - l)⟩⟩ := by
  apply ByteArray.ext
  simp [ByteArray.data_extract, List.extract_toArray]

set_option maxHeartbeats 1000000 in
theorem sliceA_sound (hE : TysOk E P) (hr : HRel M H w) {t : TypeId} {x v : AV} {cx : Value} {lo hi mx : Option AV} {clo chi cmx : Option Value} (h : sliceA E H t x lo hi mx = some v) (hx : VRel M x cx)
    (h1 : ORelO M lo clo) (h2 : ORelO M hi chi) (h3 : ORelO M mx cmx) : ∃ cv, (Instr.sliceAt t cx clo chi cmx).run P w = .ok cv w ∧ VRel M v cv := by
  unfold sliceA at h
  split at h
  · cases h
  rename_i ti hty
  obtain ⟨i, d, z, ht⟩ := hE.ty t ti hty
  have hd := ht.desc
  split at h
  · -- a string
    rename_i s hq
    rw [hq] at hd
    simp only [DRel] at hd; subst hd
    simp only [VRel] at hx; subst hx
    cases mx with
    | some _ => simp at h
    | none =>
      cases cmx with
      | some _ => exact h3.elim
      | none =>
        simp only at h
        split at h
        case h_2 => cases h
        rename_i l hh m hb
        obtain ⟨a, b, c, _, e, f⟩ := bnds_sound (P := P) (w := w) (b := false) hb h1 h2 (show ORelO M none none from trivial) (lenU s) (Nat.le_refl _)
        have hsz : (ByteArray.mk ⟨s⟩).size = lenU s := rfl
        refine ⟨.string ((ByteArray.mk ⟨s⟩).extract l hh), ?_, ?_⟩
        · simp [Instr.sliceAt, Instr.slice, run_und ht, hsz, a]
        · rw [extract_mk]
          cases hi with
          | none =>
            simp only [Option.some.injEq] at h
            subst h
            obtain ⟨rfl, _⟩ := e rfl
            simp only [VRel, lenU]
            congr 3
            rw [List.take_of_length_le (by simp)]
          | some _ => simp only [Option.some.injEq] at h; subst h; rfl
  · -- a nil slice
    rename_i e hq
    rw [hq] at hd
    simp only [DRel] at hd; subst hd
    simp only [VRel] at hx; subst hx
    split at h
    case h_2 => cases h
    rename_i ei r hte hb
    obtain ⟨_, _, _, he⟩ := hE.ty e ei hte
    obtain ⟨l, hh, m⟩ := r
    simp only [Option.some.injEq] at h
    subst h
    obtain ⟨a, b, c, d1, e1, f⟩ := bnds_sound (P := P) (w := w) (b := true) hb h1 h2 h3 0 (Nat.le_refl _)
    have hm : topOf mx 0 m = 0 := by cases mx <;> simp [topOf]; omega
    rw [hm] at a
    have hh0 : hh = 0 := by
      cases hi with
      | none => exact (e1 rfl).1
      | some _ => have := f (by simp); omega
    have hl0 : l = 0 := by omega
    subst hh0; subst hl0
    exact ⟨_, by simp [Instr.sliceAt, Instr.slice, run_und ht, a, run_size he] <;> rfl, rfl⟩
  · -- an empty slice somewhere
    rename_i e hq
    rw [hq] at hd
    simp only [DRel] at hd; subst hd
    obtain ⟨ad, c, rfl⟩ := hx
    cases mx with
    | some _ => simp at h
    | none =>
      cases cmx with
      | some _ => exact h3.elim
      | none =>
        simp only at h
        split at h
        case h_2 => cases h
        rename_i ei r hte hb
        obtain ⟨_, _, _, he⟩ := hE.ty e ei hte
        obtain ⟨l, hh, m⟩ := r
        simp only [Option.some.injEq] at h
        subst h
        obtain ⟨a, b, c1, d1, e1, f⟩ := bnds_sound (P := P) (w := w) (b := true) hb h1 h2 (show ORelO M none none from trivial) c (Nat.zero_le _)
        have hh0 : hh = 0 := by
          cases hi with
          | none => exact (e1 rfl).1
          | some _ => have := f (by simp); omega
        have hl0 : l = 0 := by omega
        subst hh0; subst hl0
        simp only [topOf] at a
        by_cases hc : c = 0
        · exact ⟨.slice (some ad) 0 c, by simp [Instr.sliceAt, Instr.slice, run_und ht, a, run_size he] <;> simp [hc], ⟨_, _, rfl⟩⟩
        · exact ⟨.slice (some (ad.add 0)) 0 c, by simp [Instr.sliceAt, Instr.slice, run_und ht, a, run_size he] <;> simp [hc], ⟨_, _, rfl⟩⟩
  · -- room known
    rename_i e id off len c hq
    rw [hq] at hd
    simp only [DRel] at hd; subst hd
    obtain ⟨me, c', hm, rfl, hc, _⟩ := hx
    have := hc c rfl; subst this
    cases hte : E.ty e with
    | none => simp [hte] at h
    | some ei =>
      obtain ⟨_, _, _, he⟩ := hE.ty e ei hte
      simp only [hte] at h
      split at h
      case h_2 => cases h
      rename_i l hh m hb
      simp only [Option.some.injEq] at h
      subst h
      obtain ⟨a, b, c1, d1, e1, f⟩ := bnds_sound (P := P) (w := w) (b := true) hb h1 h2 h3 c' (Nat.le_refl _)
      have hmt : topOf mx c' m = m := by cases mx <;> simp [topOf]; exact (d1 rfl).symm
      rw [hmt] at a
      by_cases hml : m = l
      · refine ⟨.slice (some ⟨me.block, me.base + off, none⟩) (hh - l) (m - l), by simp [Instr.sliceAt, Instr.slice, run_und ht, a, run_size he] <;> simp [hml], ⟨me, m - l, hm, ?_, (fun _ e => by cases e; rfl), (fun e => by cases e)⟩⟩
        simp [hml]
      · refine ⟨.slice (some ⟨me.block, me.base + off + l * ei.size, none⟩) (hh - l) (m - l), by simp [Instr.sliceAt, Instr.slice, run_und ht, a, run_size he, addr_add] <;> simp [hml], ⟨me, m - l, hm, ?_, (fun _ e => by cases e; rfl), (fun e => by cases e)⟩⟩
        simp [beq_iff, hml, Nat.add_assoc]
  · -- room not known
    rename_i e id off len hq
    rw [hq] at hd
    simp only [DRel] at hd; subst hd
    obtain ⟨me, c, hm, rfl, _, hcap⟩ := hx
    obtain ⟨hc1, hc2, hc3⟩ := hcap rfl
    split at h
    case h_2 => cases h
    rename_i ei n _ _ gs _ _ _ hte ho
    obtain ⟨_, _, _, he⟩ := hE.ty e ei hte
    obtain ⟨cur, e', lo', hi', g1, g2, g3, g4, _, _, _⟩ := hr.blk ho hm
    obtain ⟨k1, k2, k3⟩ := g4 gs rfl
    simp only [Bool.cond_eq_ite] at h
    split at h
    case isFalse => cases h
    rename_i hcond
    simp only [Bool.and_eq_true, Nat.beq_eq, Bool.not_eq_true', Nat.ble_eq] at hcond
    obtain ⟨q1, q2, q3⟩ := hcond
    have q2' : gs ≠ 0 := Nat.ne_of_beq_eq_false q2
    have hle : (n - off) / gs ≤ c := by
      rw [Nat.div_le_iff_le_mul_add_pred (by omega)]
      have : n ≤ off + c * gs := by rw [← k1, hc2, k2]; rw [k3] at g3; omega
      have hcm : gs * c = c * gs := Nat.mul_comm _ _
      omega
    have hlen : len ≤ (n - off) / gs := by
      rw [Nat.le_div_iff_mul_le (by omega)]; omega
    have hmul : (n - off) / gs * gs ≤ n - off := Nat.div_mul_le_self _ _
    split at h
    case h_2 => cases h
    rename_i l hh m hb
    obtain ⟨a, b, c1, d1, e1, f⟩ := bnds_sound (P := P) (w := w) (b := true) hb h1 h2 h3 c hle
    have hhm : hh ≤ (n - off) / gs := by
      cases hi with
      | none => rw [(e1 rfl).1]; exact hlen
      | some _ => have := f (by simp); omega
    cases mx with
    | none =>
      simp only [topOf] at a
      simp only at h
      have hlc : l ≤ c := by omega
      have hsub : (c - l) * gs = c * gs - l * gs := Nat.sub_mul _ _ _
      have hlg : l * gs ≤ c * gs := Nat.mul_le_mul_right _ hlc
      split at h
      · rename_i hcc
        simp only [Option.some.injEq] at h
        subst h
        simp only [Bool.or_eq_true, Nat.beq_eq, blt_iff, decide_eq_true_eq] at hcc
        by_cases hml : c = l
        · have hl0 : l = 0 := by
            rcases hcc with hcc | hcc
            · exfalso
              rw [k3] at g3
              have : off + l * gs < off + c * gs := by rw [← k1] at *; omega
              rw [hml] at this; omega
            · exact hcc
          refine ⟨.slice (some ⟨me.block, me.base + off, none⟩) (hh - l) (c - l), by simp [Instr.sliceAt, Instr.slice, run_und ht, a, run_size he] <;> simp [hml], ⟨me, c - l, hm, ?_, (fun _ e => by cases e), fun _ => ⟨by omega, ?_, by omega⟩⟩⟩
          · simp [hl0]
          · rw [k1] at hc2 ⊢; omega
        · refine ⟨.slice (some ⟨me.block, me.base + off + l * ei.size, none⟩) (hh - l) (c - l), by simp [Instr.sliceAt, Instr.slice, run_und ht, a, run_size he, addr_add] <;> simp [hml], ⟨me, c - l, hm, ?_, (fun _ e => by cases e), fun _ => ⟨by omega, ?_, by omega⟩⟩⟩
          · rw [q1]; simp [Nat.add_assoc]
          · rw [k1] at hc2 ⊢; omega
      · rename_i hcc
        simp only [Option.some.injEq] at h
        subst h
        simp only [Bool.or_eq_true, Nat.beq_eq, blt_iff, decide_eq_true_eq, not_or] at hcc
        have hh1 : hh * gs ≤ (n - off) / gs * gs := Nat.mul_le_mul_right _ hhm
        have hhl : hh = l := by
          rcases Nat.lt_or_ge l hh with hlt | hge
          · exfalso
            have : (l + 1) * gs ≤ hh * gs := Nat.mul_le_mul_right _ hlt
            rw [Nat.add_mul] at this
            omega
          · omega
        subst hhl
        by_cases hml : c = hh
        · exact ⟨.slice (some ⟨me.block, me.base + off, none⟩) (hh - hh) (c - hh), by simp [Instr.sliceAt, Instr.slice, run_und ht, a, run_size he] <;> simp [hml], ⟨_, c - hh, by rw [Nat.sub_self]⟩⟩
        · exact ⟨.slice (some ⟨me.block, me.base + off + hh * ei.size, none⟩) (hh - hh) (c - hh), by simp [Instr.sliceAt, Instr.slice, run_und ht, a, run_size he, addr_add] <;> simp [hml], ⟨_, c - hh, by rw [Nat.sub_self]⟩⟩
    | some mv =>
      simp only [topOf] at a
      simp only [Option.some.injEq] at h
      subst h
      by_cases hml : m = l
      · refine ⟨.slice (some ⟨me.block, me.base + off, none⟩) (hh - l) (m - l), by simp [Instr.sliceAt, Instr.slice, run_und ht, a, run_size he] <;> simp [hml], ⟨me, m - l, hm, ?_, (fun _ e => by cases e; rfl), (fun e => by cases e)⟩⟩
        simp [hml]
      · refine ⟨.slice (some ⟨me.block, me.base + off + l * ei.size, none⟩) (hh - l) (m - l), by simp [Instr.sliceAt, Instr.slice, run_und ht, a, run_size he, addr_add] <;> simp [hml], ⟨me, m - l, hm, ?_, (fun _ e => by cases e; rfl), (fun e => by cases e)⟩⟩
        simp [beq_iff, hml, Nat.add_assoc, q1]
  · -- an array
    rename_i n e id off hq
    rw [hq] at hd
    simp only [DRel] at hd; subst hd
    obtain ⟨me, hm, rfl⟩ := hx
    cases hte : E.ty e with
    | none => simp [hte] at h
    | some ei =>
      obtain ⟨_, _, _, he⟩ := hE.ty e ei hte
      simp only [hte] at h
      split at h
      case h_2 => cases h
      rename_i l hh m hb
      simp only [Option.some.injEq] at h
      subst h
      obtain ⟨a, b, c1, d1, e1, f⟩ := bnds_sound (P := P) (w := w) (b := false) hb h1 h2 h3 n (Nat.le_refl _)
      have hmt : topOf mx n m = m := by cases mx <;> simp [topOf]; exact (d1 rfl).symm
      rw [hmt] at a
      by_cases hml : m = l
      · refine ⟨.slice (some ⟨me.block, me.base + off, none⟩) (hh - l) (m - l), by simp [Instr.sliceAt, run_und ht, Instr.sureAddr, a, run_size he] <;> simp [hml], ⟨me, m - l, hm, ?_, (fun _ e => by cases e; rfl), (fun e => by cases e)⟩⟩
        simp [hml]
      · refine ⟨.slice (some ⟨me.block, me.base + off + l * ei.size, none⟩) (hh - l) (m - l), by simp [Instr.sliceAt, run_und ht, Instr.sureAddr, a, run_size he, addr_add] <;> simp [hml], ⟨me, m - l, hm, ?_, (fun _ e => by cases e; rfl), (fun e => by cases e)⟩⟩
        simp [beq_iff, hml, Nat.add_assoc]
  · cases h
end
end Go.Vai
