/- riscv.Decode: the first row of the table that the word fits. -/
import Derived.Test.YtpmlihmaodpmfaaGreatDoorRvDec0
import Derived.KernelRfl
namespace Go.Proofs.YtpmlihmaodpmfaaGreatDoor
open Go Go.Vai
noncomputable section
set_option maxRecDepth 100000
abbrev RvRow : Type := List UInt8 × Int × Int
def rvHit (w : Int) (x : RvRow) : Bool := ieq (wrapR .u32 (andI .u32 x.2.2 (.ofNat 127))) (wrapR .u32 (andI .u32 w (.ofNat 127))) && ieq (rvWordE x.1 x.2.1 x.2.2 (rvRN x.1 x.2.1 x.2.2 w) (rvRA x.1 x.2.1 x.2.2 w) (rvRB x.1 x.2.1 x.2.2 w) (rvRC x.1 x.2.1 x.2.2 w) (rvRD x.1 x.2.1 x.2.2 w) (rvRI x.1 x.2.1 x.2.2 w)) w
def rvIns (w : Int) (x : RvRow) : List AV := [.str (rvRN x.1 x.2.1 x.2.2 w), .int .i64 (rvRA x.1 x.2.1 x.2.2 w), .int .i64 (rvRB x.1 x.2.1 x.2.2 w), .int .i64 (rvRC x.1 x.2.1 x.2.2 w), .int .i64 (rvRD x.1 x.2.1 x.2.2 w), .int .i64 (rvRI x.1 x.2.1 x.2.2 w)]
def ins0 : List AV := [.str [], .int .i64 (.ofNat 0), .int .i64 (.ofNat 0), .int .i64 (.ofNat 0), .int .i64 (.ofNat 0), .int .i64 (.ofNat 0)]
def rvOut (w : Int) : Option RvRow → AV
  | some x => .tup [.agg (rvIns w x), .int .i64 (.ofNat 4), .int .i64 (.ofNat 0)]
  | none => .tup [.agg ins0, .int .i64 (.ofNat 0), .int .i64 (.ofNat 22)]
theorem find_at {α : Type} {p : α → Bool} : ∀ {l : List α} {j : Nat} {x : α}, l[j]? = some x → p x = true → (∀ i, i < j → ∀ y, l[i]? = some y → p y = false) → l.find? p = some x
  | [], _, _, h, _, _ => by simp at h
  | y :: l, 0, x, h, hx, _ => by
    simp only [List.getElem?_cons_zero, Option.some.injEq] at h
    subst h
    simp [List.find?, hx]
  | y :: l, j + 1, x, h, hx, hn => by
    have h0 := hn 0 (by omega) y rfl
    simp only [List.find?, h0]
    exact find_at (by simpa using h) hx fun i hi z hz => hn (i + 1) (by omega) z (by simpa using hz)
def isO (o : Option AV) (v : AV) : Bool := match o with
  | some u => AV.eqb u v
  | none => false
theorem isO_of {o : Option AV} {v : AV} (h : isO o v = true) : o = some v := by
  unfold isO at h
  split at h
  · rw [eqb_eq _ _ h]
  · cases h
def chkRow (j : Nat) : Bool := match rvRows[j]? with
  | some x => isO (Tr.get rvTR (Nat.add 0 (Nat.mul j 3))) (.str x.1) && (isO (Tr.get rvTR (Nat.succ (Nat.add 0 (Nat.mul j 3)))) (.int .i64 x.2.1) && isO (Tr.get rvTR (Nat.succ (Nat.succ (Nat.add 0 (Nat.mul j 3))))) (.int .u32 x.2.2))
  | none => false
theorem rows_ok : (List.range 64).all chkRow = true := by kernel_rfl
theorem row_at {j : Nat} (hj : j < 64) : ∃ x, rvRows[j]? = some x ∧ Tr.get rvTR (Nat.add 0 (Nat.mul j 3)) = some (.str x.1) ∧ Tr.get rvTR (Nat.succ (Nat.add 0 (Nat.mul j 3))) = some (.int .i64 x.2.1) ∧ Tr.get rvTR (Nat.succ (Nat.succ (Nat.add 0 (Nat.mul j 3)))) = some (.int .u32 x.2.2) := by
  have h := List.all_eq_true.1 rows_ok j (List.mem_range.2 hj)
  unfold chkRow at h
  split at h
  · rename_i x hx
    simp only [Bool.and_eq_true] at h
    exact ⟨x, hx, isO_of h.1, isO_of h.2.1, isO_of h.2.2⟩
  · cases h
theorem rows_len : rvRows.length = 64 := by kernel_rfl
def vDr (w : Int) (j : Nat) (x : RvRow) : List AV := [.ptr 12 0, .int .i64 (.ofNat 4), .int .i64 (.ofNat 0), .int .u32 w, .sl 13 0 64 (some 64), .int .i64 (.ofNat 64), .int .i64 (.ofNat j)]
theorem kind_self (k : IntKind) : sameKind k k = true := by simp [sameKind]
theorem d2_step {w : Int} {j : Nat} {T4 : Tr AV} (hj : j < 64) : ∃ x, rvRows[j]? = some x ∧ codesKK EV (callKK EV 3) (flat loopD) (leafK 12 SD kd2) (mkFr 80 SD (vD w j)) (mkH 12 [rowI T4, rowR]) =
    bif rvHit w x then lf .ret 80 ((vDr w j x).map some) ([rowI (Tr.putAll T4 0 (rvIns w x)), rowR].map some) else lf .normal 80 ((vD w (j + 1)).map some) ([rowI T4, rowR].map some) := by
  obtain ⟨x, hx, h1, h2, h3⟩ := row_at hj
  refine ⟨x, hx, ?_⟩
  have e := d2_eq w j T4 rvTR
  rw [h1, h2, h3] at e
  refine e.trans ?_
  have u := up_eq (k := j) (by omega)
  unfold rvD2
  simp only [h1, h2, h3, blt_t hj, isS, isI, asS, asI, kind_self, bc_true, u]
  unfold rvHit
  cases ieq (wrapR .u32 (andI .u32 x.2.2 (.ofNat 127))) (wrapR .u32 (andI .u32 w (.ofNat 127))) with
  | false => rfl
  | true =>
    simp only [Bool.not_true, bc_false, Bool.true_and]
    cases ieq (rvWordE x.1 x.2.1 x.2.2 (rvRN x.1 x.2.1 x.2.2 w) (rvRA x.1 x.2.1 x.2.2 w) (rvRB x.1 x.2.1 x.2.2 w) (rvRC x.1 x.2.1 x.2.2 w) (rvRD x.1 x.2.1 x.2.2 w) (rvRI x.1 x.2.1 x.2.2 w)) w <;> rfl
theorem d2_out {w : Int} {T4 : Tr AV} : codesKK EV (callKK EV 3) (flat loopD) (leafK 12 SD kd2) (mkFr 80 SD (vD w 64)) (mkH 12 [rowI T4, rowR]) = lf (.exit 1) 80 ((vD w 64).map some) ([rowI T4, rowR].map some) := by
  refine (d2_eq w 64 T4 rvTR).trans ?_
  rfl
theorem rows2 {T1 : Tr AV} (h1 : PlainT T1) {keep : List Nat} : ∀ (j : Nat) (o o2 : AObj), [rowI T1, rowR][j]? = some o → [rowI T1, rowR][j]? = some o2 → RObj 0 keep o o2 := by
  intro j o o2 e1 e2
  rw [e1] at e2; cases e2
  match j, e1 with
  | 0, e => cases e; exact robj_plain h1
  | 1, e => cases e; exact robj_plain trT_plain
  | j + 2, e => simp at e
theorem rows1 {T1 : Tr AV} (h1 : PlainT T1) {keep : List Nat} : ∀ (j : Nat) (o o2 : AObj), [rowI T1][j]? = some o → [rowI T1][j]? = some o2 → RObj 0 keep o o2 := by
  intro j o o2 e1 e2
  rw [e1] at e2; cases e2
  match j, e1 with
  | 0, e => cases e; exact robj_plain h1
  | j + 1, e => simp at e
theorem insZ_plain : PlainT insZ := putAll_plain (fun i v h => by simp [Tr.get_nil] at h) (plain_list rfl)
theorem ins_plain (w : Int) (x : RvRow) : PlainT (Tr.putAll insZ 0 (rvIns w x)) := putAll_plain insZ_plain (plain_list rfl)
theorem res_hit (w : Int) (x : RvRow) (j : Nat) (o2 : AObj) : resA EV (mkFr 80 SD (vDr w j x)).t (mkH 12 [rowI (Tr.putAll insZ 0 (rvIns w x)), o2]) fnD.results = some [.agg (rvIns w x), .int .i64 (.ofNat 4), .int .i64 (.ofNat 0)] := by kernel_rfl
theorem res_none : resA EV (mkFr 80 [4, 5, 6] [.ptr 12 0, .int .i64 (.ofNat 0), .int .i64 (.ofNat 22)]).t (mkH 12 [rowI (Tr.putAll insZ 0 ins0)]) fnD.results = some [.agg ins0, .int .i64 (.ofNat 0), .int .i64 (.ofNat 22)] := by kernel_rfl
section
variable {P : Program} {I : List MEnt → AHeap → World → Prop} {ro : Option Nat}
def EndD (u : AV) : TQ := fun e fr H => (e = .normal ∨ e = .ret) ∧ fr.df = [] ∧ ∃ keep fr' H' l, Ren 12 keep fr H fr' H' ∧ resA EV fr'.t H' fnD.results = some l ∧ resV l = u
theorem dec_loop (hE : EnvOk EV P I) (hI : Carried I) (w : Int) : Tri EV P I ro (.loop loopD) (mkFr 80 SD (vD w 0)) (mkH 12 [rowI insZ, rowR]) fun e fr H =>
    (e = .exit 1 ∧ rvRows.find? (rvHit w) = none ∧ Ren 12 kd2 fr H (mkFr 80 SD (vD w 64)) (mkH 12 [rowI insZ, rowR])) ∨ (e = .ret ∧ ∃ x j, rvRows.find? (rvHit w) = some x ∧ Ren 12 kd2 fr H (mkFr 80 SD (vDr w j x)) (mkH 12 [rowI (Tr.putAll insZ 0 (rvIns w x)), rowR])) := by
  refine Tri.loop (X := Nat) (fr := fun j => mkFr 80 SD (vD w j)) (H := fun _ => mkH 12 [rowI insZ, rowR]) (Inv := fun j => j ≤ 64 ∧ ∀ i, i < j → ∀ y, rvRows[i]? = some y → rvHit w y = false) (fun j => 64 - j) hI ?_ 0 ⟨Nat.zero_le _, fun i hi => by omega⟩
  rintro j ⟨hj, hn⟩
  refine tri_of_triL _ ?_
  by_cases h : j < 64
  · obtain ⟨x, hx, e⟩ := d2_step (w := w) (T4 := insZ) h
    cases hb : rvHit w x with
    | false =>
      rw [hb] at e
      exact TriL.leafC hE (callKK_ok EV 3) e (by decide) rfl rfl (rows2 insZ_plain) fun fr' H' r => .inl ⟨rfl, j + 1, kd2, ⟨h, fun i hi y hy => by
        by_cases e2 : i = j
        · subst e2; rw [hx] at hy; cases hy; exact hb
        · exact hn i (by omega) y hy⟩, by omega, r⟩
    | true =>
      rw [hb] at e
      exact TriL.leafC hE (callKK_ok EV 3) e (by decide) rfl rfl (rows2 (ins_plain w x)) fun fr' H' r => .inr ⟨(by intro h; cases h), .inr ⟨rfl, x, j, find_at hx hb hn, r⟩⟩
  · obtain rfl : j = 64 := by omega
    refine TriL.leafC hE (callKK_ok EV 3) d2_out (by decide) rfl rfl (rows2 insZ_plain) fun fr' H' r => .inr ⟨(by intro h; cases h), .inl ⟨rfl, ?_, r⟩⟩
    rw [List.find?_eq_none]
    intro y hy
    obtain ⟨i, hi, e⟩ := List.getElem_of_mem hy
    rw [hn i (by rw [← rows_len]; exact hi) y (by rw [List.getElem?_eq_getElem hi, e])]
    simp
theorem dec_rest (hE : EnvOk EV P I) (hI : Carried I) (w : Int) : TriL EV P I ro (((flat fnD.body).drop 3).take 1 ++ .block 1 (.loop loopD) :: (flat fnD.body).drop 5) (mkFr 80 SD0 [.ptr 12 0, .int .i64 (.ofNat 0), .int .i64 (.ofNat 0), .int .u32 w]) (mkH 12 [rowI insZ]) (EndD (rvOut w (rvRows.find? (rvHit w)))) := by
  refine TriL.leafXC hE hI (callKK_ok EV 3) (vs := vD w 0) (os := [rowI insZ, rowR]) (os2 := [rowI insZ, rowR]) (d1_eq w insZ) (by decide) rfl rfl (rows2 insZ_plain) (.inl ⟨rfl, ?_⟩)
  refine Tri.mono (Tri.block (Q := fun e fr H => (e = .normal ∧ rvRows.find? (rvHit w) = none ∧ Ren 12 kd2 fr H (mkFr 80 SD (vD w 64)) (mkH 12 [rowI insZ, rowR])) ∨ (e = .ret ∧ ∃ x j, rvRows.find? (rvHit w) = some x ∧ Ren 12 kd2 fr H (mkFr 80 SD (vDr w j x)) (mkH 12 [rowI (Tr.putAll insZ 0 (rvIns w x)), rowR]))) ((dec_loop hE hI w).mono ?_)) ?_
  · rintro e fr H (⟨rfl, h⟩ | ⟨rfl, h⟩)
    · exact .inl ⟨rfl, h⟩
    · exact .inr ⟨rfl, h⟩
  · rintro e fr H (⟨rfl, hf, r⟩ | ⟨rfl, x, j, hf, r⟩)
    · refine .inl ⟨rfl, TriL.ren hI r ?_⟩
      rw [hf]
      exact TriL.leafC hE (callKK_ok EV 3) (vs := [.ptr 12 0, .int .i64 (.ofNat 0), .int .i64 (.ofNat 22)]) (os := [rowI (Tr.putAll insZ 0 ins0)]) (os2 := [rowI (Tr.putAll insZ 0 ins0)]) (d3_eq w 64 insZ rvTR) (by decide) rfl rfl (rows1 (putAll_plain insZ_plain (plain_list rfl))) fun fr' H' r => ⟨.inr rfl, r.df.1, _, _, _, _, r, res_none, rfl⟩
    · refine .inr ⟨(by intro h; cases h), .inr rfl, r.df.1, _, _, _, _, r, res_hit w x j rowR, ?_⟩
      rw [hf]; rfl
end
end
end Go.Proofs.YtpmlihmaodpmfaaGreatDoor
