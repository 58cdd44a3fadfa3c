/- The interpreter in the form of a tree: it carries on with values that are not known, and answers by tests on them (a test's false side is none where nothing is said). What it answers, the interpreter answers. -/
import Derived.Test.YtopjbfgikglncaaGreatDoorVaiFast
import Derived.Test.YtopjbfgikglncaaGreatDoorVaiTri
namespace Go.Vai
noncomputable section

theorem bc_true {α : Type} (x y : α) : bc true x y = x := rfl
theorem bc_false {α : Type} (x y : α) : bc false x y = y := rfl

/-! ### What a cell holds -/
def isB : Option AV → Bool
  | some (.bool _) => true
  | _ => false
def asB : Option AV → Bool
  | some (.bool b) => b
  | _ => false
def isI (k : IntKind) : Option AV → Bool
  | some (.int j _) => sameKind j k
  | _ => false
def asI : Option AV → Int
  | some (.int _ n) => n
  | _ => 0
def isS : Option AV → Bool
  | some (.str _) => true
  | _ => false
def asS : Option AV → List UInt8
  | some (.str s) => s
  | _ => []
def isN : Option AV → Bool
  | some .nils => true
  | _ => false
def isSl : Option AV → Bool
  | some (.sl _ _ _ _) => true
  | _ => false
def slI : Option AV → Nat
  | some (.sl i _ _ _) => i
  | _ => 0
def slO : Option AV → Nat
  | some (.sl _ o _ _) => o
  | _ => 0
def slN : Option AV → Nat
  | some (.sl _ _ n _) => n
  | _ => 0
def slC : Option AV → Option Nat
  | some (.sl _ _ _ c) => c
  | _ => none

section
variable {α : Type}
/-- A cell's value, by the make of its zero. -/
def ldK : AV → Option AV → (AV → Option α) → Option α
  | .bool _ => fun x k => bc (isB x) (k (.bool (asB x))) none
  | .int kd _ => fun x k => bc (isI kd x) (k (.int kd (asI x))) none
  | .str _ => fun x k => bc (isS x) (k (.str (asS x))) none
  | .nils => fun x k => bc (isSl x) (k (.sl (slI x) (slO x) (slN x) (slC x))) (bc (isN x) (k .nils) none)
  | _ => fun x k => ob x k

theorem bc_some {b : Bool} {x y : Option α} {r : α} (h : bc b x y = some r) : (b = true ∧ x = some r) ∨ (b = false ∧ y = some r) := by
  cases b
  · exact .inr ⟨rfl, h⟩
  · exact .inl ⟨rfl, h⟩
theorem bc_none {b : Bool} {x : Option α} {r : α} (h : bc b x none = some r) : b = true ∧ x = some r := by
  rcases bc_some h with h | ⟨_, h⟩
  · exact h
  · cases h
theorem ob_some' {β : Type} {x : Option β} {f : β → Option α} {r : α} (h : ob x f = some r) : ∃ v, x = some v ∧ f v = some r := by
  cases x with
  | none => cases h
  | some v => exact ⟨v, rfl, h⟩

theorem ldK_some {z : AV} {x : Option AV} {k : AV → Option α} {r : α} (h : ldK z x k = some r) : ∃ v, x = some v ∧ k v = some r := by
  unfold ldK at h
  split at h
  · obtain ⟨h1, h2⟩ := bc_none h
    unfold isB at h1
    split at h1
    · rename_i b; exact ⟨.bool b, rfl, h2⟩
    · cases h1
  · rename_i kd _
    obtain ⟨h1, h2⟩ := bc_none h
    unfold isI at h1
    split at h1
    · rename_i j n
      rw [sameKind_iff] at h1
      subst h1
      exact ⟨.int j n, rfl, h2⟩
    · cases h1
  · obtain ⟨h1, h2⟩ := bc_none h
    unfold isS at h1
    split at h1
    · rename_i s; exact ⟨.str s, rfl, h2⟩
    · cases h1
  · rcases bc_some h with ⟨h1, h2⟩ | ⟨_, h⟩
    · unfold isSl at h1
      split at h1
      · rename_i i o n c; exact ⟨.sl i o n c, rfl, h2⟩
      · cases h1
    · obtain ⟨h1, h2⟩ := bc_none h
      unfold isN at h1
      split at h1
      · exact ⟨.nils, rfl, h2⟩
      · cases h1
  · exact ob_some' h

/-- Cells from place 'off' on, by the make of their zeros. -/
def ldsK (c : Tr AV) (zs : List AV) : Nat → (List AV → Option α) → Option α :=
  List.rec (motive := fun _ => Nat → (List AV → Option α) → Option α) (fun _ k => k []) (fun z _ ih off k => ldK z (c.get off) fun v => ih (Nat.succ off) fun vs => k (v :: vs)) zs
theorem ldsK_some {c : Tr AV} : ∀ {zs : List AV} {off : Nat} {k : List AV → Option α} {r : α}, ldsK c zs off k = some r → ∃ vs, c.getAll off zs.length = some vs ∧ k vs = some r := by
  intro zs
  induction zs with
  | nil => intro off k r h; exact ⟨[], rfl, h⟩
  | cons z zs ih =>
    intro off k r h
    have h' : (ldK z (c.get off) fun v => ldsK c zs (off + 1) fun vs => k (v :: vs)) = some r := h
    obtain ⟨v, hv, h2⟩ := ldK_some h'
    obtain ⟨vs, hvs, h3⟩ := ih h2
    refine ⟨v :: vs, ?_, h3⟩
    rw [List.length_cons, Tr.getAll_succ, hv]
    simp only [hvs]

def rowK (o : Option AObj) (k : Tr AV → Option α) : Option α :=
  match o with
  | some (.cells _ c _ _ _ _ _) => k c
  | _ => none
def loadT (ti : ATy) (off : Nat) (k : AV → Option α) (c : Tr AV) : Option α :=
  bc ti.agg (bc (Nat.beq ti.zero.length ti.size) (ldsK c ti.zero off fun l => k (.agg l)) none) (match ti.zero with | [z] => ldK z (c.get off) k | _ => ob (c.get off) k)
def loadKK (E : Env) (H : AHeap) (t : TypeId) (k : AV → Option α) : AV → Option α
  | .ptr id off => ob (E.ty t) fun ti => rowK (H.get id) (loadT ti off k)
  | _ => none
theorem loadKK_some {E : Env} {H : AHeap} {t : TypeId} {k : AV → Option α} {p : AV} {r : α} (h : loadKK E H t k p = some r) : ∃ v, loadVarA E H t p = some v ∧ k v = some r := by
  cases p <;> try (cases h; done)
  rename_i id off
  simp only [loadKK] at h
  replace h := ob_some' h
  obtain ⟨ti, ht, h⟩ := h
  unfold rowK at h
  split at h
  case h_2 => cases h
  rename_i n c e g fz ro mk hget
  simp only [loadVarA, ht, hget]
  unfold loadT at h
  rcases bc_some h with ⟨h1, h⟩ | ⟨h1, h⟩
  · obtain ⟨hb, h⟩ := bc_none h
    rw [Nat.beq_eq] at hb
    obtain ⟨vs, hvs, h2⟩ := ldsK_some h
    rw [hb] at hvs
    exact ⟨.agg vs, by rw [h1]; simp [hvs], h2⟩
  · have hx : ∃ v, c.get off = some v ∧ k v = some r := by
      split at h
      · exact ldK_some h
      · exact ob_some' h
    obtain ⟨v, hv, h2⟩ := hx
    exact ⟨v, by rw [h1]; simp [hv], h2⟩

/-! ### One operation -/
abbrev KF (α : Type) := Env → AHeap → Tr AV → (ARes → Option α) → Option α
def kOb (x : Option ARes) (k : ARes → Option α) : Option α := ob x k

def kPick (c a b : Operand) : KF α := fun E H fr k => ob (opdR E fr c) fun v => match v with
  | .bool t => bc t (ob (opdR E fr a) fun v => k (.val v H)) (ob (opdR E fr b) fun v => k (.val v H))
  | _ => none
def kLoad (t : TypeId) (a : Operand) : KF α := fun E H fr k => ob (opdR E fr a) fun p => loadKK E H t (fun v => k (.val v H)) p
def stK (H : AHeap) (ti : ATy) (id off : Nat) (vs : List AV) (k : ARes → Option α) : Option AObj → Option α
  | some (.cells n c e g fz ro mk) => bc (Nat.beq vs.length ti.size && vs.all AV.one) (bc (Nat.ble (off + ti.size) n) (bc (Nat.ble fz off && !ro) (k (.skip (H.put id (.cells n (c.putAll off vs) e g fz ro mk)))) none) none) none
  | _ => none
def kStore (t : TypeId) (a x : Operand) : KF α := fun E H fr k => ob (opdR E fr a) fun p => ob (opdR E fr x) fun v => match p with
  | .ptr id off => ob (E.ty t) fun ti => stK H ti id off v.cells k (H.get id)
  | _ => none
def idxK (ei : ATy) (id off len : Nat) (i : Int) (H : AHeap) (k : ARes → Option α) : Option α :=
  bc (ilt i 0) none (bc (Nat.blt i.toNat len) (k (.val (.ptr id (Nat.add off (Nat.mul i.toNat ei.size))) H)) none)
def kIndexAddr (t : TypeId) (x i : Operand) : KF α := fun E H fr k => ob (opdR E fr x) fun a => ob (opdR E fr i) fun b => ob (E.ty t) fun ti => match ti.d, a, b with
  | .array n e, .ptr id off, .int _ i => ob (E.ty e) fun ei => idxK ei id off n i H k
  | .slice e, .sl id off len _, .int _ i => ob (E.ty e) fun ei => idxK ei id off len i H k
  | _, _, _ => none
def byteAt (s : List UInt8) (i : Nat) : UInt8 := (nth s i).getD 0
def kIndex (t : TypeId) (x i : Operand) : KF α := fun E H fr k => ob (opdR E fr x) fun a => ob (opdR E fr i) fun b => ob (E.ty t) fun ti => match ti.d, a, b with
  | .str, .str s, .int _ i => bc (ilt i 0) none (bc (Nat.blt i.toNat (lenU s)) (k (.val (byteAV (byteAt s i.toNat)) H)) none)
  | _, _, _ => ob (indexA E t a b) fun v => k (.val v H)
def bndK (top : Nat) (k : Nat → Option α) : AV → Option α
  | .int _ i => bc (ilt i 0) none (bc (Nat.ble i.toNat top) (k i.toNat) none)
  | _ => none
def loK (h : Nat) (k : Nat → Option α) : Option AV → Option α
  | some v => bndK h k v
  | none => k 0
def hiK (len top : Nat) (k : Nat → Option α) : Option AV → Option α
  | some v => bndK top k v
  | none => k len
def rowSlK (id off size h l c : Nat) (H : AHeap) (k : ARes → Option α) : Option α :=
  bc (Nat.beq c l) (k (.val (.sl id off (Nat.sub h l) (some (Nat.sub c l))) H)) (k (.val (.sl id (Nat.add off (Nat.mul l size)) (Nat.sub h l) (some (Nat.sub c l))) H))
def growSlK (ei : ATy) (id off len : Nat) (hi lo : Option AV) (H : AHeap) (k : ARes → Option α) : Option AObj → Option α
  | some (.cells n _ _ (some gs) _ _ _) => bc (Nat.beq gs ei.size && !(Nat.beq gs 0)) (bc (Nat.ble (Nat.add off (Nat.mul len gs)) n) (hiK len (Nat.div (Nat.sub n off) gs) (fun h => loK h (fun l => bc (Nat.blt (Nat.add off (Nat.mul l gs)) n) (k (.val (.sl id (Nat.add off (Nat.mul l gs)) (Nat.sub h l) none) H)) (bc (Nat.beq l 0) (k (.val (.sl id (Nat.add off (Nat.mul l gs)) (Nat.sub h l) none) H)) (k (.val .sl0 H)))) lo) hi) none) none
  | _ => none
def kSlice (t : TypeId) (x : Operand) (lo hi mx : Option Operand) : KF α := fun E H fr k => ob (opdR E fr x) fun a => ob (optR E fr lo) fun l => ob (optR E fr hi) fun h => ob (optR E fr mx) fun m => ob (E.ty t) fun ti => match ti.d, a, m with
  | .str, .str s, none => (match h with
      | none => loK (lenU s) (fun l => k (.val (.str (s.drop l)) H)) l
      | some hv => bndK (lenU s) (fun h => loK h (fun l => k (.val (.str ((s.drop l).take (Nat.sub h l))) H)) l) hv)
  | .slice e, .sl id off len (some c), none => ob (E.ty e) fun ei => hiK len c (fun h => loK h (fun l => rowSlK id off ei.size h l c H k) l) h
  | .slice e, .sl id off len none, none => ob (E.ty e) fun ei => growSlK ei id off len h l H k (H.get id)
  | _, _, _ => ob (sliceA E H t a l h m) fun v => k (.val v H)
def kMake (t : TypeId) (l c : Operand) : KF α := fun E H fr k => ob (opdR E fr l) fun a => ob (opdR E fr c) fun b => ob (E.ty t) fun ti => match ti.d, a, b with
  | .slice e, .int _ l, .int _ c => ob (E.ty e) fun ei => bc (ilt l 0) none (bc (ilt c l) none (bc (roomy c.toNat (ei.bytes + ei.size)) (k (.val (.sl H.next 0 l.toNat (some c.toNat)) (newRowA H e (rep ei.zero c.toNat)))) none))
  | _, _, _ => none
def isAdd : BinOp → Bool
  | .add => true
  | _ => false
def shlI (a : Int) (n : Nat) : Int := Int.mul a (Int.ofNat (Nat.pow 2 n))
def shrI (a : Int) (n : Nat) : Int := Int.fdiv a (Int.ofNat (Nat.pow 2 n))
def andI (kd : IntKind) (a b : Int) : Int := Int.ofNat (Nat.land (bitsOf kd a) (bitsOf kd b))
def orI (kd : IntKind) (a b : Int) : Int := Int.ofNat (Nat.lor (bitsOf kd a) (bitsOf kd b))
def xorI (kd : IntKind) (a b : Int) : Int := Int.ofNat (Nat.xor (bitsOf kd a) (bitsOf kd b))
def andNotI (kd : IntKind) (a b : Int) : Int := Int.ofNat (Nat.land (bitsOf kd a) (Nat.xor (2 ^ kd.bits - 1) (bitsOf kd b)))
def intKK (op : BinOp) (kd kd' : IntKind) (a b : Int) (k : AV → Option α) : Option α :=
  match op with
  | .shl => bc (ilt b 0) none (k (.int kd (wrapR kd (shlI a (Nat.min b.toNat kd.bits)))))
  | .shr => bc (ilt b 0) none (k (.int kd (shrI a (Nat.min b.toNat kd.bits))))
  | .quo => bc (sameKind kd kd') (bc (ieq b 0) none (k (.int kd (wrapR kd (Int.tdiv a b))))) none
  | .rem => bc (sameKind kd kd') (bc (ieq b 0) none (k (.int kd (Int.tmod a b)))) none
  | .and => bc (sameKind kd kd') (k (.int kd (wrapR kd (andI kd a b)))) none
  | .or => bc (sameKind kd kd') (k (.int kd (wrapR kd (orI kd a b)))) none
  | .xor => bc (sameKind kd kd') (k (.int kd (wrapR kd (xorI kd a b)))) none
  | .andNot => bc (sameKind kd kd') (k (.int kd (wrapR kd (andNotI kd a b)))) none
  | op => bc (sameKind kd kd') (ob (intOp op kd a b) k) none
theorem two_pow (n : Nat) : (2 : Int) ^ n = Int.ofNat (Nat.pow 2 n) := by
  show _ = ((2 ^ n : Nat) : Int)
  rw [Int.natCast_pow]; rfl
theorem intKK_some {op : BinOp} {kd kd' : IntKind} {a b : Int} {k : AV → Option α} {r : α} (E : Env) (t : TypeId) (h : intKK op kd kd' a b k = some r) : ∃ v, binA E op t (.int kd a) (.int kd' b) = some v ∧ k v = some r := by
  have same : ∀ {x : Option α}, bc (sameKind kd kd') x none = some r → kd = kd' ∧ x = some r := fun h => by
    obtain ⟨h1, h2⟩ := bc_none h
    exact ⟨(sameKind_iff _ _).1 h1, h2⟩
  have sk : ∀ k : IntKind, sameKind k k = true := fun k => (sameKind_iff _ _).2 rfl
  cases op <;> simp only [intKK] at h
  case shl =>
    rcases bc_some h with ⟨_, h⟩ | ⟨h1, h⟩
    · cases h
    · refine ⟨_, ?_, h⟩
      simp only [binA, intShift, h1, cond_false, wrapR_eq, shlI]
      rw [two_pow]; rfl
  case shr =>
    rcases bc_some h with ⟨_, h⟩ | ⟨h1, h⟩
    · cases h
    · refine ⟨_, ?_, h⟩
      simp only [binA, intShift, h1, cond_false, shrI]
      rw [two_pow]
  case quo =>
    obtain ⟨e, h2⟩ := same h; clear h; subst e
    rcases bc_some h2 with ⟨_, h⟩ | ⟨h1, h⟩
    · cases h
    · exact ⟨_, by simp only [binA, sk, cond_true, intBin, h1, cond_false, wrapR_eq], h⟩
  case rem =>
    obtain ⟨e, h2⟩ := same h; clear h; subst e
    rcases bc_some h2 with ⟨_, h⟩ | ⟨h1, h⟩
    · cases h
    · exact ⟨_, by simp only [binA, sk, cond_true, intBin, h1, cond_false], h⟩
  case and => obtain ⟨e, h2⟩ := same h; clear h; subst e; exact ⟨_, by simp only [binA, sk, cond_true, intBin, wrapR_eq, andI]; rfl, h2⟩
  case or => obtain ⟨e, h2⟩ := same h; clear h; subst e; exact ⟨_, by simp only [binA, sk, cond_true, intBin, wrapR_eq, orI]; rfl, h2⟩
  case xor => obtain ⟨e, h2⟩ := same h; clear h; subst e; exact ⟨_, by simp only [binA, sk, cond_true, intBin, wrapR_eq, xorI]; rfl, h2⟩
  case andNot => obtain ⟨e, h2⟩ := same h; clear h; subst e; exact ⟨_, by simp only [binA, sk, cond_true, intBin, wrapR_eq, andNotI]; rfl, h2⟩
  all_goals
    obtain ⟨e, h2⟩ := same h; clear h; subst e
    obtain ⟨v, hv, h⟩ := ob_some' h2
    rw [intOp_eq] at hv
    exact ⟨v, by simp only [binA, sk, cond_true]; exact hv, h⟩
/-- Two structs' fields, all of them looked at. -/
def eqFsN (E : Env) (as bs : List AV) : List (Nat × Nat) → Option Bool
  | [] => some true
  | (o, ft) :: fs => match partA E ft as o, partA E ft bs o with
    | some x, some y => (match eqv E 5 ft x y, eqFsN E as bs fs with
      | some b, some c => some (b && c)
      | some b, none => bif b then none else some false
      | none, _ => none)
    | _, _ => none
theorem eqFsN_eq (E : Env) (as bs : List AV) : ∀ l : List (Nat × Nat), eqFsN E as bs l = eqFs E (eqv E 5) as bs l
  | [] => rfl
  | (o, ft) :: fs => by
    simp only [eqFsN, eqFs]
    rw [eqFsN_eq E as bs fs]
    cases partA E ft as o with
    | none => rfl
    | some x =>
      cases partA E ft bs o with
      | none => rfl
      | some y =>
        simp only
        cases eqv E 5 ft x y with
        | none => rfl
        | some b => cases b <;> cases eqFs E (eqv E 5) as bs fs <;> rfl
def isEq : BinOp → Bool
  | .eql => true
  | _ => false
def isNe : BinOp → Bool
  | .neq => true
  | _ => false
def aggKK (E : Env) (H : AHeap) (op : BinOp) (t : TypeId) (k : ARes → Option α) (as bs : List AV) : Option α := ob (E.ty t) fun ti => match ti.d with
  | .struct fs eqok => bc eqok (ob (eqFsN E as bs fs) fun e => bc (isEq op) (k (.val (.bool e) H)) (bc (isNe op) (k (.val (.bool (!e)) H)) none)) none
  | _ => none
theorem aggKK_some {E : Env} {H : AHeap} {op : BinOp} {t : TypeId} {x y : Operand} {k : ARes → Option α} {as bs : List AV} {r : α} (h : aggKK E H op t k as bs = some r) : ob (binK E H op t x y (.agg as) (.agg bs)) k = some r := by
  unfold aggKK at h
  obtain ⟨ti, ht, h⟩ := ob_some' h
  split at h
  case h_2 => cases h
  rename_i fs eqok hd
  obtain ⟨h1, h⟩ := bc_none h
  obtain ⟨e, he, h⟩ := ob_some' h
  rw [eqFsN_eq] at he
  have hv : eqv E 6 t (.agg as) (.agg bs) = some e := by
    simp only [eqv, ht, hd, h1, cond_true]
    exact he
  rcases bc_some h with ⟨ho, h2⟩ | ⟨_, h2⟩
  · obtain rfl : op = .eql := by cases op <;> first | rfl | cases ho
    have e2 : binK E H .eql t x y (.agg as) (.agg bs) = some (.val (.bool e) H) := by
      show (ob (binR E .eql t (.agg as) (.agg bs)) fun v => rv H v) = _
      rw [binR_eq]
      simp only [binA, hv]
      rfl
    rw [e2]; exact h2
  · obtain ⟨ho, h3⟩ := bc_none h2
    obtain rfl : op = .neq := by cases op <;> first | rfl | cases ho
    have e2 : binK E H .neq t x y (.agg as) (.agg bs) = some (.val (.bool (!e)) H) := by
      show (ob (binR E .neq t (.agg as) (.agg bs)) fun v => rv H v) = _
      rw [binR_eq]
      simp only [binA, hv]
      rfl
    rw [e2]; exact h3
def binKK (E : Env) (H : AHeap) (op : BinOp) (t : TypeId) (x y : Operand) (k : ARes → Option α) : AV → AV → Option α
  | .str a, .str b => bc (isAdd op) (bc (Nat.ble (Nat.add (lenU a) (lenU b)) 1099511627776) (k (.val (.str (a ++ b)) H)) none) (ob (binK E H op t x y (.str a) (.str b)) k)
  | .int kd a, .int kd' b => intKK op kd kd' a b fun v => k (.val v H)
  | .agg as, .agg bs => aggKK E H op t k as bs
  | a, b => ob (binK E H op t x y a b) k
theorem binKK_some {E : Env} {H : AHeap} {op : BinOp} {t : TypeId} {x y : Operand} {k : ARes → Option α} {a b : AV} {r : α} (h : binKK E H op t x y k a b = some r) : ob (binK E H op t x y a b) k = some r := by
  unfold binKK at h
  split at h
  · rename_i a b
    rcases bc_some h with ⟨ho, h2⟩ | ⟨_, h2⟩
    · obtain ⟨h1, h3⟩ := bc_none h2
      obtain rfl : op = .add := by cases op <;> first | rfl | cases ho
      have h1' : Nat.ble (lenU a + lenU b) 1099511627776 = true := h1
      have e : binK E H .add t x y (.str a) (.str b) = some (.val (.str (a ++ b)) H) := by
        show (ob (binR E .add t (.str a) (.str b)) fun v => rv H v) = _
        rw [binR_eq]
        simp only [binA, strBin, h1', cond_true]
        rfl
      rw [e]; exact h3
    · exact h2
  · rename_i kd a kd' b
    obtain ⟨v, hv, h2⟩ := intKK_some E t h
    have e : binK E H op t x y (.int kd a) (.int kd' b) = some (.val v H) := by
      show (ob (binR E op t (.int kd a) (.int kd' b)) fun v => rv H v) = _
      rw [binR_eq, hv]; rfl
    rw [e]; exact h2
  · exact aggKK_some h
  · exact h
def kBin (op : BinOp) (t : TypeId) (x y : Operand) : KF α := fun E H fr k => ob (opdR E fr x) fun a => ob (opdR E fr y) fun b => binKK E H op t x y k a b

/-! ### append, conversions, pieces of rows -/
def hasA (c : Tr AV) (off n : Nat) : Bool := (c.getAll off n).isSome
def getA (c : Tr AV) (off n : Nat) : List AV := (c.getAll off n).getD []
theorem hasA_eq {c : Tr AV} {off n : Nat} (h : hasA c off n = true) : c.getAll off n = some (getA c off n) := by
  unfold hasA at h; unfold getA
  cases e : c.getAll off n with
  | none => rw [e] at h; cases h
  | some l => rfl
def hasY (l : List AV) : Bool := (bytesA l).isSome
def getY (l : List AV) : List UInt8 := (bytesA l).getD []
theorem hasY_eq {l : List AV} (h : hasY l = true) : bytesA l = some (getY l) := by
  unfold hasY at h; unfold getY
  cases e : bytesA l with
  | none => rw [e] at h; cases h
  | some l => rfl
def onesA (l : List AV) : Bool := l.all AV.one
def cellsK (H : AHeap) (es n : Nat) (k : List AV → Option α) : AV → Option α
  | .nils => k []
  | .sl0 => bc (Nat.beq n 0) (k []) none
  | .sl id off _ _ => rowK (H.get id) fun c => bc (hasA c off (Nat.mul n es)) (k (getA c off (Nat.mul n es))) none
  | .str s => bc (Nat.beq es 1) (k (s.map byteAV)) none
  | _ => none
theorem cellsK_some {H : AHeap} {es n : Nat} {k : List AV → Option α} {x : AV} {r : α} (h : cellsK H es n k x = some r) (hn : ∀ s, x = .str s → n = lenU s) : ∃ l, sliceCells H es n x = some l ∧ k l = some r := by
  cases x <;> try (cases h; done)
  case nils => exact ⟨[], rfl, h⟩
  case sl0 =>
    obtain ⟨h1, h2⟩ := bc_none h
    exact ⟨[], by simp only [sliceCells, h1, cond_true], h2⟩
  case sl id off len cap =>
    simp only [cellsK, rowK] at h
    split at h
    case h_2 => cases h
    rename_i c _ _ _ _ _ hget
    obtain ⟨h1, h2⟩ := bc_none h
    exact ⟨_, by simp only [sliceCells, hget]; exact hasA_eq h1, h2⟩
  case str s =>
    obtain ⟨h1, h2⟩ := bc_none h
    refine ⟨s.map byteAV, ?_, h2⟩
    have := hn s rfl
    simp only [sliceCells, h1, cond_true, this, lenU, List.take_length]
def lenK (k : Nat → Option α) : AV → Option α
  | .nils => k 0
  | .sl0 => k 0
  | .sl _ _ n _ => k n
  | .str s => k (lenU s)
  | _ => none
theorem lenK_some {k : Nat → Option α} {x : AV} {r : α} (h : lenK k x = some r) : ∃ n, lenA x = some n ∧ k n = some r := by
  cases x <;> first | (cases h; done) | exact ⟨_, rfl, h⟩
def putK (k : AV → AHeap → Option α) (H : AHeap) (id off len c m es : Nat) (news : List AV) : Option AObj → Option α
  | some (.cells n cs e' g fz ro mk) => bc (Nat.ble (Nat.add off (Nat.mul (Nat.add len m) es)) n) (bc (Nat.ble fz (Nat.add off (Nat.mul len es)) && !ro) (bc (onesA news) (k (.sl id off (Nat.add len m) (some c)) (H.put id (.cells n (cs.putAll (Nat.add off (Nat.mul len es)) news) e' g fz ro mk))) none) none) none
  | _ => none
def growK (k : AV → AHeap → Option α) (H : AHeap) (id off len e m es eb : Nat) (news : List AV) : Option AObj → Option α
  | some (.cells n cs e' (some gs) fz false mk) => bc (Nat.beq off 0 && (Nat.beq gs es && Nat.beq e e')) (bc (Nat.beq n (Nat.mul len es)) (bc (Nat.ble fz n) (bc (roomy (Nat.add len m) eb) (bc (onesA news) (k (.sl H.next 0 (Nat.add len m) none) ((H.kill id).new (.cells (Nat.add n (Nat.mul m es)) (cs.putAll n news) e (some gs) fz false mk))) none) none) none) none) none
  | _ => none
def appK (H : AHeap) (e es eb m : Nat) (news : List AV) (k : AV → AHeap → Option α) : AV → Option α
  | .nils => bc (Nat.beq m 0) (k .nils H) (bc (roomy m eb) (k (.sl H.next 0 m none) (H.new (.cells (Nat.mul m es) (Tr.nil.putAll 0 news) e (some es) 0 false false))) none)
  | .sl id off len (some c) => bc (Nat.ble (Nat.add len m) c) (bc (Nat.beq m 0) (k (.sl id off (Nat.add len m) (some c)) H) (putK k H id off len c m es news (H.get id)))
      (bc (roomy (Nat.add len m) eb) (cellsK H es len (fun olds => k (.sl H.next 0 (Nat.add len m) none) (H.new (.cells (Nat.mul (Nat.add len m) es) (Tr.nil.putAll 0 (olds ++ news)) e (some es) 0 false false))) (.sl id off len (some c))) none)
  | .sl id off len none => bc (Nat.beq m 0) (k (.sl id off len none) H) (growK k H id off len e m es eb news (H.get id))
  | _ => none
theorem appK_some {H : AHeap} {e es eb m : Nat} {news : List AV} {k : AV → AHeap → Option α} {s : AV} {r : α} (h : appK H e es eb m news k s = some r) : ∃ v H', appendCells H e es eb m news s = some (v, H') ∧ k v H' = some r := by
  cases s <;> try (cases h; done)
  case nils =>
    simp only [appK] at h
    rcases bc_some h with ⟨h1, h⟩ | ⟨h1, h⟩
    · exact ⟨_, _, by simp only [appendCells, h1, cond_true], h⟩
    · obtain ⟨h2, h⟩ := bc_none h
      exact ⟨_, _, by simp only [appendCells, h1, h2, cond_true, cond_false]; rfl, h⟩
  case sl id off len cap =>
    cases cap with
    | some c =>
      simp only [appK] at h
      rcases bc_some h with ⟨h1, h⟩ | ⟨h1, h⟩
      · have h1' : Nat.ble (len + m) c = true := h1
        rcases bc_some h with ⟨h2, h⟩ | ⟨h2, h⟩
        · exact ⟨_, _, by simp only [appendCells, h1', h2, cond_true]; rfl, h⟩
        · unfold putK at h
          split at h
          case h_2 => cases h
          rename_i n cs e' g fz ro mk hget
          obtain ⟨h3, h⟩ := bc_none h
          obtain ⟨h4, h⟩ := bc_none h
          obtain ⟨h5, h⟩ := bc_none h
          rw [Bool.and_eq_true] at h4
          have h3' : Nat.ble (off + (len + m) * es) n = true := h3
          have h4' : Nat.ble fz (off + len * es) = true := h4.1
          have h5' : news.all AV.one = true := h5
          exact ⟨_, _, by simp only [appendCells, h1', h2, cond_true, cond_false, hget, h3', h4', h4.2, h5', Bool.and_self]; rfl, h⟩
      · have h1' : Nat.ble (len + m) c = false := h1
        obtain ⟨h2, h⟩ := bc_none h
        have h2' : roomy (len + m) eb = true := h2
        obtain ⟨l, hl, h⟩ := cellsK_some h (fun s e => by cases e)
        exact ⟨_, _, by simp only [appendCells, h1', h2', cond_true, cond_false, hl]; rfl, h⟩
    | none =>
      simp only [appK] at h
      rcases bc_some h with ⟨h1, h⟩ | ⟨h1, h⟩
      · exact ⟨_, _, by simp only [appendCells, h1, cond_true], h⟩
      · unfold growK at h
        split at h
        case h_2 => cases h
        rename_i n cs e' gs fz mk hget
        obtain ⟨h3, h⟩ := bc_none h
        obtain ⟨h4, h⟩ := bc_none h
        obtain ⟨h5, h⟩ := bc_none h
        obtain ⟨h6, h⟩ := bc_none h
        obtain ⟨h7, h⟩ := bc_none h
        simp only [Bool.and_eq_true] at h3
        have h4' : Nat.beq n (len * es) = true := h4
        have h6' : roomy (len + m) eb = true := h6
        have h7' : news.all AV.one = true := h7
        refine ⟨_, _, ?_, h⟩
        simp only [appendCells, h1, cond_false, hget, h3.1, h3.2.1, h3.2.2, h4', h5, h6', h7', Bool.and_self, cond_true]
        rfl
def trimK (E : Env) (H : AHeap) (t : TypeId) (s : AV) (k : AHeap → Option α) : Option α :=
  match s with
  | .sl id 0 len none => match E.ty t with
    | some ti => match ti.d with
      | .slice e => match E.ty e, H.get id with
        | some ei, some (.cells n c e' g fz false mk) => bc (Nat.blt (Nat.mul len ei.size) n) (bc (Nat.ble fz (Nat.mul len ei.size)) (bc (hasA c 0 (Nat.mul len ei.size)) (k (H.put id (.cells (Nat.mul len ei.size) (Tr.nil.putAll 0 (getA c 0 (Nat.mul len ei.size))) e' g fz false mk))) none) none) (k H)
        | _, _ => k H
      | _ => k H
    | none => k H
  | _ => k H
theorem trimK_some {E : Env} {H : AHeap} {t : TypeId} {s : AV} {k : AHeap → Option α} {r : α} (h : trimK E H t s k = some r) : k (trimS E H t s) = some r := by
  unfold trimK at h
  unfold trimS
  split at h
  · rename_i id len
    cases ht : E.ty t with
    | none => rw [ht] at h; exact h
    | some ti =>
      rw [ht] at h
      dsimp only at h ⊢
      cases hd : ti.d <;> rw [hd] at h <;> try exact h
      rename_i e
      dsimp only at h ⊢
      split at h
      · rename_i ei n c e' g fz mk he hget
        simp only [he, hget]
        rcases bc_some h with ⟨h1, h⟩ | ⟨h1, h⟩
        · obtain ⟨h2, h⟩ := bc_none h
          obtain ⟨h3, h⟩ := bc_none h
          have h1' : Nat.blt (len * ei.size) n = true := h1
          have h2' : Nat.ble fz (len * ei.size) = true := h2
          have h3' := hasA_eq h3
          have h3'' : c.getAll 0 (len * ei.size) = some (getA c 0 (len * ei.size)) := h3'
          simp only [h1', h2', Bool.and_self, cond_true, h3'']
          exact h
        · have h1' : Nat.blt (len * ei.size) n = false := h1
          simp only [h1', Bool.false_and, cond_false]
          exact h
      · rename_i hno
        simp only []
        exact h
  · rename_i hno
    split
    · exact absurd rfl (hno _ _)
    · exact h
def kAppend (ts : List TypeId) (args : List Operand) : KF α := fun E H fr k => match ts with
  | t :: u :: _ => ob (opdsR E fr args) fun l => match l with
    | [s, x] => ob (E.ty t) fun ti => match ti.d with
      | .slice e => ob (E.ty e) fun ei => bc (srcTy E u && !(Nat.beq ei.size 0)) (trimK E H t s fun H => lenK (fun m => cellsK H ei.size m (fun news => appK H e ei.size ei.bytes m news (fun v H => k (.val v H)) s) x) x)
          (bc (intTy E u && !(Nat.beq ei.size 0)) (match x with | .int _ n => bc ((!(ilt n 0)) && roomy n.toNat (ei.bytes + ei.size)) (trimK E H t s fun H => appK H e ei.size ei.bytes n.toNat (rep ei.zero n.toNat) (fun v H => k (.val v H)) s) none | _ => none) none)
      | _ => none
    | _ => none
  | _ => none
def isPU : AD → Bool
  | .ptr _ => true
  | .uptr => true
  | _ => false
def isApp : Callee → Bool
  | .builtin .append => true
  | _ => false
def kCall (c : Call) (o : Oper) : KF α := bc (isApp c.callee) (kAppend c.argTypes.toList c.args.toList) (fun E H fr k => ob (xOp o E H fr) k)
def kConv (s d : TypeId) (x : Operand) (o : Oper) : KF α := fun E H fr k => ob (opdR E fr x) fun a => ob (E.ty s) fun si => ob (E.ty d) fun di => match di.d, a with
  | .int kd, .int _ n => k (.val (.int kd (wrapR kd n)) H)
  | .str, .int _ n => bc ((!(ilt n 0)) && ilt n 128) (k (.val (.str [UInt8.ofNat n.toNat]) H)) none
  | .str, .str s => k (.val (.str s) H)
  | .str, a => (match si.d with
    | .slice e => ob (E.ty e) fun ei => (match ei.d with
      | .int .u8 => lenK (fun n => cellsK H 1 n (fun cs => bc (hasY cs) (k (.val (.str (getY cs)) H)) none) a) a
      | _ => none)
    | _ => none)
  | .slice e, .str s => (match si.d with
    | .str => ob (E.ty e) fun ei => (match ei.d with
      | .int .u8 => bc (roomy (lenU s) 1) (k (.val (.sl H.next 0 (lenU s) none) (H.new (.cells (lenU s) (Tr.nil.putAll 0 (s.map byteAV)) e (some 1) 0 false true)))) none
      | _ => none)
    | _ => none)
  | _, _ => ob (xOp o E H fr) k
def kNext (x : Operand) : KF α := fun E H fr k => ob (opdR E fr x) fun a => match a with
  | .ptr id 0 => (match H.get id with
    | some (.siter s pos) => bc (Nat.blt pos (lenU s)) (bc (Nat.blt (byteAt s pos).toNat 128) (k (.val (.tup [.bool true, .int .i64 (Int.ofNat pos), .int .i32 (Int.ofNat (byteAt s pos).toNat)]) (H.put id (.siter s (Nat.succ pos))))) none) (k (.val (.tup [.bool false]) H))
    | _ => none)
  | _ => none

def kOp (o : Oper) : KF α :=
  match o.op with
  | .call c => kCall c o
  | .convert s d x => kConv s d x o
  | .next x b => bc b (kNext x) (fun E H fr k => ob (xOp o E H fr) k)
  | .pick c a b => kPick c a b
  | .load t a => kLoad t a
  | .store t a x => kStore t a x
  | .indexAddr t x i => kIndexAddr t x i
  | .index t x i => kIndex t x i
  | .slice t x lo hi mx => kSlice t x lo hi mx
  | .makeSlice t l c => kMake t l c
  | .binOp op t x y _ => kBin op t x y
  | _ => fun E H fr k => ob (xOp o E H fr) k

theorem nth_lt : ∀ {s : List UInt8} {i : Nat}, i < lenU s → ∃ b, nth s i = some b ∧ byteAt s i = b := by
  intro s
  induction s with
  | nil => intro i h; simp [lenU] at h
  | cons a s ih =>
    intro i h
    cases i with
    | zero => exact ⟨a, rfl, rfl⟩
    | succ i =>
      obtain ⟨b, h1, h2⟩ := ih (i := i) (by simpa [lenU] using h)
      exact ⟨b, h1, h2⟩
theorem bndK_some {top : Nat} {k : Nat → Option α} {v : AV} {r : α} (h : bndK top k v = some r) : ∃ n, bndV v top = some n ∧ k n = some r := by
  cases v <;> try (cases h; done)
  rename_i kd i
  simp only [bndK] at h
  rcases bc_some h with ⟨_, h⟩ | ⟨h1, h⟩
  · cases h
  · obtain ⟨h2, h⟩ := bc_none h
    exact ⟨i.toNat, by simp [bndV, h1, h2], h⟩

def loB (h : Nat) : Option AV → Option Nat
  | some v => bndV v h
  | none => some 0
theorem bnds_none (n : Nat) (lo : Option AV) {l : Nat} (h : loB n lo = some l) : bnds n n lo none none = some (l, n, n) := by
  unfold bnds
  cases lo with
  | none => cases h; rfl
  | some v =>
    have h : bndV v n = some l := h
    dsimp only
    rw [h]
theorem bnds_some (n c : Nat) (v : AV) (lo : Option AV) {m l : Nat} (hm : bndV v c = some m) (h : loB m lo = some l) : bnds n c lo (some v) none = some (l, m, c) := by
  unfold bnds
  dsimp only
  rw [hm]
  cases lo with
  | none => cases h; rfl
  | some u =>
    have h : bndV u m = some l := h
    dsimp only
    rw [h]
theorem hiK_some {len top : Nat} {k : Nat → Option α} {hi : Option AV} {r : α} (h : hiK len top k hi = some r) : ∃ n, (match hi with | some v => bndV v top | none => some len) = some n ∧ k n = some r := by
  cases hi with
  | none => exact ⟨len, rfl, h⟩
  | some v => exact bndK_some h
theorem loK_some {top : Nat} {f : Nat → Option α} {l : Option AV} {r : α} (h : loK top f l = some r) : ∃ n, loB top l = some n ∧ f n = some r := by
  cases l with
  | none => exact ⟨0, rfl, h⟩
  | some v => exact bndK_some h
theorem bnds_of (len c : Nat) (hi lo : Option AV) {m l : Nat} (hm : (match hi with | some v => bndV v c | none => some len) = some m) (h : loB m lo = some l) : bnds len c lo hi none = some (l, m, c) := by
  have low : (match (match lo with | some v => bndV v m | none => some 0) with | none => none | some l => some (l, m, c)) = some (l, m, c) := by
    cases lo with
    | none => cases h; rfl
    | some u =>
      have h : bndV u m = some l := h
      dsimp only
      rw [h]
  unfold bnds
  cases hi with
  | none =>
    have hm : some len = some m := hm
    cases hm
    exact low
  | some v =>
    have hm : bndV v c = some m := hm
    dsimp only
    rw [hm]
    exact low
theorem bc_some' {β : Type} {b : Bool} {x y : KF β} {E : Env} {H : AHeap} {fr : Tr AV} {k : ARes → Option β} {r : β} (h : bc b x y E H fr k = some r) : (b = true ∧ x E H fr k = some r) ∨ (b = false ∧ y E H fr k = some r) := by
  cases b
  · exact .inr ⟨rfl, h⟩
  · exact .inl ⟨rfl, h⟩
theorem kOp_some {E : Env} {H : AHeap} {fr : Tr AV} {o : Oper} {k : ARes → Option α} {r : α} (h : kOp o E H fr k = some r) : ∃ x, execA E H fr o = some x ∧ k x = some r := by
  have fall : ob (xOp o E H fr) k = some r → ∃ x, execA E H fr o = some x ∧ k x = some r := fun h => by
    obtain ⟨x, hx, h2⟩ := ob_some' h
    exact ⟨x, by rw [← execR_eq]; exact hx, h2⟩
  unfold kOp at h
  cases hop : o.op <;> simp only [hop] at h <;> first | exact fall h | skip
  case call c =>
    unfold kCall at h
    rcases bc_some' h with ⟨h1, h⟩ | ⟨_, h⟩
    · unfold execA; rw [hop]; dsimp only
      have hc : c.callee = .builtin .append := by
        unfold isApp at h1
        split at h1
        · assumption
        · cases h1
      rw [hc]; dsimp only
      unfold kAppend at h
      split at h
      case h_2 => cases h
      rename_i t u ts hts
      rw [opdsR_eq] at h
      replace h := ob_some' h
      obtain ⟨l, hl, h⟩ := h
      split at h
      case h_2 => cases h
      rename_i s x
      replace h := ob_some' h
      obtain ⟨ti, ht, h⟩ := h
      split at h
      case h_2 => cases h
      rename_i e hd
      replace h := ob_some' h
      obtain ⟨ei, he, h⟩ := h
      rcases bc_some h with ⟨h2, h⟩ | ⟨h2, h⟩
      · replace h := trimK_some h
        replace h := lenK_some h
        obtain ⟨m, hm, h⟩ := h
        obtain ⟨news, hn, h⟩ := cellsK_some h (fun s e => by subst e; simp only [lenA, Option.some.injEq] at hm; exact hm.symm)
        replace h := appK_some h
        obtain ⟨v, H', ha, h⟩ := h
        refine ⟨_, ?_, h⟩
        rw [hl, hts]
        simp only [builtinA, appendA, ht, hd, he, h2, cond_true, hm, hn, ha, vhh]
      · replace h := bc_none h
        obtain ⟨h3, h⟩ := h
        split at h
        case h_2 => cases h
        rename_i kx n
        replace h := bc_none h
        obtain ⟨h4, h⟩ := h
        replace h := trimK_some h
        replace h := appK_some h
        obtain ⟨v, H', ha, h⟩ := h
        refine ⟨_, ?_, h⟩
        rw [hl, hts]
        simp only [builtinA, appendA, ht, hd, he, h2, h3, h4, cond_true, cond_false, ha, vhh]
    · exact fall h
  case convert s d x =>
    unfold kConv at h
    rw [opdR_eq] at h
    replace h := ob_some' h
    obtain ⟨a, ha, h⟩ := h
    replace h := ob_some' h
    obtain ⟨si, hsi, h⟩ := h
    replace h := ob_some' h
    obtain ⟨di, hdi, h⟩ := h
    have noU : isPU di.d = false → convertU E H s d a = none := fun h1 => by
      unfold convertU
      simp only [hsi, hdi]
      cases hd : di.d <;> rw [hd] at h1 <;> first | (cases h1; done) | (cases si.d <;> rfl)
    have fin : ∀ {v : AV} {H' : AHeap}, convertU E H s d a = none → convertA E H s d a = some (v, H') → execA E H fr o = some (.val v H') := fun h1 h2 => by
      unfold execA; rw [hop]; dsimp only
      simp only [ha, h1, h2, vhh]
    split at h
    · rename_i kd kn n hd
      refine ⟨_, fin (noU (by rw [hd]; rfl)) ?_, h⟩
      simp only [convertA, hsi, hdi, hd, wrapR_eq]
    · rename_i kn n hd
      replace h := bc_none h
      obtain ⟨h1, h⟩ := h
      refine ⟨_, fin (noU (by rw [hd]; rfl)) ?_, h⟩
      simp only [convertA, hsi, hdi, hd, h1, cond_true]
    · rename_i str hd
      refine ⟨_, fin (noU (by rw [hd]; rfl)) ?_, h⟩
      simp only [convertA, hsi, hdi, hd]
    · rename_i a _ _ hd hni hns
      split at h
      case h_2 => cases h
      rename_i e hs
      replace h := ob_some' h
      obtain ⟨ei, he, h⟩ := h
      split at h
      case h_2 => cases h
      rename_i hei
      replace h := lenK_some h
      obtain ⟨n, hn, h⟩ := h
      obtain ⟨cs, hcs, h⟩ := cellsK_some h (fun s e => absurd e (hns s))
      replace h := bc_none h
      obtain ⟨h1, h⟩ := h
      refine ⟨_, fin (noU (by rw [hd]; rfl)) ?_, h⟩
      clear fin noU fall ha
      cases a <;> first | (cases hn; done) | exact absurd rfl (hns _) | exact absurd rfl (hni _ _) | simp only [convertA, hsi, hdi, hd, hs, he, hei, hn, hcs, hasY_eq h1]
    · rename_i e str hd
      split at h
      case h_2 => cases h
      rename_i hs
      replace h := ob_some' h
      obtain ⟨ei, he, h⟩ := h
      split at h
      case h_2 => cases h
      rename_i hei
      replace h := bc_none h
      obtain ⟨h1, h⟩ := h
      refine ⟨_, fin (noU (by rw [hd]; rfl)) ?_, h⟩
      simp only [convertA, hsi, hdi, hd, he, hei, hs, h1, cond_true]
    · exact fall h
  case next x b =>
    rcases bc_some' h with ⟨h1, h2⟩ | ⟨_, h⟩
    · subst h1
      clear h
      have h := h2
      clear h2
      unfold execA; rw [hop]; dsimp only
      unfold kNext at h
      rw [opdR_eq] at h
      replace h := ob_some' h
      obtain ⟨a, ha, h⟩ := h
      split at h
      case h_2 => cases h
      rename_i id
      split at h
      case h_2 => cases h
      rename_i str pos hget
      simp only [ha, hget]
      rcases bc_some h with ⟨h1, h⟩ | ⟨h1, h⟩
      · replace h := bc_none h
        obtain ⟨h2, h⟩ := h
        rw [Nat.blt_eq] at h1
        obtain ⟨c, hc1, hc2⟩ := nth_lt h1
        rw [hc2] at h h2
        exact ⟨_, by simp only [hc1, h2, cond_true], h⟩
      · have h1' : ¬ pos < lenU str := fun hlt => by rw [← Nat.blt_eq, h1] at hlt; cases hlt
        have : nth str pos = none := by rw [nth_eq, List.getElem?_eq_none_iff]; simpa [lenU] using h1'
        exact ⟨_, by simp only [this], h⟩
    · exact fall h
  case pick c a b =>
    unfold execA; rw [hop]; dsimp only
    simp only [kPick, opdR_eq] at h
    replace h := ob_some' h
    obtain ⟨v, hv, h⟩ := h
    rw [hv]
    cases v <;> try (cases h; done)
    rename_i t
    rcases bc_some h with ⟨rfl, h⟩ | ⟨rfl, h⟩
    · replace h := ob_some' h
      obtain ⟨u, hu, h⟩ := h
      exact ⟨_, by simp [hu, vh], h⟩
    · replace h := ob_some' h
      obtain ⟨u, hu, h⟩ := h
      exact ⟨_, by simp [hu, vh], h⟩
  case load t a =>
    unfold execA; rw [hop]; dsimp only
    simp only [kLoad, opdR_eq] at h
    replace h := ob_some' h
    obtain ⟨p, hp, h⟩ := h
    obtain ⟨v, hv, h⟩ := loadKK_some h
    exact ⟨_, by simp [hp, hv, vh], h⟩
  case store t a x =>
    unfold execA; rw [hop]; dsimp only
    simp only [kStore, opdR_eq] at h
    replace h := ob_some' h
    obtain ⟨p, hp, h⟩ := h
    replace h := ob_some' h
    obtain ⟨v, hv, h⟩ := h
    cases p <;> try (cases h; done)
    rename_i id off
    replace h := ob_some' h
    obtain ⟨ti, ht, h⟩ := h
    unfold stK at h
    split at h
    case h_2 => cases h
    rename_i n c e g fz ro mk hget
    obtain ⟨h1, h⟩ := bc_none h
    obtain ⟨h2, h⟩ := bc_none h
    obtain ⟨h3, h⟩ := bc_none h
    simp only [Bool.and_eq_true] at h1 h3
    refine ⟨_, ?_, h⟩
    simp [hp, hv, storeVarA, ht, hget, h1.1, h1.2, h2, h3.1, h3.2]
  case indexAddr t x i =>
    unfold execA; rw [hop]; dsimp only
    simp only [kIndexAddr, opdR_eq] at h
    replace h := ob_some' h
    obtain ⟨a, ha, h⟩ := h
    replace h := ob_some' h
    obtain ⟨b, hb, h⟩ := h
    replace h := ob_some' h
    obtain ⟨ti, ht, h⟩ := h
    have go : ∀ {ei : ATy} {id off len : Nat} {i : Int}, idxK ei id off len i H k = some r → (ilt i 0 = false ∧ Nat.blt i.toNat len = true) ∧ k (.val (.ptr id (off + i.toNat * ei.size)) H) = some r := by
      intro ei id off len i h
      unfold idxK at h
      rcases bc_some h with ⟨_, h⟩ | ⟨h1, h⟩
      · cases h
      · obtain ⟨h2, h⟩ := bc_none h
        exact ⟨⟨h1, h2⟩, h⟩
    split at h
    · rename_i n e id off kd i hd
      replace h := ob_some' h
      obtain ⟨ei, he, h⟩ := h
      obtain ⟨⟨h1, h2⟩, h⟩ := go h
      exact ⟨_, by simp [ha, hb, indexAddrA, ht, hd, he, h1, h2, vh], h⟩
    · rename_i e id off len cap kd i hd
      replace h := ob_some' h
      obtain ⟨ei, he, h⟩ := h
      obtain ⟨⟨h1, h2⟩, h⟩ := go h
      exact ⟨_, by simp [ha, hb, indexAddrA, ht, hd, he, h1, h2, vh], h⟩
    · cases h
  case index t x i =>
    unfold execA; rw [hop]; dsimp only
    simp only [kIndex, opdR_eq] at h
    replace h := ob_some' h
    obtain ⟨a, ha, h⟩ := h
    replace h := ob_some' h
    obtain ⟨b, hb, h⟩ := h
    replace h := ob_some' h
    obtain ⟨ti, ht, h⟩ := h
    split at h
    · rename_i s kd i hd
      rcases bc_some h with ⟨_, h⟩ | ⟨h1, h⟩
      · cases h
      · obtain ⟨h2, h⟩ := bc_none h
        rw [Nat.blt_eq] at h2
        obtain ⟨c, hc1, hc2⟩ := nth_lt h2
        refine ⟨_, ?_, h⟩
        simp [ha, hb, indexA, ht, hd, h1, hc1, hc2, vh]
    · replace h := ob_some' h
      obtain ⟨v, hv, h⟩ := h
      exact ⟨_, by simp [ha, hb, hv, vh], h⟩
  case slice t x lo hi mx =>
    unfold execA; rw [hop]; dsimp only
    have oe : ∀ y, optR E fr y = optOpd E fr y := fun y => by
      cases y with
      | none => rfl
      | some y => simp only [optR, optOpd, opdR_eq]; cases opd E fr y <;> rfl
    simp only [kSlice, opdR_eq, oe] at h
    replace h := ob_some' h
    obtain ⟨a, ha, h⟩ := h
    replace h := ob_some' h
    obtain ⟨l, hl, h⟩ := h
    replace h := ob_some' h
    obtain ⟨hh, hhh, h⟩ := h
    replace h := ob_some' h
    obtain ⟨m, hm, h⟩ := h
    replace h := ob_some' h
    obtain ⟨ti, ht, h⟩ := h
    have lo_some : ∀ {top : Nat} {f : Nat → Option α} {l : Option AV}, loK top f l = some r → ∃ n, loB top l = some n ∧ f n = some r := by
      intro top f l h
      cases l with
      | none => exact ⟨0, rfl, h⟩
      | some v => exact bndK_some h
    split at h
    · rename_i s hd
      split at h
      · obtain ⟨n, hn, h⟩ := lo_some h
        refine ⟨_, ?_, h⟩
        simp only [ha, hl, hhh, hm, sliceA, ht, hd, bnds_none _ _ hn, vh]
      · rename_i hv
        obtain ⟨n1, hn1, h⟩ := bndK_some h
        obtain ⟨n, hn, h⟩ := lo_some h
        refine ⟨_, ?_, h⟩
        simp only [ha, hl, hhh, hm, sliceA, ht, hd, bnds_some _ _ _ _ hn1 hn, vh]
        rfl
    · rename_i e id off len c hd
      replace h := ob_some' h
      obtain ⟨ei, he, h⟩ := h
      replace h := hiK_some h
      obtain ⟨n1, hn1, h⟩ := h
      replace h := loK_some h
      obtain ⟨n, hn, h⟩ := h
      have e1 := bnds_of len c hh l hn1 hn
      rcases bc_some h with ⟨h1, h⟩ | ⟨h1, h⟩
      · exact ⟨_, by simp only [ha, hl, hhh, hm, sliceA, ht, hd, he, e1, h1, cond_true, vh]; rfl, h⟩
      · exact ⟨_, by simp only [ha, hl, hhh, hm, sliceA, ht, hd, he, e1, h1, cond_false, vh]; rfl, h⟩
    · rename_i e id off len hd
      replace h := ob_some' h
      obtain ⟨ei, he, h⟩ := h
      unfold growSlK at h
      split at h
      case h_2 => cases h
      rename_i nn cc ee gs fz ro mk hget
      replace h := bc_none h
      obtain ⟨h1, h⟩ := h
      replace h := bc_none h
      obtain ⟨h2, h⟩ := h
      replace h := hiK_some h
      obtain ⟨n1, hn1, h⟩ := h
      replace h := loK_some h
      obtain ⟨n, hn, h⟩ := h
      have e1 : bnds len ((nn - off) / gs) l hh none = some (n, n1, (nn - off) / gs) := bnds_of len _ hh l hn1 hn
      rw [Bool.and_eq_true] at h1
      have h2' : Nat.ble (off + len * gs) nn = true := h2
      rcases bc_some h with ⟨h3, h⟩ | ⟨h3, h⟩
      · have h3' : Nat.blt (off + n * gs) nn = true := h3
        exact ⟨_, by simp only [ha, hl, hhh, hm, sliceA, ht, hd, he, hget, h1.1, h1.2, h2', e1, h3', Bool.true_or, Bool.and_self, cond_true, vh]; rfl, h⟩
      · have h3' : Nat.blt (off + n * gs) nn = false := h3
        rcases bc_some h with ⟨h4, h⟩ | ⟨h4, h⟩
        · exact ⟨_, by simp only [ha, hl, hhh, hm, sliceA, ht, hd, he, hget, h1.1, h1.2, h2', e1, h3', h4, Bool.or_true, Bool.and_self, cond_true, vh]; rfl, h⟩
        · exact ⟨_, by simp only [ha, hl, hhh, hm, sliceA, ht, hd, he, hget, h1.1, h1.2, h2', e1, h3', h4, Bool.or_self, Bool.and_self, cond_true, cond_false, vh], h⟩
    · replace h := ob_some' h
      obtain ⟨v, hv, h⟩ := h
      exact ⟨_, by simp [ha, hl, hhh, hm, hv, vh], h⟩
  case makeSlice t l c =>
    unfold execA; rw [hop]; dsimp only
    simp only [kMake, opdR_eq] at h
    replace h := ob_some' h
    obtain ⟨a, ha, h⟩ := h
    replace h := ob_some' h
    obtain ⟨b, hb, h⟩ := h
    replace h := ob_some' h
    obtain ⟨ti, ht, h⟩ := h
    split at h
    · rename_i e kd li kd2 ci hd
      replace h := ob_some' h
      obtain ⟨ei, he, h⟩ := h
      rcases bc_some h with ⟨_, h⟩ | ⟨h1, h⟩
      · cases h
      · rcases bc_some h with ⟨_, h⟩ | ⟨h2, h⟩
        · cases h
        · obtain ⟨h3, h⟩ := bc_none h
          exact ⟨_, by simp [ha, hb, ht, hd, he, h1, h2, h3], h⟩
    · cases h
  case binOp op t x y z =>
    replace h := ob_some' h
    obtain ⟨a, ha, h⟩ := h
    replace h := ob_some' h
    obtain ⟨b, hb, h⟩ := h
    replace h := ob_some' (binKK_some h)
    obtain ⟨v, hv, h⟩ := h
    have he := execR_eq E H fr o
    unfold execR xOp at he
    rw [hop] at he
    simp only [xBin, ha, hb, ob_some, hv] at he
    exact ⟨v, he.symm, h⟩
end
end
end Go.Vai
