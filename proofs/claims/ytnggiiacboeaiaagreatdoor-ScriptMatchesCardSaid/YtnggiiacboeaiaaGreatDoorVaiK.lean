/- The interpreter in the form of a tree: it carries on with values that are not known, and answers by tests on them (a test's false side is none where nothing is said). What it answers, the interpreter answers. -/
import Derived.Test.YtnggiiacboeaiaaGreatDoorVaiFast
import Derived.Test.YtnggiiacboeaiaaGreatDoorVaiTri
namespace Go.Vai
noncomputable section

theorem bc_true {α : Type} (x y : α) : bc true x y = x := rfl
theorem bc_false {α : Type} (x y : α) : bc false x y = y := rfl

/-! ### What a cell holds -/
def isB : Option AV → Bool
  | some (.bool _) => true
  | _ => false
def asB : Option AV → Bool
  | some (.bool b) => b
  | _ => false
def isI (k : IntKind) : Option AV → Bool
  | some (.int j _) => sameKind j k
  | _ => false
def asI : Option AV → Int
  | some (.int _ n) => n
  | _ => 0
def isS : Option AV → Bool
  | some (.str _) => true
  | _ => false
def asS : Option AV → List UInt8
  | some (.str s) => s
  | _ => []
def isN : Option AV → Bool
  | some .nils => true
  | _ => false
def isSl : Option AV → Bool
  | some (.sl _ _ _ _) => true
  | _ => false
def slI : Option AV → Nat
  | some (.sl i _ _ _) => i
  | _ => 0
def slO : Option AV → Nat
  | some (.sl _ o _ _) => o
  | _ => 0
def slN : Option AV → Nat
  | some (.sl _ _ n _) => n
  | _ => 0
def slC : Option AV → Option Nat
  | some (.sl _ _ _ c) => c
  | _ => none

section
variable {α : Type}
/-- A cell's value, by the make of its zero. -/
def ldK : AV → Option AV → (AV → Option α) → Option α
  | .bool _ => fun x k => bc (isB x) (k (.bool (asB x))) none
  | .int kd _ => fun x k => bc (isI kd x) (k (.int kd (asI x))) none
  | .str _ => fun x k => bc (isS x) (k (.str (asS x))) none
  | .nils => fun x k => bc (isSl x) (k (.sl (slI x) (slO x) (slN x) (slC x))) (bc (isN x) (k .nils) none)
  | _ => fun x k => ob x k

theorem bc_some {b : Bool} {x y : Option α} {r : α} (h : bc b x y = some r) : (b = true ∧ x = some r) ∨ (b = false ∧ y = some r) := by
  cases b
  · exact .inr ⟨rfl, h⟩
  · exact .inl ⟨rfl, h⟩
theorem bc_none {b : Bool} {x : Option α} {r : α} (h : bc b x none = some r) : b = true ∧ x = some r := by
  rcases bc_some h with h | ⟨_, h⟩
  · exact h
  · cases h
theorem ob_some' {β : Type} {x : Option β} {f : β → Option α} {r : α} (h : ob x f = some r) : ∃ v, x = some v ∧ f v = some r := by
  cases x with
  | none => cases h
  | some v => exact ⟨v, rfl, h⟩

theorem ldK_some {z : AV} {x : Option AV} {k : AV → Option α} {r : α} (h : ldK z x k = some r) : ∃ v, x = some v ∧ k v = some r := by
  unfold ldK at h
  split at h
  · obtain ⟨h1, h2⟩ := bc_none h
    unfold isB at h1
    split at h1
    · rename_i b; exact ⟨.bool b, rfl, h2⟩
    · cases h1
  · rename_i kd _
    obtain ⟨h1, h2⟩ := bc_none h
    unfold isI at h1
    split at h1
    · rename_i j n
      rw [sameKind_iff] at h1
      subst h1
      exact ⟨.int j n, rfl, h2⟩
    · cases h1
  · obtain ⟨h1, h2⟩ := bc_none h
    unfold isS at h1
    split at h1
    · rename_i s; exact ⟨.str s, rfl, h2⟩
    · cases h1
  · rcases bc_some h with ⟨h1, h2⟩ | ⟨_, h⟩
    · unfold isSl at h1
      split at h1
      · rename_i i o n c; exact ⟨.sl i o n c, rfl, h2⟩
      · cases h1
    · obtain ⟨h1, h2⟩ := bc_none h
      unfold isN at h1
      split at h1
      · exact ⟨.nils, rfl, h2⟩
      · cases h1
  · exact ob_some' h

/-- Cells from place 'off' on, by the make of their zeros. -/
def ldsK (c : Tr AV) (zs : List AV) : Nat → (List AV → Option α) → Option α :=
  List.rec (motive := fun _ => Nat → (List AV → Option α) → Option α) (fun _ k => k []) (fun z _ ih off k => ldK z (c.get off) fun v => ih (Nat.succ off) fun vs => k (v :: vs)) zs
theorem ldsK_some {c : Tr AV} : ∀ {zs : List AV} {off : Nat} {k : List AV → Option α} {r : α}, ldsK c zs off k = some r → ∃ vs, c.getAll off zs.length = some vs ∧ k vs = some r := by
  intro zs
  induction zs with
  | nil => intro off k r h; exact ⟨[], rfl, h⟩
  | cons z zs ih =>
    intro off k r h
    have h' : (ldK z (c.get off) fun v => ldsK c zs (off + 1) fun vs => k (v :: vs)) = some r := h
    obtain ⟨v, hv, h2⟩ := ldK_some h'
    obtain ⟨vs, hvs, h3⟩ := ih h2
    refine ⟨v :: vs, ?_, h3⟩
    rw [List.length_cons, Tr.getAll_succ, hv]
    simp only [hvs]

def rowK (o : Option AObj) (k : Tr AV → Option α) : Option α :=
  match o with
  | some (.cells _ c _ _ _ _ _) => k c
  | _ => none
def loadT (ti : ATy) (off : Nat) (k : AV → Option α) (c : Tr AV) : Option α :=
  bc ti.agg (bc (Nat.beq ti.zero.length ti.size) (ldsK c ti.zero off fun l => k (.agg l)) none) (match ti.zero with | [z] => ldK z (c.get off) k | _ => ob (c.get off) k)
def loadKK (E : Env) (H : AHeap) (t : TypeId) (k : AV → Option α) : AV → Option α
  | .ptr id off => ob (E.ty t) fun ti => rowK (H.get id) (loadT ti off k)
  | _ => none
theorem loadKK_some {E : Env} {H : AHeap} {t : TypeId} {k : AV → Option α} {p : AV} {r : α} (h : loadKK E H t k p = some r) : ∃ v, loadVarA E H t p = some v ∧ k v = some r := by
  cases p <;> try (cases h; done)
  rename_i id off
  simp only [loadKK] at h
  replace h := ob_some' h
  obtain ⟨ti, ht, h⟩ := h
  unfold rowK at h
  split at h
  case h_2 => cases h
  rename_i n c e g fz ro mk hget
  simp only [loadVarA, ht, hget]
  unfold loadT at h
  rcases bc_some h with ⟨h1, h⟩ | ⟨h1, h⟩
  · obtain ⟨hb, h⟩ := bc_none h
    rw [Nat.beq_eq] at hb
    obtain ⟨vs, hvs, h2⟩ := ldsK_some h
    rw [hb] at hvs
    exact ⟨.agg vs, by rw [h1]; simp [hvs], h2⟩
  · have hx : ∃ v, c.get off = some v ∧ k v = some r := by
      split at h
      · exact ldK_some h
      · exact ob_some' h
    obtain ⟨v, hv, h2⟩ := hx
    exact ⟨v, by rw [h1]; simp [hv], h2⟩

/-! ### One operation -/
abbrev KF (α : Type) := Env → AHeap → Tr AV → (ARes → Option α) → Option α
def kOb (x : Option ARes) (k : ARes → Option α) : Option α := ob x k

def kPick (c a b : Operand) : KF α := fun E H fr k => ob (opdR E fr c) fun v => match v with
  | .bool t => bc t (ob (opdR E fr a) fun v => k (.val v H)) (ob (opdR E fr b) fun v => k (.val v H))
  | _ => none
def kLoad (t : TypeId) (a : Operand) : KF α := fun E H fr k => ob (opdR E fr a) fun p => loadKK E H t (fun v => k (.val v H)) p
def stK (H : AHeap) (ti : ATy) (id off : Nat) (vs : List AV) (k : ARes → Option α) : Option AObj → Option α
  | some (.cells n c e g fz ro mk) => bc (Nat.beq vs.length ti.size && vs.all AV.one) (bc (Nat.ble (off + ti.size) n) (bc (Nat.ble fz off && !ro) (k (.skip (H.put id (.cells n (c.putAll off vs) e g fz ro mk)))) none) none) none
  | _ => none
def kStore (t : TypeId) (a x : Operand) : KF α := fun E H fr k => ob (opdR E fr a) fun p => ob (opdR E fr x) fun v => match p with
  | .ptr id off => ob (E.ty t) fun ti => stK H ti id off v.cells k (H.get id)
  | _ => none
def idxK (ei : ATy) (id off len : Nat) (i : Int) (H : AHeap) (k : ARes → Option α) : Option α :=
  bc (ilt i 0) none (bc (Nat.blt i.toNat len) (k (.val (.ptr id (Nat.add off (Nat.mul i.toNat ei.size))) H)) none)
def kIndexAddr (t : TypeId) (x i : Operand) : KF α := fun E H fr k => ob (opdR E fr x) fun a => ob (opdR E fr i) fun b => ob (E.ty t) fun ti => match ti.d, a, b with
  | .array n e, .ptr id off, .int _ i => ob (E.ty e) fun ei => idxK ei id off n i H k
  | .slice e, .sl id off len _, .int _ i => ob (E.ty e) fun ei => idxK ei id off len i H k
  | _, _, _ => none
def byteAt (s : List UInt8) (i : Nat) : UInt8 := (nth s i).getD 0
def kIndex (t : TypeId) (x i : Operand) : KF α := fun E H fr k => ob (opdR E fr x) fun a => ob (opdR E fr i) fun b => ob (E.ty t) fun ti => match ti.d, a, b with
  | .str, .str s, .int _ i => bc (ilt i 0) none (bc (Nat.blt i.toNat (lenU s)) (k (.val (byteAV (byteAt s i.toNat)) H)) none)
  | _, _, _ => ob (indexA E t a b) fun v => k (.val v H)
def bndK (top : Nat) (k : Nat → Option α) : AV → Option α
  | .int _ i => bc (ilt i 0) none (bc (Nat.ble i.toNat top) (k i.toNat) none)
  | _ => none
def loK (h : Nat) (k : Nat → Option α) : Option AV → Option α
  | some v => bndK h k v
  | none => k 0
def kSlice (t : TypeId) (x : Operand) (lo hi mx : Option Operand) : KF α := fun E H fr k => ob (opdR E fr x) fun a => ob (optR E fr lo) fun l => ob (optR E fr hi) fun h => ob (optR E fr mx) fun m => ob (E.ty t) fun ti => match ti.d, a, m with
  | .str, .str s, none => (match h with
      | none => loK (lenU s) (fun l => k (.val (.str (s.drop l)) H)) l
      | some hv => bndK (lenU s) (fun h => loK h (fun l => k (.val (.str ((s.drop l).take (Nat.sub h l))) H)) l) hv)
  | _, _, _ => ob (sliceA E H t a l h m) fun v => k (.val v H)
def kMake (t : TypeId) (l c : Operand) : KF α := fun E H fr k => ob (opdR E fr l) fun a => ob (opdR E fr c) fun b => ob (E.ty t) fun ti => match ti.d, a, b with
  | .slice e, .int _ l, .int _ c => ob (E.ty e) fun ei => bc (ilt l 0) none (bc (ilt c l) none (bc (roomy c.toNat (ei.bytes + ei.size)) (k (.val (.sl H.next 0 l.toNat (some c.toNat)) (newRowA H e (rep ei.zero c.toNat)))) none))
  | _, _, _ => none
def isAdd : BinOp → Bool
  | .add => true
  | _ => false
def binKK (E : Env) (H : AHeap) (op : BinOp) (t : TypeId) (x y : Operand) (k : ARes → Option α) : AV → AV → Option α
  | .str a, .str b => bc (isAdd op) (bc (Nat.ble (Nat.add (lenU a) (lenU b)) 1099511627776) (k (.val (.str (a ++ b)) H)) none) (ob (binK E H op t x y (.str a) (.str b)) k)
  | a, b => ob (binK E H op t x y a b) k
theorem binKK_some {E : Env} {H : AHeap} {op : BinOp} {t : TypeId} {x y : Operand} {k : ARes → Option α} {a b : AV} {r : α} (h : binKK E H op t x y k a b = some r) : ob (binK E H op t x y a b) k = some r := by
  unfold binKK at h
  split at h
  · rename_i a b
    rcases bc_some h with ⟨ho, h2⟩ | ⟨_, h2⟩
    · obtain ⟨h1, h3⟩ := bc_none h2
      obtain rfl : op = .add := by cases op <;> first | rfl | cases ho
      have h1' : Nat.ble (lenU a + lenU b) 1099511627776 = true := h1
      have e : binK E H .add t x y (.str a) (.str b) = some (.val (.str (a ++ b)) H) := by
        show (ob (binR E .add t (.str a) (.str b)) fun v => rv H v) = _
        rw [binR_eq]
        simp only [binA, strBin, h1', cond_true]
        rfl
      rw [e]; exact h3
    · exact h2
  · exact h
def kBin (op : BinOp) (t : TypeId) (x y : Operand) : KF α := fun E H fr k => ob (opdR E fr x) fun a => ob (opdR E fr y) fun b => binKK E H op t x y k a b

def kOp (o : Oper) : KF α :=
  match o.op with
  | .pick c a b => kPick c a b
  | .load t a => kLoad t a
  | .store t a x => kStore t a x
  | .indexAddr t x i => kIndexAddr t x i
  | .index t x i => kIndex t x i
  | .slice t x lo hi mx => kSlice t x lo hi mx
  | .makeSlice t l c => kMake t l c
  | .binOp op t x y _ => kBin op t x y
  | _ => fun E H fr k => ob (xOp o E H fr) k

theorem nth_lt : ∀ {s : List UInt8} {i : Nat}, i < lenU s → ∃ b, nth s i = some b ∧ byteAt s i = b := by
  intro s
  induction s with
  | nil => intro i h; simp [lenU] at h
  | cons a s ih =>
    intro i h
    cases i with
    | zero => exact ⟨a, rfl, rfl⟩
    | succ i =>
      obtain ⟨b, h1, h2⟩ := ih (i := i) (by simpa [lenU] using h)
      exact ⟨b, h1, h2⟩
theorem bndK_some {top : Nat} {k : Nat → Option α} {v : AV} {r : α} (h : bndK top k v = some r) : ∃ n, bndV v top = some n ∧ k n = some r := by
  cases v <;> try (cases h; done)
  rename_i kd i
  simp only [bndK] at h
  rcases bc_some h with ⟨_, h⟩ | ⟨h1, h⟩
  · cases h
  · obtain ⟨h2, h⟩ := bc_none h
    exact ⟨i.toNat, by simp [bndV, h1, h2], h⟩

def loB (h : Nat) : Option AV → Option Nat
  | some v => bndV v h
  | none => some 0
theorem bnds_none (n : Nat) (lo : Option AV) {l : Nat} (h : loB n lo = some l) : bnds n n lo none none = some (l, n, n) := by
  unfold bnds
  cases lo with
  | none => cases h; rfl
  | some v =>
    have h : bndV v n = some l := h
    dsimp only
    rw [h]
theorem bnds_some (n c : Nat) (v : AV) (lo : Option AV) {m l : Nat} (hm : bndV v c = some m) (h : loB m lo = some l) : bnds n c lo (some v) none = some (l, m, c) := by
  unfold bnds
  dsimp only
  rw [hm]
  cases lo with
  | none => cases h; rfl
  | some u =>
    have h : bndV u m = some l := h
    dsimp only
    rw [h]
theorem kOp_some {E : Env} {H : AHeap} {fr : Tr AV} {o : Oper} {k : ARes → Option α} {r : α} (h : kOp o E H fr k = some r) : ∃ x, execA E H fr o = some x ∧ k x = some r := by
  have fall : ob (xOp o E H fr) k = some r → ∃ x, execA E H fr o = some x ∧ k x = some r := fun h => by
    obtain ⟨x, hx, h2⟩ := ob_some' h
    exact ⟨x, by rw [← execR_eq]; exact hx, h2⟩
  unfold kOp at h
  cases hop : o.op <;> simp only [hop] at h <;> first | exact fall h | skip
  case pick c a b =>
    unfold execA; rw [hop]; dsimp only
    simp only [kPick, opdR_eq] at h
    replace h := ob_some' h
    obtain ⟨v, hv, h⟩ := h
    rw [hv]
    cases v <;> try (cases h; done)
    rename_i t
    rcases bc_some h with ⟨rfl, h⟩ | ⟨rfl, h⟩
    · replace h := ob_some' h
      obtain ⟨u, hu, h⟩ := h
      exact ⟨_, by simp [hu, vh], h⟩
    · replace h := ob_some' h
      obtain ⟨u, hu, h⟩ := h
      exact ⟨_, by simp [hu, vh], h⟩
  case load t a =>
    unfold execA; rw [hop]; dsimp only
    simp only [kLoad, opdR_eq] at h
    replace h := ob_some' h
    obtain ⟨p, hp, h⟩ := h
    obtain ⟨v, hv, h⟩ := loadKK_some h
    exact ⟨_, by simp [hp, hv, vh], h⟩
  case store t a x =>
    unfold execA; rw [hop]; dsimp only
    simp only [kStore, opdR_eq] at h
    replace h := ob_some' h
    obtain ⟨p, hp, h⟩ := h
    replace h := ob_some' h
    obtain ⟨v, hv, h⟩ := h
    cases p <;> try (cases h; done)
    rename_i id off
    replace h := ob_some' h
    obtain ⟨ti, ht, h⟩ := h
    unfold stK at h
    split at h
    case h_2 => cases h
    rename_i n c e g fz ro mk hget
    obtain ⟨h1, h⟩ := bc_none h
    obtain ⟨h2, h⟩ := bc_none h
    obtain ⟨h3, h⟩ := bc_none h
    simp only [Bool.and_eq_true] at h1 h3
    refine ⟨_, ?_, h⟩
    simp [hp, hv, storeVarA, ht, hget, h1.1, h1.2, h2, h3.1, h3.2]
  case indexAddr t x i =>
    unfold execA; rw [hop]; dsimp only
    simp only [kIndexAddr, opdR_eq] at h
    replace h := ob_some' h
    obtain ⟨a, ha, h⟩ := h
    replace h := ob_some' h
    obtain ⟨b, hb, h⟩ := h
    replace h := ob_some' h
    obtain ⟨ti, ht, h⟩ := h
    have go : ∀ {ei : ATy} {id off len : Nat} {i : Int}, idxK ei id off len i H k = some r → (ilt i 0 = false ∧ Nat.blt i.toNat len = true) ∧ k (.val (.ptr id (off + i.toNat * ei.size)) H) = some r := by
      intro ei id off len i h
      unfold idxK at h
      rcases bc_some h with ⟨_, h⟩ | ⟨h1, h⟩
      · cases h
      · obtain ⟨h2, h⟩ := bc_none h
        exact ⟨⟨h1, h2⟩, h⟩
    split at h
    · rename_i n e id off kd i hd
      replace h := ob_some' h
      obtain ⟨ei, he, h⟩ := h
      obtain ⟨⟨h1, h2⟩, h⟩ := go h
      exact ⟨_, by simp [ha, hb, indexAddrA, ht, hd, he, h1, h2, vh], h⟩
    · rename_i e id off len cap kd i hd
      replace h := ob_some' h
      obtain ⟨ei, he, h⟩ := h
      obtain ⟨⟨h1, h2⟩, h⟩ := go h
      exact ⟨_, by simp [ha, hb, indexAddrA, ht, hd, he, h1, h2, vh], h⟩
    · cases h
  case index t x i =>
    unfold execA; rw [hop]; dsimp only
    simp only [kIndex, opdR_eq] at h
    replace h := ob_some' h
    obtain ⟨a, ha, h⟩ := h
    replace h := ob_some' h
    obtain ⟨b, hb, h⟩ := h
    replace h := ob_some' h
    obtain ⟨ti, ht, h⟩ := h
    split at h
    · rename_i s kd i hd
      rcases bc_some h with ⟨_, h⟩ | ⟨h1, h⟩
      · cases h
      · obtain ⟨h2, h⟩ := bc_none h
        rw [Nat.blt_eq] at h2
        obtain ⟨c, hc1, hc2⟩ := nth_lt h2
        refine ⟨_, ?_, h⟩
        simp [ha, hb, indexA, ht, hd, h1, hc1, hc2, vh]
    · replace h := ob_some' h
      obtain ⟨v, hv, h⟩ := h
      exact ⟨_, by simp [ha, hb, hv, vh], h⟩
  case slice t x lo hi mx =>
    unfold execA; rw [hop]; dsimp only
    have oe : ∀ y, optR E fr y = optOpd E fr y := fun y => by
      cases y with
      | none => rfl
      | some y => simp only [optR, optOpd, opdR_eq]; cases opd E fr y <;> rfl
    simp only [kSlice, opdR_eq, oe] at h
    replace h := ob_some' h
    obtain ⟨a, ha, h⟩ := h
    replace h := ob_some' h
    obtain ⟨l, hl, h⟩ := h
    replace h := ob_some' h
    obtain ⟨hh, hhh, h⟩ := h
    replace h := ob_some' h
    obtain ⟨m, hm, h⟩ := h
    replace h := ob_some' h
    obtain ⟨ti, ht, h⟩ := h
    have lo_some : ∀ {top : Nat} {f : Nat → Option α} {l : Option AV}, loK top f l = some r → ∃ n, loB top l = some n ∧ f n = some r := by
      intro top f l h
      cases l with
      | none => exact ⟨0, rfl, h⟩
      | some v => exact bndK_some h
    split at h
    · rename_i s hd
      split at h
      · obtain ⟨n, hn, h⟩ := lo_some h
        refine ⟨_, ?_, h⟩
        simp only [ha, hl, hhh, hm, sliceA, ht, hd, bnds_none _ _ hn, vh]
      · rename_i hv
        obtain ⟨n1, hn1, h⟩ := bndK_some h
        obtain ⟨n, hn, h⟩ := lo_some h
        refine ⟨_, ?_, h⟩
        simp only [ha, hl, hhh, hm, sliceA, ht, hd, bnds_some _ _ _ _ hn1 hn, vh]
        rfl
    · replace h := ob_some' h
      obtain ⟨v, hv, h⟩ := h
      exact ⟨_, by simp [ha, hl, hhh, hm, hv, vh], h⟩
  case makeSlice t l c =>
    unfold execA; rw [hop]; dsimp only
    simp only [kMake, opdR_eq] at h
    replace h := ob_some' h
    obtain ⟨a, ha, h⟩ := h
    replace h := ob_some' h
    obtain ⟨b, hb, h⟩ := h
    replace h := ob_some' h
    obtain ⟨ti, ht, h⟩ := h
    split at h
    · rename_i e kd li kd2 ci hd
      replace h := ob_some' h
      obtain ⟨ei, he, h⟩ := h
      rcases bc_some h with ⟨_, h⟩ | ⟨h1, h⟩
      · cases h
      · rcases bc_some h with ⟨_, h⟩ | ⟨h2, h⟩
        · cases h
        · obtain ⟨h3, h⟩ := bc_none h
          exact ⟨_, by simp [ha, hb, ht, hd, he, h1, h2, h3], h⟩
    · cases h
  case binOp op t x y z =>
    replace h := ob_some' h
    obtain ⟨a, ha, h⟩ := h
    replace h := ob_some' h
    obtain ⟨b, hb, h⟩ := h
    replace h := ob_some' (binKK_some h)
    obtain ⟨v, hv, h⟩ := h
    have he := execR_eq E H fr o
    unfold execR xOp at he
    rw [hop] at he
    simp only [xBin, ha, hb, ob_some, hv] at he
    exact ⟨v, he.symm, h⟩
end
end
end Go.Vai
