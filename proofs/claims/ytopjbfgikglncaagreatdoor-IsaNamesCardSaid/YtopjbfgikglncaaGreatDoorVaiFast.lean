/- The interpreter once more, word for word the same by what it answers, but laid so that the kernel carries it with few steps. -/
import Derived.Test.YtopjbfgikglncaaGreatDoorVaiTop
namespace Go.Vai
noncomputable section

def ob {α β : Type} (x : Option α) (f : α → Option β) : Option β := Option.rec (motive := fun _ => Option β) none f x
theorem ob_none {α β : Type} (f : α → Option β) : ob none f = none := rfl
theorem ob_some {α β : Type} (v : α) (f : α → Option β) : ob (some v) f = f v := rfl
def bc {α : Type} (b : Bool) (x y : α) : α := Bool.rec (motive := fun _ => α) y x b
theorem bc_eq {α : Type} (b : Bool) (x y : α) : bc b x y = bif b then x else y := by cases b <;> rfl

/-! ### Closed eliminators: the kernel unfolds them without copying -/
def avIntA (v : AV) : (IntKind → Int → Option AV) → Option AV → Option AV :=
  AV.rec (motive_1 := fun _ => (IntKind → Int → Option AV) → Option AV → Option AV) (motive_2 := fun _ => Unit) (fun _ _ d => d) (fun x0 x1 f _ => f x0 x1) (fun _ _ d => d) (fun _ d => d) (fun _ _ _ d => d) (fun _ d => d) (fun _ _ _ _ _ d => d) (fun _ d => d) (fun _ d => d) (fun _ _ _ _ _ _ d => d) (fun _ _ d => d) (fun _ d => d) (fun _ _ _ _ d => d) (fun _ _ _ d => d) (fun _ _ _ d => d) (fun _ d => d) (fun _ _ d => d) (fun _ d => d) () (fun _ _ _ _ => ()) v

def avStrA (v : AV) : (List UInt8 → Option AV) → Option AV → Option AV :=
  AV.rec (motive_1 := fun _ => (List UInt8 → Option AV) → Option AV → Option AV) (motive_2 := fun _ => Unit) (fun _ _ d => d) (fun _ _ _ d => d) (fun x0 f _ => f x0) (fun _ d => d) (fun _ _ _ d => d) (fun _ d => d) (fun _ _ _ _ _ d => d) (fun _ d => d) (fun _ d => d) (fun _ _ _ _ _ _ d => d) (fun _ _ d => d) (fun _ d => d) (fun _ _ _ _ d => d) (fun _ _ _ d => d) (fun _ _ _ d => d) (fun _ d => d) (fun _ _ d => d) (fun _ d => d) () (fun _ _ _ _ => ()) v

def avPtrA (v : AV) : (Nat → Nat → Option AV) → Option AV → Option AV :=
  AV.rec (motive_1 := fun _ => (Nat → Nat → Option AV) → Option AV → Option AV) (motive_2 := fun _ => Unit) (fun _ _ d => d) (fun _ _ _ d => d) (fun _ _ d => d) (fun _ d => d) (fun x0 x1 f _ => f x0 x1) (fun _ d => d) (fun _ _ _ _ _ d => d) (fun _ d => d) (fun _ d => d) (fun _ _ _ _ _ _ d => d) (fun _ _ d => d) (fun _ d => d) (fun _ _ _ _ d => d) (fun _ _ _ d => d) (fun _ _ _ d => d) (fun _ d => d) (fun _ _ d => d) (fun _ d => d) () (fun _ _ _ _ => ()) v

def avSlA (v : AV) : (Nat → Nat → Nat → Option Nat → Option AV) → Option AV → Option AV :=
  AV.rec (motive_1 := fun _ => (Nat → Nat → Nat → Option Nat → Option AV) → Option AV → Option AV) (motive_2 := fun _ => Unit) (fun _ _ d => d) (fun _ _ _ d => d) (fun _ _ d => d) (fun _ d => d) (fun _ _ _ d => d) (fun _ d => d) (fun x0 x1 x2 x3 f _ => f x0 x1 x2 x3) (fun _ d => d) (fun _ d => d) (fun _ _ _ _ _ _ d => d) (fun _ _ d => d) (fun _ d => d) (fun _ _ _ _ d => d) (fun _ _ _ d => d) (fun _ _ _ d => d) (fun _ d => d) (fun _ _ d => d) (fun _ d => d) () (fun _ _ _ _ => ()) v

def avAggA (v : AV) : (List AV → Option AV) → Option AV → Option AV :=
  AV.rec (motive_1 := fun _ => (List AV → Option AV) → Option AV → Option AV) (motive_2 := fun _ => Unit) (fun _ _ d => d) (fun _ _ _ d => d) (fun _ _ d => d) (fun _ d => d) (fun _ _ _ d => d) (fun _ d => d) (fun _ _ _ _ _ d => d) (fun _ d => d) (fun _ d => d) (fun _ _ _ _ _ _ d => d) (fun _ _ d => d) (fun _ d => d) (fun _ _ _ _ d => d) (fun x0 _ f _ => f x0) (fun _ _ _ d => d) (fun _ d => d) (fun _ _ d => d) (fun _ d => d) () (fun _ _ _ _ => ()) v

def avPtrH (v : AV) : (Nat → Nat → Option AHeap) → Option AHeap → Option AHeap :=
  AV.rec (motive_1 := fun _ => (Nat → Nat → Option AHeap) → Option AHeap → Option AHeap) (motive_2 := fun _ => Unit) (fun _ _ d => d) (fun _ _ _ d => d) (fun _ _ d => d) (fun _ d => d) (fun x0 x1 f _ => f x0 x1) (fun _ d => d) (fun _ _ _ _ _ d => d) (fun _ d => d) (fun _ d => d) (fun _ _ _ _ _ _ d => d) (fun _ _ d => d) (fun _ d => d) (fun _ _ _ _ d => d) (fun _ _ _ d => d) (fun _ _ _ d => d) (fun _ d => d) (fun _ _ d => d) (fun _ d => d) () (fun _ _ _ _ => ()) v

def avBoolR (v : AV) : (Bool → Option ARes) → Option ARes → Option ARes :=
  AV.rec (motive_1 := fun _ => (Bool → Option ARes) → Option ARes → Option ARes) (motive_2 := fun _ => Unit) (fun x0 f _ => f x0) (fun _ _ _ d => d) (fun _ _ d => d) (fun _ d => d) (fun _ _ _ d => d) (fun _ d => d) (fun _ _ _ _ _ d => d) (fun _ d => d) (fun _ d => d) (fun _ _ _ _ _ _ d => d) (fun _ _ d => d) (fun _ d => d) (fun _ _ _ _ d => d) (fun _ _ _ d => d) (fun _ _ _ d => d) (fun _ d => d) (fun _ _ d => d) (fun _ d => d) () (fun _ _ _ _ => ()) v

def avTupR (v : AV) : (List AV → Option ARes) → Option ARes → Option ARes :=
  AV.rec (motive_1 := fun _ => (List AV → Option ARes) → Option ARes → Option ARes) (motive_2 := fun _ => Unit) (fun _ _ d => d) (fun _ _ _ d => d) (fun _ _ d => d) (fun _ d => d) (fun _ _ _ d => d) (fun _ d => d) (fun _ _ _ _ _ d => d) (fun _ d => d) (fun _ d => d) (fun _ _ _ _ _ _ d => d) (fun _ _ d => d) (fun _ d => d) (fun _ _ _ _ d => d) (fun _ _ _ d => d) (fun x0 _ f _ => f x0) (fun _ d => d) (fun _ _ d => d) (fun _ d => d) () (fun _ _ _ _ => ()) v

def avBoolT (v : AV) : (Bool → Option TRes) → Option TRes → Option TRes :=
  AV.rec (motive_1 := fun _ => (Bool → Option TRes) → Option TRes → Option TRes) (motive_2 := fun _ => Unit) (fun x0 f _ => f x0) (fun _ _ _ d => d) (fun _ _ d => d) (fun _ d => d) (fun _ _ _ d => d) (fun _ d => d) (fun _ _ _ _ _ d => d) (fun _ d => d) (fun _ d => d) (fun _ _ _ _ _ _ d => d) (fun _ _ d => d) (fun _ d => d) (fun _ _ _ _ d => d) (fun _ _ _ d => d) (fun _ _ _ d => d) (fun _ d => d) (fun _ _ d => d) (fun _ d => d) () (fun _ _ _ _ => ()) v

def avBoolB (v : AV) : (Bool → Option Bool) → Option Bool → Option Bool :=
  AV.rec (motive_1 := fun _ => (Bool → Option Bool) → Option Bool → Option Bool) (motive_2 := fun _ => Unit) (fun x0 f _ => f x0) (fun _ _ _ d => d) (fun _ _ d => d) (fun _ d => d) (fun _ _ _ d => d) (fun _ d => d) (fun _ _ _ _ _ d => d) (fun _ d => d) (fun _ d => d) (fun _ _ _ _ _ _ d => d) (fun _ _ d => d) (fun _ d => d) (fun _ _ _ _ d => d) (fun _ _ _ d => d) (fun _ _ _ d => d) (fun _ d => d) (fun _ _ d => d) (fun _ d => d) () (fun _ _ _ _ => ()) v

def avTupB (v : AV) : (List AV → Option Bool) → Option Bool → Option Bool :=
  AV.rec (motive_1 := fun _ => (List AV → Option Bool) → Option Bool → Option Bool) (motive_2 := fun _ => Unit) (fun _ _ d => d) (fun _ _ _ d => d) (fun _ _ d => d) (fun _ d => d) (fun _ _ _ d => d) (fun _ d => d) (fun _ _ _ _ _ d => d) (fun _ d => d) (fun _ d => d) (fun _ _ _ _ _ _ d => d) (fun _ _ d => d) (fun _ d => d) (fun _ _ _ _ d => d) (fun _ _ _ d => d) (fun x0 _ f _ => f x0) (fun _ d => d) (fun _ _ d => d) (fun _ d => d) () (fun _ _ _ _ => ()) v

def avFnR (v : AV) : (FuncId → List AV → List AV → Option ARes) → Option ARes → Option ARes :=
  AV.rec (motive_1 := fun _ => (FuncId → List AV → List AV → Option ARes) → Option ARes → Option ARes) (motive_2 := fun _ => Unit) (fun _ _ d => d) (fun _ _ _ d => d) (fun _ _ d => d) (fun _ d => d) (fun _ _ _ d => d) (fun _ d => d) (fun _ _ _ _ _ d => d) (fun _ d => d) (fun _ d => d) (fun x0 x1 x2 _ _ f _ => f x0 x1 x2) (fun _ _ d => d) (fun _ d => d) (fun _ _ _ _ d => d) (fun _ _ _ d => d) (fun _ _ _ d => d) (fun _ d => d) (fun _ _ d => d) (fun _ d => d) () (fun _ _ _ _ => ()) v

def avYldR (v : AV) : (Nat → Option ARes) → Option ARes → Option ARes :=
  AV.rec (motive_1 := fun _ => (Nat → Option ARes) → Option ARes → Option ARes) (motive_2 := fun _ => Unit) (fun _ _ d => d) (fun _ _ _ d => d) (fun _ _ d => d) (fun _ d => d) (fun _ _ _ d => d) (fun _ d => d) (fun _ _ _ _ _ d => d) (fun _ d => d) (fun _ d => d) (fun _ _ _ _ _ _ d => d) (fun x0 f _ => f x0) (fun _ d => d) (fun _ _ _ _ d => d) (fun _ _ _ d => d) (fun _ _ _ d => d) (fun _ d => d) (fun _ _ d => d) (fun _ d => d) () (fun _ _ _ _ => ()) v

def adSliceA (v : AD) : (Nat → Option AV) → Option AV → Option AV :=
  AD.rec (motive := fun _ => (Nat → Option AV) → Option AV → Option AV) (fun _ _ d => d) (fun _ d => d) (fun _ d => d) (fun _ _ d => d) (fun x0 f _ => f x0) (fun _ _ _ d => d) (fun _ _ _ d => d) (fun _ d => d) (fun _ d => d) (fun _ d => d) (fun _ d => d) (fun _ _ _ d => d) v

def adArrA (v : AD) : (Nat → Nat → Option AV) → Option AV → Option AV :=
  AD.rec (motive := fun _ => (Nat → Nat → Option AV) → Option AV → Option AV) (fun _ _ d => d) (fun _ d => d) (fun _ d => d) (fun _ _ d => d) (fun _ _ d => d) (fun x0 x1 f _ => f x0 x1) (fun _ _ _ d => d) (fun _ d => d) (fun _ d => d) (fun _ d => d) (fun _ d => d) (fun _ _ _ d => d) v

def adStructA (v : AD) : (List (Nat × Nat) → Bool → Option AV) → Option AV → Option AV :=
  AD.rec (motive := fun _ => (List (Nat × Nat) → Bool → Option AV) → Option AV → Option AV) (fun _ _ d => d) (fun _ d => d) (fun _ d => d) (fun _ _ d => d) (fun _ _ d => d) (fun _ _ _ d => d) (fun x0 x1 f _ => f x0 x1) (fun _ d => d) (fun _ d => d) (fun _ d => d) (fun _ d => d) (fun _ _ _ d => d) v

def adStrA (v : AD) : Option AV → Option AV → Option AV :=
  AD.rec (motive := fun _ => Option AV → Option AV → Option AV) (fun _ _ d => d) (fun _ d => d) (fun f _ => f) (fun _ _ d => d) (fun _ _ d => d) (fun _ _ _ d => d) (fun _ _ _ d => d) (fun _ d => d) (fun _ d => d) (fun _ d => d) (fun _ d => d) (fun _ _ _ d => d) v

/-! ### Numbers -/
def topK : IntKind → Nat
  | .i8 => 128 | .i16 => 32768 | .i32 => 2147483648 | .i64 => 9223372036854775808 | .u8 => 256 | .u16 => 65536 | .u32 => 4294967296 | .u64 => 18446744073709551616
def botK : IntKind → Nat
  | .i8 => 128 | .i16 => 32768 | .i32 => 2147483648 | .i64 => 9223372036854775808 | .u8 => 0 | .u16 => 0 | .u32 => 0 | .u64 => 0
def inR (k : IntKind) (n : Int) : Bool := Int.rec (motive := fun _ => Bool) (fun m => Nat.blt m (topK k)) (fun m => Nat.blt m (botK k)) n
def wrapR (k : IntKind) (n : Int) : Int := bc (inR k n) n (k.wrap n)
theorem wrapR_eq (k : IntKind) (n : Int) : wrapR k n = k.wrap n := by
  unfold wrapR
  cases h : inR k n with
  | false => rfl
  | true =>
    show n = _
    have b : -(botK k : Int) ≤ n ∧ n < topK k := by
      cases n with
      | ofNat m =>
        have h' : Nat.blt m (topK k) = true := h
        rw [Nat.blt_eq] at h'
        constructor
        · have : (0 : Int) ≤ Int.ofNat m := Int.natCast_nonneg m
          omega
        · exact Int.ofNat_lt.2 h'
      | negSucc m =>
        have h' : Nat.blt m (botK k) = true := h
        rw [Nat.blt_eq] at h'
        have : Int.negSucc m = -((m : Int) + 1) := Int.negSucc_eq m
        constructor <;> omega
    symm
    cases k <;> simp only [topK, botK] at b
    · exact IntWalk.i8_in n (by omega)
    · exact IntWalk.i16_in n (by omega)
    · exact IntWalk.i32_in n (by omega)
    · exact IntWalk.i64_in n (by omega)
    · exact IntWalk.u8_in n (by omega)
    · exact IntWalk.u16_in n (by omega)
    · exact IntWalk.u32_in n (by omega)
    · exact IntWalk.u64_in n (by omega)

def intOp (op : BinOp) : IntKind → Int → Int → Option AV :=
  BinOp.rec (motive := fun _ => IntKind → Int → Int → Option AV) (fun k x y => some (.int k (wrapR k (Int.add x y))))
    (fun k x y => some (.int k (wrapR k (Int.sub x y))))
    (fun k x y => some (.int k (wrapR k (Int.mul x y))))
    (fun k x y => intBin .quo k x y)
    (fun k x y => intBin .rem k x y)
    (fun k x y => intBin .and k x y)
    (fun k x y => intBin .or k x y)
    (fun k x y => intBin .xor k x y)
    (fun k x y => intBin .shl k x y)
    (fun k x y => intBin .shr k x y)
    (fun k x y => intBin .andNot k x y)
    (fun _ x y => some (.bool (ieq x y)))
    (fun _ x y => some (.bool (!(ieq x y))))
    (fun _ x y => some (.bool (ilt x y)))
    (fun _ x y => some (.bool (!(ilt y x))))
    (fun _ x y => some (.bool (ilt y x)))
    (fun _ x y => some (.bool (!(ilt x y)))) op
theorem intOp_eq (op : BinOp) (k : IntKind) (x y : Int) : intOp op k x y = intBin op k x y := by
  cases op <;> (try rfl) <;> (show some (AV.int k (wrapR k _)) = _) <;> rw [wrapR_eq] <;> rfl

def isShift : BinOp → Bool
  | .shl => true
  | .shr => true
  | _ => false

def isNili : AV → Bool
  | .nili => true
  | _ => false

def binIK (E : Env) (op : BinOp) (xt : TypeId) (a b : AV) (k : IntKind) (i : Int) : Option AV :=
  avIntA b (fun k' j => bc (isShift op) (binA E op xt (.int k i) (.int k' j)) (bc (sameKind k k') (intOp op k i j) none)) (binA E op xt a b)
def binR (E : Env) (op : BinOp) (xt : TypeId) (a b : AV) : Option AV := avIntA a (fun k i => binIK E op xt a b k i) (binA E op xt a b)
theorem binR_eq (E : Env) (op : BinOp) (xt : TypeId) (a b : AV) : binR E op xt a b = binA E op xt a b := by
  cases a <;> try rfl
  cases b <;> try rfl
  rename_i k i k' j
  show bc (isShift op) (binA E op xt (.int k i) (.int k' j)) (bc (sameKind k k') (intOp op k i j) none) = _
  rw [intOp_eq]
  cases op <;> simp only [isShift, bc_eq, cond_true, cond_false, binA]

/-! ### Operands -/
def opdR (E : Env) (fr : Tr AV) (x : Operand) : Option AV :=
  Operand.rec (motive := fun _ => Env → Tr AV → Option AV) (fun t _ fr => fr.get t) (fun v _ _ => constA v) (fun g E _ => bif Nat.blt g E.ng then some (.ptr g 0) else none) (fun f _ _ => some (.fn f [] [])) x E fr
theorem opdR_eq (E : Env) (fr : Tr AV) (x : Operand) : opdR E fr x = opd E fr x := by cases x <;> rfl

def opdsR (E : Env) (fr : Tr AV) (l : List Operand) : Option (List AV) :=
  List.rec (motive := fun _ => Option (List AV)) (some []) (fun x _ ih => ob (opdR E fr x) fun v => ob ih fun vs => some (v :: vs)) l
theorem opdsR_eq (E : Env) (fr : Tr AV) : ∀ l : List Operand, opdsR E fr l = opds E fr l
  | [] => rfl
  | x :: xs => by
    show ob (opdR E fr x) (fun v => ob (opdsR E fr xs) fun vs => some (v :: vs)) = _
    rw [opdR_eq, opdsR_eq]
    simp only [opds]
    cases opd E fr x with
    | none => rfl
    | some v => cases opds E fr xs <;> rfl

/-! ### Memory -/
def loadC (off : Nat) (ti : ATy) (c : Tr AV) : Option AV := bc ti.agg (ob (c.getAll off ti.size) fun l => some (.agg l)) (c.get off)
def loadK (o : AObj) : Nat → ATy → Option AV :=
  AObj.rec (motive := fun _ => Nat → ATy → Option AV) (fun _ c _ _ _ _ _ off ti => loadC off ti c) (fun _ _ _ _ _ _ _ _ _ _ => none) (fun _ _ _ _ => none) (fun _ _ => none) (fun _ _ _ _ _ => none) (fun _ _ _ _ _ _ => none) o
def loadR (E : Env) (H : AHeap) (t : TypeId) (p : AV) : Option AV := avPtrA p (fun id off => ob (E.ty t) fun ti => ob (H.get id) fun o => loadK o off ti) none
theorem loadR_eq (E : Env) (H : AHeap) (t : TypeId) (p : AV) : loadR E H t p = loadVarA E H t p := by
  cases p <;> try rfl
  rename_i id off
  show (ob (E.ty t) fun ti => ob (H.get id) fun o => loadK o off ti) = _
  simp only [loadVarA]
  cases E.ty t with
  | none => rfl
  | some ti =>
    cases H.get id with
    | none => rfl
    | some o =>
      cases o <;> try rfl
      rename_i n c e g fz ro mk
      show loadC off ti c = _
      simp only [loadC, bc_eq]
      cases ti.agg
      · rfl
      · simp only [cond_true]
        cases c.getAll off ti.size <;> rfl

def storeK (H : AHeap) (ti : ATy) (id off : Nat) (vs : List AV) : AObj → Option AHeap
  | .cells n c e g fz ro mk => bc (Nat.beq vs.length ti.size && (vs.all AV.one && (Nat.ble (off + ti.size) n && (Nat.ble fz off && !ro)))) (some (H.put id (.cells n (c.putAll off vs) e g fz ro mk))) none
  | _ => none
def storeR (E : Env) (H : AHeap) (t : TypeId) (v p : AV) : Option AHeap := avPtrH p (fun id off => ob (E.ty t) fun ti => ob (H.get id) fun o => storeK H ti id off v.cells o) none
theorem storeR_eq (E : Env) (H : AHeap) (t : TypeId) (p v : AV) : storeR E H t v p = storeVarA E H t p v := by
  cases p <;> try rfl
  rename_i id off
  show (ob (E.ty t) fun ti => ob (H.get id) fun o => storeK H ti id off v.cells o) = _
  simp only [storeVarA]
  cases E.ty t with
  | none => rfl
  | some ti =>
    cases H.get id with
    | none => rfl
    | some o =>
      cases o <;> try rfl
      simp only [ob_some, storeK, bc_eq]

/-! ### One operation -/
abbrev XF := Env → AHeap → Tr AV → Option ARes
def rv (H : AHeap) (v : AV) : Option ARes := some (.val v H)
theorem ob_vh (H : AHeap) (x : Option AV) : (ob x fun v => rv H v) = vh H x := by cases x <;> rfl

def xMove (x : Operand) : XF := fun E H fr => ob (opdR E fr x) fun v => rv H v
def pickK (E : Env) (H : AHeap) (fr : Tr AV) (a b : Operand) (v : AV) : Option ARes := avBoolR v (fun c => bc c (ob (opdR E fr a) fun v => rv H v) (ob (opdR E fr b) fun v => rv H v)) none
def xPick (c a b : Operand) : XF := fun E H fr => ob (opdR E fr c) fun v => pickK E H fr a b v
def xLoad (t : TypeId) (a : Operand) : XF := fun E H fr => ob (opdR E fr a) fun p => ob (loadR E H t p) fun v => rv H v
def xStore (t : TypeId) (a x : Operand) : XF := fun E H fr => ob (opdR E fr a) fun p => ob (opdR E fr x) fun v => ob (storeR E H t v p) fun H' => some (.skip H')
def binK (E : Env) (H : AHeap) (op : BinOp) (t : TypeId) (x y : Operand) (a b : AV) : Option ARes :=
  bc (isNili a && isNili b) (bc (isConst x || isConst y) (vh H (binA E op t a b)) none) (ob (binR E op t a b) fun v => rv H v)
def xBin (op : BinOp) (t : TypeId) (x y : Operand) : XF := fun E H fr => ob (opdR E fr x) fun a => ob (opdR E fr y) fun b => binK E H op t x y a b
def xUn (op : UnOp) (x : Operand) : XF := fun E H fr => ob (opdR E fr x) fun a => ob (unA op a) fun v => rv H v
def fieldAddrR (E : Env) (t : TypeId) (x : AV) (f : Nat) : Option AV := ob (E.ty t) fun ti => avPtrA x (fun id off => adStructA ti.d (fun fs _ => ob (nthF fs f) fun p => ob (E.ty p.2) fun fi => bc (Nat.beq fi.size 0) none (some (.ptr id (Nat.add off p.1)))) none) none
theorem fieldAddrR_eq (E : Env) (t : TypeId) (x : AV) (f : Nat) : fieldAddrR E t x f = fieldAddrA E t x f := by
  unfold fieldAddrR fieldAddrA
  cases E.ty t with
  | none => rfl
  | some ti =>
    simp only [ob_some]
    cases x <;> (try (cases ti.d <;> rfl; done))
    rename_i id off
    obtain ⟨d, a1, a2, a3, a4, a5⟩ := ti
    cases d <;> try rfl
    rename_i fs q
    show (ob (nthF fs f) fun p => ob (E.ty p.2) fun fi => bc (Nat.beq fi.size 0) none (some (AV.ptr id (Nat.add off p.1)))) = _
    dsimp only
    cases nthF fs f with
    | none => rfl
    | some p =>
      obtain ⟨o, ft⟩ := p
      simp only [ob_some]
      cases E.ty ft with
      | none => rfl
      | some fi => simp only [ob_some, bc_eq]; rfl
def xFieldAddr (t : TypeId) (x : Operand) (f : Nat) : XF := fun E H fr => ob (opdR E fr x) fun a => ob (fieldAddrR E t a f) fun v => rv H v
def xField (t : TypeId) (x : Operand) (f : Nat) : XF := fun E H fr => ob (opdR E fr x) fun a => ob (fieldA E t a f) fun v => rv H v
def idxA (E : Env) (e id off len n : Nat) : Option AV := ob (E.ty e) fun ei => bc (Nat.blt n len) (some (.ptr id (off + n * ei.size))) none
def indexAddrR (E : Env) (t : TypeId) (x i : AV) : Option AV := ob (E.ty t) fun ti => avIntA i (fun _ n => bc (ilt n 0) none (adSliceA ti.d (fun e => avSlA x (fun id off len _ => idxA E e id off len n.toNat) none) (adArrA ti.d (fun k e => avPtrA x (fun id off => idxA E e id off k n.toNat) none) none))) none
theorem indexAddrR_eq (E : Env) (t : TypeId) (x i : AV) : indexAddrR E t x i = indexAddrA E t x i := by
  unfold indexAddrR indexAddrA
  cases E.ty t with
  | none => rfl
  | some ti =>
    simp only [ob_some]
    cases i <;> try rfl
    rename_i k n
    show bc (ilt n 0) none _ = _
    rw [bc_eq]
    simp only
    cases ilt n 0 with
    | true => rfl
    | false =>
      simp only [cond_false]
      obtain ⟨d, a1, a2, a3, a4, a5⟩ := ti
      cases d <;> (try (cases x <;> rfl; done))
      case slice e =>
        cases x <;> try rfl
        rename_i id off len cap
        show idxA E e id off len n.toNat = _
        unfold idxA
        simp only
        cases E.ty e with
        | none => rfl
        | some ei => simp only [ob_some, bc_eq]
      case array q e =>
        cases x <;> try rfl
        rename_i id off
        show idxA E e id off q n.toNat = _
        unfold idxA
        simp only
        cases E.ty e with
        | none => rfl
        | some ei => simp only [ob_some, bc_eq]
def xIndexAddr (t : TypeId) (x i : Operand) : XF := fun E H fr => ob (opdR E fr x) fun a => ob (opdR E fr i) fun b => ob (indexAddrR E t a b) fun v => rv H v
def nthR (s : List UInt8) : Nat → Option UInt8 := List.rec (motive := fun _ => Nat → Option UInt8) (fun _ => none) (fun a _ ih i => Nat.rec (motive := fun _ => Option UInt8) (some a) (fun j _ => ih j) i) s
theorem nthR_eq : ∀ (s : List UInt8) (i : Nat), nthR s i = nth s i
  | [], _ => rfl
  | _ :: _, 0 => rfl
  | _ :: s, i + 1 => nthR_eq s i
def indexR (E : Env) (t : TypeId) (x i : AV) : Option AV := avStrA x (fun s => ob (E.ty t) fun ti => adStrA ti.d (avIntA i (fun _ n => bc (ilt n 0) none (ob (nthR s n.toNat) fun b => some (byteAV b))) none) (indexA E t x i)) (indexA E t x i)
theorem indexR_eq (E : Env) (t : TypeId) (x i : AV) : indexR E t x i = indexA E t x i := by
  unfold indexR
  cases x <;> try rfl
  rename_i s
  show (ob (E.ty t) fun ti => adStrA ti.d _ (indexA E t (.str s) i)) = _
  cases ht : E.ty t with
  | none => simp [ob, indexA, ht]
  | some ti =>
    simp only [ob_some]
    cases hd : ti.d <;> try rfl
    show avIntA i (fun _ n => bc (ilt n 0) none (ob (nthR s n.toNat) fun b => some (byteAV b))) none = _
    unfold indexA
    rw [ht]
    cases i <;> try rfl
    rename_i k n
    show bc (ilt n 0) none _ = _
    rw [bc_eq, nthR_eq]
    simp only [hd]
    cases ilt n 0 with
    | true => rfl
    | false =>
      simp only [cond_false]
      cases nth s n.toNat <;> rfl
def xIndex (t : TypeId) (x i : Operand) : XF := fun E H fr => ob (opdR E fr x) fun a => ob (opdR E fr i) fun b => ob (indexR E t a b) fun v => rv H v
def extK (H : AHeap) (i : Nat) (v : AV) : Option ARes := avTupR v (fun vs => ob (vs.drop i).head? fun v => rv H v) none
def xExtract (x : Operand) (i : Nat) : XF := fun E H fr => ob (opdR E fr x) fun a => extK H i a
def callK (E : Env) (fr : Tr AV) (args : List Operand) (v : AV) : Option ARes :=
  avFnR v (fun g first cap => ob (opdsR E fr args) fun l => some (.call g (first ++ (l ++ cap)))) (avYldR v (fun id => ob (opdsR E fr args) fun l => some (.ycall id l)) none)
def xCall (c : Call) : XF := match c.callee with
  | .builtin b => fun E H fr => ob (opdsR E fr c.args.toList) fun l => builtinA E H b c.argTypes.toList l
  | .value f => fun E _ fr => ob (opdR E fr f) fun v => callK E fr c.args.toList v
  | .invoke _ _ => fun _ _ _ => none
def optR (E : Env) (fr : Tr AV) : Option Operand → Option (Option AV)
  | none => some none
  | some x => ob (opdR E fr x) fun v => some (some v)
def xSlice (t : TypeId) (x : Operand) (lo hi mx : Option Operand) : XF := fun E H fr => ob (opdR E fr x) fun a => ob (optR E fr lo) fun l => ob (optR E fr hi) fun h => ob (optR E fr mx) fun m => ob (sliceA E H t a l h m) fun v => rv H v
def boxK (H : AHeap) (e : TypeId) (cs : List AV) : Option ARes := bc (cs.all AV.one) (some (.val (.ptr H.next 0) (newRowA H e cs))) none
def xBox (e : TypeId) (x : Operand) : XF := fun E H fr => ob (opdR E fr x) fun v => boxK H e v.cells
def xAlloc (e : TypeId) : XF := fun E H _ => ob (E.ty e) fun ti => some (.val (.ptr H.next 0) (newRowA H e ti.zero))

def xElse (o : Oper) : XF := fun E H fr => execA E H fr o
def xOp (o : Oper) : XF :=
  Op.rec (motive := fun _ => Oper → XF) (fun x _ => xMove x)
    (fun x _ => xMove x)
    (fun c a b _ => xPick c a b)
    (fun e _ => xAlloc e)
    (fun e x _ => xBox e x)
    (fun _ _ o => xElse o)
    (fun _ _ _ o => xElse o)
    (fun _ _ _ _ o => xElse o)
    (fun t a _ => xLoad t a)
    (fun t a x _ => xStore t a x)
    (fun _ o => xElse o)
    (fun _ o => xElse o)
    (fun _ o => xElse o)
    (fun op t x y _ _ => xBin op t x y)
    (fun op _ x _ => xUn op x)
    (fun _ _ _ o => xElse o)
    (fun _ _ o => xElse o)
    (fun _ _ o => xElse o)
    (fun _ _ _ o => xElse o)
    (fun _ _ o => xElse o)
    (fun _ _ o => xElse o)
    (fun _ _ _ o => xElse o)
    (fun t x lo hi mx _ => xSlice t x lo hi mx)
    (fun t x f _ => xFieldAddr t x f)
    (fun t x f _ => xField t x f)
    (fun t x i _ => xIndexAddr t x i)
    (fun t x i _ => xIndex t x i)
    (fun _ _ _ _ o => xElse o)
    (fun _ _ _ _ o => xElse o)
    (fun _ _ _ o => xElse o)
    (fun _ _ _ _ o => xElse o)
    (fun _ _ o => xElse o)
    (fun _ _ o => xElse o)
    (fun _ o => xElse o)
    (fun _ _ _ _ o => xElse o)
    (fun x i _ => xExtract x i)
    (fun c _ => xCall c)
    (fun _ o => xElse o)
    (fun _ o => xElse o)
    (fun _ o => xElse o)
    (fun _ _ o => xElse o)
    (fun _ _ _ o => xElse o)
    (fun _ _ o => xElse o) o.op o
def execR (E : Env) (H : AHeap) (fr : Tr AV) (o : Oper) : Option ARes := xOp o E H fr

theorem isNili_iff (a : AV) : isNili a = true ↔ a = .nili := by cases a <;> simp [isNili]

theorem execR_eq (E : Env) (H : AHeap) (fr : Tr AV) (o : Oper) : execR E H fr o = execA E H fr o := by
  unfold execR xOp
  cases hop : o.op <;> (try rfl) <;> unfold execA <;> rw [hop] <;> dsimp only
  case move x => simp only [xMove, ob_vh, opdR_eq]
  case assign x => simp only [xMove, ob_vh, opdR_eq]
  case pick c a b =>
    simp only [xPick, opdR_eq]
    cases opd E fr c with
    | none => rfl
    | some v =>
      cases v <;> try rfl
      rename_i b'
      show bc b' (ob (opdR E fr a) fun v => rv H v) (ob (opdR E fr b) fun v => rv H v) = _
      simp only [ob_vh, opdR_eq]
      cases b' <;> rfl
  case load t a =>
    simp only [xLoad, opdR_eq, loadR_eq, ob_vh]
    cases opd E fr a <;> rfl
  case store t a x =>
    simp only [xStore, opdR_eq, storeR_eq]
    cases opd E fr a with
    | none => rfl
    | some p =>
      cases opd E fr x with
      | none => rfl
      | some v =>
        simp only [ob_some]
        cases storeVarA E H t p v <;> rfl
  case binOp op t x y z =>
    simp only [xBin, opdR_eq]
    cases opd E fr x with
    | none => rfl
    | some a =>
      cases opd E fr y with
      | none => cases a <;> rfl
      | some b =>
        simp only [ob_some, binK, ob_vh, binR_eq, bc_eq]
        by_cases ha : isNili a = true
        · by_cases hb : isNili b = true
          · rw [ha, hb]
            rw [isNili_iff] at ha hb
            subst ha; subst hb
            rfl
          · have hb' : isNili b = false := by simpa using hb
            rw [ha, hb']
            cases a <;> (try (simp [isNili] at ha; done))
            cases b <;> first | rfl | (simp [isNili] at hb'; done)
        · have ha' : isNili a = false := by simpa using ha
          rw [ha']
          cases a <;> first | rfl | (simp [isNili] at ha'; done)
  case unOp op t x =>
    simp only [xUn, opdR_eq, ob_vh]
    cases opd E fr x <;> rfl
  case fieldAddr t x f =>
    simp only [xFieldAddr, opdR_eq, fieldAddrR_eq, ob_vh]
    cases opd E fr x <;> rfl
  case field t x f =>
    simp only [xField, opdR_eq, ob_vh]
    cases opd E fr x <;> rfl
  case indexAddr t x i =>
    simp only [xIndexAddr, opdR_eq, indexAddrR_eq, ob_vh]
    cases opd E fr x with
    | none => rfl
    | some a => cases opd E fr i <;> rfl
  case index t x i =>
    simp only [xIndex, opdR_eq, indexR_eq, ob_vh]
    cases opd E fr x with
    | none => rfl
    | some a => cases opd E fr i <;> rfl
  case extract x i =>
    simp only [xExtract, opdR_eq]
    cases opd E fr x with
    | none => rfl
    | some a =>
      cases a <;> try rfl
      rename_i vs
      show (ob (vs.drop i).head? fun v => rv H v) = _
      dsimp only
      cases (vs.drop i).head? <;> rfl
  case call c =>
    unfold xCall
    cases c.callee with
    | builtin b =>
      simp only [opdsR_eq]
      cases opds E fr c.args.toList <;> rfl
    | value f =>
      simp only [opdR_eq]
      cases opd E fr f with
      | none => rfl
      | some v =>
        cases v <;> try rfl
        case fn g first cap =>
          show (ob (opdsR E fr c.args.toList) fun l => some (ARes.call g (first ++ (l ++ cap)))) = _
          rw [opdsR_eq]
          cases opds E fr c.args.toList <;> rfl
        case yld id =>
          show (ob (opdsR E fr c.args.toList) fun l => some (ARes.ycall id l)) = _
          rw [opdsR_eq]
          cases opds E fr c.args.toList <;> rfl
    | invoke r n => rfl
  case slice t x lo hi mx =>
    have oe : ∀ y, optR E fr y = optOpd E fr y := fun y => by
      cases y with
      | none => rfl
      | some y => simp only [optR, optOpd, opdR_eq]; cases opd E fr y <;> rfl
    simp only [xSlice, opdR_eq, oe, ob_vh]
    cases opd E fr x with
    | none => rfl
    | some a => cases optOpd E fr lo with
      | none => rfl
      | some l => cases optOpd E fr hi with
        | none => rfl
        | some h => cases optOpd E fr mx <;> rfl
  case box e x =>
    simp only [xBox, opdR_eq]
    cases opd E fr x with
    | none => rfl
    | some v => simp only [ob_some, boxK, bc_eq]
  case alloc e =>
    simp only [xAlloc]
    cases E.ty e <;> rfl

/-! ### Rows of operations -/
def putR (fr : AFr) (d : Option Tmp) (v : AV) : AFr :=
  Option.rec (motive := fun _ => AFr) fr (fun d => bc (Nat.blt d fr.n) ⟨fr.n, fr.t.set d v, fr.df, fr.rd⟩ fr) d
theorem putR_eq (fr : AFr) (d : Option Tmp) (v : AV) : putR fr d v = fr.put d v := by
  cases d with
  | none => rfl
  | some d => simp only [putR, AFr.put, bc_eq]

def wantK (v : AV) (want : Bool) : Option Bool := avBoolB v (fun b => some (b == want)) (avTupB v (fun _ => some false) none)
def wantedR (ops : Array Oper) (fr : Tr AV) (g : Option (Nat × Bool)) : Option Bool :=
  match g with
  | none => some true
  | some (j, want) => match (ops[j]?).bind (·.dst) with
    | none => some false
    | some d => ob (fr.get d) fun v => wantK v want
theorem wantedR_eq (ops : Array Oper) (fr : Tr AV) (o : Oper) : wantedR ops fr o.guard = wantedA ops fr o := by
  unfold wantedR wantedA
  cases o.guard with
  | none => rfl
  | some g =>
    obtain ⟨j, want⟩ := g
    simp only
    cases (ops[j]?).bind (·.dst) with
    | none => rfl
    | some d =>
      simp only
      cases fr.get d with
      | none => rfl
      | some v => cases v <;> rfl

def callsR (ih : Task → Option TRes) (H : AHeap) : ARes → Option ARes
  | .val v H => some (.val v H)
  | .skip H => some (.skip H)
  | r => callsA ih H r
theorem callsR_eq (ih : Task → Option TRes) (H : AHeap) (r : ARes) : callsR ih H r = callsA ih H r := by cases r <;> rfl

def resK (o : Oper) (k : AFr → AHeap → Option TRes) (fr : AFr) : ARes → Option TRes
  | .val v H => k (putR fr o.dst v) H
  | .skip H => k (putR fr o.dst undefA) H
  | .panic v H => some (.code (.panic v) fr H)
  | .defer _ _ => none
  | _ => none
def deferK (o : Oper) (k : AFr → AHeap → Option TRes) (fr : AFr) (H : AHeap) : ARes → Option TRes
  | .defer f args => bif fr.rd then none else k (putR { fr with df := .call f args :: fr.df } o.dst undefA) H
  | r => resK o k fr r
def stepK (E : Env) (ih : Task → Option TRes) (o : Oper) (k : AFr → AHeap → Option TRes) (fr : AFr) (H : AHeap) : Option TRes :=
  ob (execR E H fr.t o) fun r => ob (callsR ih H r) fun r2 => deferK o k fr H r2
def opK (E : Env) (ih : Task → Option TRes) (all : Array Oper) (o : Oper) (k : AFr → AHeap → Option TRes) : AFr → AHeap → Option TRes := fun fr H =>
  ob (wantedR all fr.t o.guard) fun b => bc b (stepK E ih o k fr H) (k (putR fr o.dst undefA) H)
def opsR (E : Env) (ih : Task → Option TRes) (all : Array Oper) (l : List Oper) : AFr → AHeap → Option TRes :=
  List.rec (motive := fun _ => AFr → AHeap → Option TRes) (fun fr H => some (.code .normal fr H)) (fun o _ k => opK E ih all o k) l
theorem opsR_eq (E : Env) (ih : Task → Option TRes) (all : Array Oper) : ∀ (l : List Oper) (fr : AFr) (H : AHeap), opsR E ih all l fr H = opsA E ih all l fr H
  | [], _, _ => rfl
  | o :: l, fr, H => by
    show opK E ih all o (opsR E ih all l) fr H = _
    have hk : opsR E ih all l = opsA E ih all l := by funext fr H; exact opsR_eq E ih all l fr H
    rw [hk]
    simp only [opK, stepK, opsA, wantedR_eq, execR_eq, callsR_eq, putR_eq, bc_eq]
    cases wantedA all fr.t o with
    | none => rfl
    | some b =>
      cases b with
      | false => rfl
      | true =>
        simp only [ob_some, cond_true]
        cases execA E H fr.t o with
        | none => rfl
        | some r =>
          simp only [ob_some]
          cases callsA ih H r with
          | none => rfl
          | some r2 => cases r2 <;> simp only [ob_some, deferK, resK, putR_eq]

/-! ### Regions whose order is open -/
def dK (E : Env) (_ih : Task → Option TRes) (an : Tr Nat) (fr0 : AFr) (all : Array Oper) (rest : List Oper) (o : Oper) (k : Nat → List QRec → List ERec → AFr → AHeap → Option TRes) (i m : Nat) (qs : List QRec) (es : List ERec) (fr : AFr) (H : AHeap) : ARes → Option TRes
  | .val v H' => bc (stableQ E H' m qs) (k (i + 1) qs (⟨i, H⟩ :: es) (putR fr o.dst v) H') none
  | .skip H' => bc (stableQ E H' m qs) (k (i + 1) qs (⟨i, H⟩ :: es) (putR fr o.dst undefA) H') none
  | .panic v H' => bc (restOk an i rest (i + 1)) (some (.code (.panic v) { fr0 with t := delDsts fr0.t all.toList } H')) none
  | _ => none
def dQ (E : Env) (o : Oper) (k : Nat → List QRec → List ERec → AFr → AHeap → Option TRes) (i m : Nat) (qs : List QRec) (es : List ERec) (fr : AFr) (H : AHeap) : ARes → Option TRes
  | .val v _ => bc (stableE E ⟨i, o, fr.t, v⟩ m es) (k (i + 1) (⟨i, o, fr.t, v⟩ :: qs) es (putR fr o.dst v) H) none
  | _ => none
def dW (E : Env) (ih : Task → Option TRes) (an : Tr Nat) (fr0 : AFr) (all : Array Oper) (rest : List Oper) (o : Oper) (k : Nat → List QRec → List ERec → AFr → AHeap → Option TRes) (i : Nat) (qs : List QRec) (es : List ERec) (fr : AFr) (H : AHeap) : Option TRes :=
  ob (an.get i) fun m => ob (execR E H fr.t o) fun r => bc (quietOp E o.op) (dQ E o k i m qs es fr H r) (ob (callsR ih H r) fun r2 => dK E ih an fr0 all rest o k i m qs es fr H r2)
def dOp (E : Env) (ih : Task → Option TRes) (an : Tr Nat) (fr0 : AFr) (all : Array Oper) (rest : List Oper) (o : Oper) (k : Nat → List QRec → List ERec → AFr → AHeap → Option TRes) : Nat → List QRec → List ERec → AFr → AHeap → Option TRes := fun i qs es fr H =>
  ob (wantedR all fr.t o.guard) fun b => bc b (dW E ih an fr0 all rest o k i qs es fr H) (k (i + 1) qs es (putR fr o.dst undefA) H)
def opsDR (E : Env) (ih : Task → Option TRes) (all : Array Oper) (an : Tr Nat) (fr0 : AFr) (l : List Oper) : Nat → List QRec → List ERec → AFr → AHeap → Option TRes :=
  List.rec (motive := fun _ => Nat → List QRec → List ERec → AFr → AHeap → Option TRes) (fun _ _ _ fr H => some (.code .normal fr H)) (fun o rest k => dOp E ih an fr0 all rest o k) l
theorem opsDR_eq (E : Env) (ih : Task → Option TRes) (all : Array Oper) (an : Tr Nat) (fr0 : AFr) : ∀ (l : List Oper) (i : Nat) (qs : List QRec) (es : List ERec) (fr : AFr) (H : AHeap), opsDR E ih all an fr0 l i qs es fr H = opsD E ih all an fr0 l i qs es fr H
  | [], _, _, _, _, _ => rfl
  | o :: l, i, qs, es, fr, H => by
    show dOp E ih an fr0 all l o (opsDR E ih all an fr0 l) i qs es fr H = _
    have hk : opsDR E ih all an fr0 l = opsD E ih all an fr0 l := by funext i qs es fr H; exact opsDR_eq E ih all an fr0 l i qs es fr H
    rw [hk]
    simp only [dOp, dW, opsD, wantedR_eq, execR_eq, callsR_eq, putR_eq, bc_eq]
    cases wantedA all fr.t o with
    | none => rfl
    | some b =>
      cases b with
      | false => rfl
      | true =>
        simp only [ob_some, cond_true]
        cases an.get i with
        | none => rfl
        | some m =>
          simp only [ob_some]
          cases execA E H fr.t o with
          | none => rfl
          | some r =>
            simp only [ob_some]
            cases quietOp E o.op with
            | true => cases r <;> simp only [cond_true, dQ, bc_eq, putR_eq]
            | false =>
              simp only [cond_false]
              cases callsA ih H r with
              | none => rfl
              | some r2 => cases r2 <;> simp only [ob_some, dK, bc_eq, putR_eq]

def regDR (E : Env) (ih : Task → Option TRes) (ops : Array Oper) (fr : AFr) (H : AHeap) : Option TRes :=
  ob (ancs ops.toList 0 .nil) fun an => bc (allOk E an ops.toList && (Nat.ble fr.n 1000000 && Nat.ble ops.size 1000000)) (opsDR E ih ops an fr ops.toList 0 [] [] fr H) none
def regionR (E : Env) (ih : Task → Option TRes) (ops : Array Oper) (draw : Bool) : AFr → AHeap → Option TRes := fun fr H => bc draw (regDR E ih ops fr H) (opsR E ih ops ops.toList fr H)
theorem regionR_eq (E : Env) (ih : Task → Option TRes) (ops : Array Oper) (draw : Bool) (fr : AFr) (H : AHeap) : regionR E ih ops draw fr H = regionA E ih ops draw fr H := by
  simp only [regionR, regionA, bc_eq, opsR_eq, regDR, opsDR_eq]
  cases draw with
  | false => rfl
  | true =>
    simp only [cond_true]
    cases ancs ops.toList 0 .nil <;> rfl

/-! ### Code -/
abbrev CF := AFr → AHeap → Option TRes
def seqK (b : CF) : TRes → Option TRes
  | .code e fr H => AExit.rec (motive := fun _ => Option TRes) (b fr H) (fun id => some (.code (.exit id) fr H)) (some (.code .ret fr H)) (fun v => some (.code (.panic v) fr H)) e
  | r => some r
def cSeq (a b : CF) : CF := fun fr H => ob (a fr H) fun r => seqK b r
def condK (a b : CF) (fr : AFr) (H : AHeap) (v : AV) : Option TRes := avBoolT v (fun c => bc c (a fr H) (b fr H)) none
def cCond (E : Env) (c : Operand) (a b : CF) : CF := fun fr H => ob (opdR E fr.t c) fun v => condK a b fr H v
def blockK (id : Nat) : TRes → Option TRes
  | .code e fr H => AExit.rec (motive := fun _ => Option TRes) (some (.code .normal fr H)) (fun i => bc (Nat.beq i id) (some (.code .normal fr H)) (some (.code (.exit i) fr H))) (some (.code .ret fr H)) (fun v => some (.code (.panic v) fr H)) e
  | r => some r
def cBlock (id : Nat) (a : CF) : CF := fun fr H => ob (a fr H) fun r => blockK id r
def loopK (ih : Task → Option TRes) (c : Code) : TRes → Option TRes
  | .code e fr H => AExit.rec (motive := fun _ => Option TRes) (ih (.code (.loop c) fr H)) (fun i => some (.code (.exit i) fr H)) (some (.code .ret fr H)) (fun v => some (.code (.panic v) fr H)) e
  | r => some r
def cLoop (ih : Task → Option TRes) (c : Code) (a : CF) : CF := fun fr H => ob (a fr H) fun r => loopK ih c r
def codeR (E : Env) (ih : Task → Option TRes) (c : Code) : CF :=
  Code.rec (motive := fun _ => CF) (fun fr H => some (.code .normal fr H)) (fun _ ops draw => regionR E ih ops draw) (fun _ _ a b => cSeq a b) (fun c _ _ a b => cCond E c a b) (fun id _ a => cBlock id a) (fun c a => cLoop ih c a)
    (fun f ps as b _ _ => codeA E ih (.rangeFunc f ps as b)) (fun id fr H => some (.code (.exit id) fr H)) (fun c _ => codeA E ih (.scope c)) (fun _ fr H => some (.code .normal fr H)) (fun l => codeA E ih (.goto l)) (fun fr H => some (.code .ret fr H)) (fun w => codeA E ih (.refuse w)) c
theorem codeR_eq (E : Env) (ih : Task → Option TRes) : ∀ (c : Code) (fr : AFr) (H : AHeap), codeR E ih c fr H = codeA E ih c fr H := by
  intro c
  induction c with
  | skip => intro fr H; rfl
  | region id ops draw => intro fr H; exact regionR_eq E ih ops draw fr H
  | seq a b iha ihb =>
    intro fr H
    show cSeq (codeR E ih a) (codeR E ih b) fr H = _
    simp only [cSeq, iha, codeA]
    cases codeA E ih a fr H with
    | none => rfl
    | some r =>
      cases r with
      | code e fr1 H1 => cases e <;> simp only [ob_some, seqK, ihb]
      | call r => rfl
      | dcall r => rfl
  | cond c a b iha ihb =>
    intro fr H
    show cCond E c (codeR E ih a) (codeR E ih b) fr H = _
    simp only [cCond, opdR_eq, codeA]
    cases opd E fr.t c with
    | none => rfl
    | some v =>
      cases v <;> try rfl
      rename_i b'
      show bc b' (codeR E ih a fr H) (codeR E ih b fr H) = _
      rw [iha, ihb]
      cases b' <;> rfl
  | block id a iha =>
    intro fr H
    show cBlock id (codeR E ih a) fr H = _
    simp only [cBlock, iha, codeA]
    cases codeA E ih a fr H with
    | none => rfl
    | some r =>
      cases r with
      | code e fr1 H1 => cases e <;> simp only [ob_some, blockK, bc_eq]
      | call r => rfl
      | dcall r => rfl
  | loop a iha =>
    intro fr H
    show cLoop ih a (codeR E ih a) fr H = _
    simp only [cLoop, iha, codeA]
    cases codeA E ih a fr H with
    | none => rfl
    | some r =>
      cases r with
      | code e fr1 H1 => cases e <;> simp only [ob_some, loopK]
      | call r => rfl
      | dcall r => rfl
  | rangeFunc f ps as b _ _ => intro fr H; rfl
  | exit id => intro fr H; rfl
  | scope c _ => intro fr H; rfl
  | label l => intro fr H; rfl
  | goto l => intro fr H; rfl
  | ret => intro fr H; rfl
  | refuse w => intro fr H; rfl

def leaveR (E : Env) (ih : Task → Option TRes) (rs : List ResultVar) (fr : AFr) (p : Option AV) (H : AHeap) : Option TRes := leaveA E ih rs fr.t fr.df p H
def callEnd (E : Env) (ih : Task → Option TRes) (rs : List ResultVar) : TRes → Option TRes
  | .code e fr H => AExit.rec (motive := fun _ => Option TRes) (leaveR E ih rs fr none H) (fun _ => none) (leaveR E ih rs fr none H) (fun v => leaveR E ih rs fr (some v) H) e
  | _ => none
def callR (E : Env) (ih : Task → Option TRes) (fn : AFunc) (args : List AV) (H : AHeap) : Option TRes := ob (codeR E ih fn.body (newFr fn args) H) fun r => callEnd E ih fn.results r
def smK (E : Env) (f : FuncId) (args : List AV) (H : AHeap) : Option TRes := ob (E.sm f args H) fun r => some (.call (.ret r.1 r.2))
def callT (E : Env) (ih : Task → Option TRes) (f : FuncId) (args : List AV) (H : AHeap) : Option TRes := Option.rec (motive := fun _ => Option TRes) (smK E f args H) (fun fn => callR E ih fn args H) (E.fn f)
def stepR (E : Env) (ih : Task → Option TRes) : Task → Option TRes
  | .code c fr H => codeR E ih c fr H
  | .call f args H => callT E ih f args H
  | t => stepA E ih t
theorem stepR_eq (E : Env) (ih : Task → Option TRes) (t : Task) : stepR E ih t = stepA E ih t := by
  cases t <;> try rfl
  case code c fr H => exact codeR_eq E ih c fr H
  case call f args H =>
    simp only [stepR, callT, stepA]
    cases E.fn f with
    | none =>
      show smK E f args H = _
      unfold smK
      cases E.sm f args H <;> rfl
    | some fn =>
      show callR E ih fn args H = _
      simp only [callR, codeR_eq]
      cases codeA E ih fn.body (newFr fn args) H with
      | none => rfl
      | some r =>
        cases r with
        | code e fr H => cases e <;> rfl
        | call r => rfl
        | dcall r => rfl

def runR (E : Env) (n : Nat) : Task → Option TRes := Nat.rec (motive := fun _ => Task → Option TRes) (fun _ => none) (fun _ ih t => stepR E ih t) n
theorem runR_eq (E : Env) : ∀ n, runR E n = run E n
  | 0 => rfl
  | n + 1 => by
    funext t
    show stepR E (runR E n) t = stepA E (run E n) t
    rw [runR_eq E n, stepR_eq]
end
end Go.Vai
