/- The interpreter once more, word for word the same by what it answers, but laid so that the kernel carries it with few steps.
Triples over the interpreter's states, up to the names of objects: what a piece of code does from a state, loops by a relation and a measure.
The interpreter in the form of a tree: it carries on with values that are not known, and answers by tests on them (a test's false side is none where nothing is said). What it answers, the interpreter answers. -/
import Derived.Test.YthlcgkebfodnmaaGreatDoorVaiE
section
namespace Go.Vai
noncomputable section
def ob {α β : Type} (x : Option α) (f : α → Option β) : Option β := Option.rec (motive := fun _ => Option β) none f x
theorem ob_some {α β : Type} (v : α) (f : α → Option β) : ob (some v) f = f v := rfl
def bc {α : Type} (b : Bool) (x y : α) : α := Bool.rec (motive := fun _ => α) y x b
theorem bc_eq {α : Type} (b : Bool) (x y : α) : bc b x y = bif b then x else y := by cases b <;> rfl
def avIntA (v : AV) : (IntKind → Int → Option AV) → Option AV → Option AV :=
  AV.rec (motive_1 := fun _ => (IntKind → Int → Option AV) → Option AV → Option AV) (motive_2 := fun _ => Unit) (fun _ _ d => d) (fun x0 x1 f _ => f x0 x1) (fun _ _ d => d) (fun _ d => d) (fun _ _ _ d => d) (fun _ d => d) (fun _ _ _ _ _ d => d) (fun _ d => d) (fun _ d => d) (fun _ _ _ _ _ _ d => d) (fun _ _ d => d) (fun _ d => d) (fun _ _ _ _ d => d) (fun _ _ _ d => d) (fun _ _ _ d => d) (fun _ d => d) (fun _ _ d => d) (fun _ _ d => d) (fun _ _ _ _ _ _ _ d => d) () (fun _ _ _ _ => ()) v
def avStrA (v : AV) : (List UInt8 → Option AV) → Option AV → Option AV :=
  AV.rec (motive_1 := fun _ => (List UInt8 → Option AV) → Option AV → Option AV) (motive_2 := fun _ => Unit) (fun _ _ d => d) (fun _ _ _ d => d) (fun x0 f _ => f x0) (fun _ d => d) (fun _ _ _ d => d) (fun _ d => d) (fun _ _ _ _ _ d => d) (fun _ d => d) (fun _ d => d) (fun _ _ _ _ _ _ d => d) (fun _ _ d => d) (fun _ d => d) (fun _ _ _ _ d => d) (fun _ _ _ d => d) (fun _ _ _ d => d) (fun _ d => d) (fun _ _ d => d) (fun _ _ d => d) (fun _ _ _ _ _ _ _ d => d) () (fun _ _ _ _ => ()) v
def avPtrA (v : AV) : (Nat → Nat → Option AV) → Option AV → Option AV :=
  AV.rec (motive_1 := fun _ => (Nat → Nat → Option AV) → Option AV → Option AV) (motive_2 := fun _ => Unit) (fun _ _ d => d) (fun _ _ _ d => d) (fun _ _ d => d) (fun _ d => d) (fun x0 x1 f _ => f x0 x1) (fun _ d => d) (fun _ _ _ _ _ d => d) (fun _ d => d) (fun _ d => d) (fun _ _ _ _ _ _ d => d) (fun _ _ d => d) (fun _ d => d) (fun _ _ _ _ d => d) (fun _ _ _ d => d) (fun _ _ _ d => d) (fun _ d => d) (fun _ _ d => d) (fun _ _ d => d) (fun _ _ _ _ _ _ _ d => d) () (fun _ _ _ _ => ()) v
def avSlA (v : AV) : (Nat → Nat → Nat → Option Nat → Option AV) → Option AV → Option AV :=
  AV.rec (motive_1 := fun _ => (Nat → Nat → Nat → Option Nat → Option AV) → Option AV → Option AV) (motive_2 := fun _ => Unit) (fun _ _ d => d) (fun _ _ _ d => d) (fun _ _ d => d) (fun _ d => d) (fun _ _ _ d => d) (fun _ d => d) (fun x0 x1 x2 x3 f _ => f x0 x1 x2 x3) (fun _ d => d) (fun _ d => d) (fun _ _ _ _ _ _ d => d) (fun _ _ d => d) (fun _ d => d) (fun _ _ _ _ d => d) (fun _ _ _ d => d) (fun _ _ _ d => d) (fun _ d => d) (fun _ _ d => d) (fun _ _ d => d) (fun _ _ _ _ _ _ _ d => d) () (fun _ _ _ _ => ()) v
def avPtrH (v : AV) : (Nat → Nat → Option AHeap) → Option AHeap → Option AHeap :=
  AV.rec (motive_1 := fun _ => (Nat → Nat → Option AHeap) → Option AHeap → Option AHeap) (motive_2 := fun _ => Unit) (fun _ _ d => d) (fun _ _ _ d => d) (fun _ _ d => d) (fun _ d => d) (fun x0 x1 f _ => f x0 x1) (fun _ d => d) (fun _ _ _ _ _ d => d) (fun _ d => d) (fun _ d => d) (fun _ _ _ _ _ _ d => d) (fun _ _ d => d) (fun _ d => d) (fun _ _ _ _ d => d) (fun _ _ _ d => d) (fun _ _ _ d => d) (fun _ d => d) (fun _ _ d => d) (fun _ _ d => d) (fun _ _ _ _ _ _ _ d => d) () (fun _ _ _ _ => ()) v
def avBoolR (v : AV) : (Bool → Option ARes) → Option ARes → Option ARes :=
  AV.rec (motive_1 := fun _ => (Bool → Option ARes) → Option ARes → Option ARes) (motive_2 := fun _ => Unit) (fun x0 f _ => f x0) (fun _ _ _ d => d) (fun _ _ d => d) (fun _ d => d) (fun _ _ _ d => d) (fun _ d => d) (fun _ _ _ _ _ d => d) (fun _ d => d) (fun _ d => d) (fun _ _ _ _ _ _ d => d) (fun _ _ d => d) (fun _ d => d) (fun _ _ _ _ d => d) (fun _ _ _ d => d) (fun _ _ _ d => d) (fun _ d => d) (fun _ _ d => d) (fun _ _ d => d) (fun _ _ _ _ _ _ _ d => d) () (fun _ _ _ _ => ()) v
def avTupR (v : AV) : (List AV → Option ARes) → Option ARes → Option ARes :=
  AV.rec (motive_1 := fun _ => (List AV → Option ARes) → Option ARes → Option ARes) (motive_2 := fun _ => Unit) (fun _ _ d => d) (fun _ _ _ d => d) (fun _ _ d => d) (fun _ d => d) (fun _ _ _ d => d) (fun _ d => d) (fun _ _ _ _ _ d => d) (fun _ d => d) (fun _ d => d) (fun _ _ _ _ _ _ d => d) (fun _ _ d => d) (fun _ d => d) (fun _ _ _ _ d => d) (fun _ _ _ d => d) (fun x0 _ f _ => f x0) (fun _ d => d) (fun _ _ d => d) (fun _ _ d => d) (fun _ _ _ _ _ _ _ d => d) () (fun _ _ _ _ => ()) v
def avBoolT (v : AV) : (Bool → Option TRes) → Option TRes → Option TRes :=
  AV.rec (motive_1 := fun _ => (Bool → Option TRes) → Option TRes → Option TRes) (motive_2 := fun _ => Unit) (fun x0 f _ => f x0) (fun _ _ _ d => d) (fun _ _ d => d) (fun _ d => d) (fun _ _ _ d => d) (fun _ d => d) (fun _ _ _ _ _ d => d) (fun _ d => d) (fun _ d => d) (fun _ _ _ _ _ _ d => d) (fun _ _ d => d) (fun _ d => d) (fun _ _ _ _ d => d) (fun _ _ _ d => d) (fun _ _ _ d => d) (fun _ d => d) (fun _ _ d => d) (fun _ _ d => d) (fun _ _ _ _ _ _ _ d => d) () (fun _ _ _ _ => ()) v
def avBoolB (v : AV) : (Bool → Option Bool) → Option Bool → Option Bool :=
  AV.rec (motive_1 := fun _ => (Bool → Option Bool) → Option Bool → Option Bool) (motive_2 := fun _ => Unit) (fun x0 f _ => f x0) (fun _ _ _ d => d) (fun _ _ d => d) (fun _ d => d) (fun _ _ _ d => d) (fun _ d => d) (fun _ _ _ _ _ d => d) (fun _ d => d) (fun _ d => d) (fun _ _ _ _ _ _ d => d) (fun _ _ d => d) (fun _ d => d) (fun _ _ _ _ d => d) (fun _ _ _ d => d) (fun _ _ _ d => d) (fun _ d => d) (fun _ _ d => d) (fun _ _ d => d) (fun _ _ _ _ _ _ _ d => d) () (fun _ _ _ _ => ()) v
def avTupB (v : AV) : (List AV → Option Bool) → Option Bool → Option Bool :=
  AV.rec (motive_1 := fun _ => (List AV → Option Bool) → Option Bool → Option Bool) (motive_2 := fun _ => Unit) (fun _ _ d => d) (fun _ _ _ d => d) (fun _ _ d => d) (fun _ d => d) (fun _ _ _ d => d) (fun _ d => d) (fun _ _ _ _ _ d => d) (fun _ d => d) (fun _ d => d) (fun _ _ _ _ _ _ d => d) (fun _ _ d => d) (fun _ d => d) (fun _ _ _ _ d => d) (fun _ _ _ d => d) (fun x0 _ f _ => f x0) (fun _ d => d) (fun _ _ d => d) (fun _ _ d => d) (fun _ _ _ _ _ _ _ d => d) () (fun _ _ _ _ => ()) v
def avFnR (v : AV) : (FuncId → List AV → List AV → Option ARes) → Option ARes → Option ARes :=
  AV.rec (motive_1 := fun _ => (FuncId → List AV → List AV → Option ARes) → Option ARes → Option ARes) (motive_2 := fun _ => Unit) (fun _ _ d => d) (fun _ _ _ d => d) (fun _ _ d => d) (fun _ d => d) (fun _ _ _ d => d) (fun _ d => d) (fun _ _ _ _ _ d => d) (fun _ d => d) (fun _ d => d) (fun x0 x1 x2 _ _ f _ => f x0 x1 x2) (fun _ _ d => d) (fun _ d => d) (fun _ _ _ _ d => d) (fun _ _ _ d => d) (fun _ _ _ d => d) (fun _ d => d) (fun _ _ d => d) (fun _ _ d => d) (fun _ _ _ _ _ _ _ d => d) () (fun _ _ _ _ => ()) v
def avYldR (v : AV) : (Nat → Option ARes) → Option ARes → Option ARes :=
  AV.rec (motive_1 := fun _ => (Nat → Option ARes) → Option ARes → Option ARes) (motive_2 := fun _ => Unit) (fun _ _ d => d) (fun _ _ _ d => d) (fun _ _ d => d) (fun _ d => d) (fun _ _ _ d => d) (fun _ d => d) (fun _ _ _ _ _ d => d) (fun _ d => d) (fun _ d => d) (fun _ _ _ _ _ _ d => d) (fun x0 f _ => f x0) (fun _ d => d) (fun _ _ _ _ d => d) (fun _ _ _ d => d) (fun _ _ _ d => d) (fun _ d => d) (fun _ _ d => d) (fun _ _ d => d) (fun _ _ _ _ _ _ _ d => d) () (fun _ _ _ _ => ()) v
def adSliceA (v : AD) : (Nat → Option AV) → Option AV → Option AV :=
  AD.rec (motive := fun _ => (Nat → Option AV) → Option AV → Option AV) (fun _ _ d => d) (fun _ d => d) (fun _ d => d) (fun _ _ d => d) (fun x0 f _ => f x0) (fun _ _ _ d => d) (fun _ _ _ d => d) (fun _ d => d) (fun _ d => d) (fun _ d => d) (fun _ d => d) (fun _ _ _ d => d) v
def adArrA (v : AD) : (Nat → Nat → Option AV) → Option AV → Option AV :=
  AD.rec (motive := fun _ => (Nat → Nat → Option AV) → Option AV → Option AV) (fun _ _ d => d) (fun _ d => d) (fun _ d => d) (fun _ _ d => d) (fun _ _ d => d) (fun x0 x1 f _ => f x0 x1) (fun _ _ _ d => d) (fun _ d => d) (fun _ d => d) (fun _ d => d) (fun _ d => d) (fun _ _ _ d => d) v
def adStructA (v : AD) : (List (Nat × Nat) → Bool → Option AV) → Option AV → Option AV :=
  AD.rec (motive := fun _ => (List (Nat × Nat) → Bool → Option AV) → Option AV → Option AV) (fun _ _ d => d) (fun _ d => d) (fun _ d => d) (fun _ _ d => d) (fun _ _ d => d) (fun _ _ _ d => d) (fun x0 x1 f _ => f x0 x1) (fun _ d => d) (fun _ d => d) (fun _ d => d) (fun _ d => d) (fun _ _ _ d => d) v
def adStrA (v : AD) : Option AV → Option AV → Option AV :=
  AD.rec (motive := fun _ => Option AV → Option AV → Option AV) (fun _ _ d => d) (fun _ d => d) (fun f _ => f) (fun _ _ d => d) (fun _ _ d => d) (fun _ _ _ d => d) (fun _ _ _ d => d) (fun _ d => d) (fun _ d => d) (fun _ d => d) (fun _ d => d) (fun _ _ _ d => d) v
def topK : IntKind → Nat
  | .i8 => 128 | .i16 => 32768 | .i32 => 2147483648 | .i64 => 9223372036854775808 | .u8 => 256 | .u16 => 65536 | .u32 => 4294967296 | .u64 => 18446744073709551616
def botK : IntKind → Nat
  | .i8 => 128 | .i16 => 32768 | .i32 => 2147483648 | .i64 => 9223372036854775808 | .u8 => 0 | .u16 => 0 | .u32 => 0 | .u64 => 0
def inR (k : IntKind) (n : Int) : Bool := Int.rec (motive := fun _ => Bool) (fun m => Nat.blt m (topK k)) (fun m => Nat.blt m (botK k)) n
def wrapR (k : IntKind) (n : Int) : Int := bc (inR k n) n (k.wrap n)
theorem wrapR_eq (k : IntKind) (n : Int) : wrapR k n = k.wrap n := by
  unfold wrapR
  cases h : inR k n with
  | false => rfl
  | true =>
    show n = _
    have b : -(botK k : Int) ≤ n ∧ n < topK k := by
      cases n with
      | ofNat m =>
        have h' : Nat.blt m (topK k) = true := h
        rw [Nat.blt_eq] at h'
        constructor
        · have : (0 : Int) ≤ Int.ofNat m := Int.natCast_nonneg m
          omega
        · exact Int.ofNat_lt.2 h'
      | negSucc m =>
        have h' : Nat.blt m (botK k) = true := h
        rw [Nat.blt_eq] at h'
        have : Int.negSucc m = -((m : Int) + 1) := Int.negSucc_eq m
        constructor <;> omega
    symm
    cases k <;> simp only [topK, botK] at b
    · exact IntWalk.i8_in n (by omega)
    · exact IntWalk.i16_in n (by omega)
    · exact IntWalk.i32_in n (by omega)
    · exact IntWalk.i64_in n (by omega)
    · exact IntWalk.u8_in n (by omega)
    · exact IntWalk.u16_in n (by omega)
    · exact IntWalk.u32_in n (by omega)
    · exact IntWalk.u64_in n (by omega)
def intOp (op : BinOp) : IntKind → Int → Int → Option AV :=
  BinOp.rec (motive := fun _ => IntKind → Int → Int → Option AV) (fun k x y => some (.int k (wrapR k (Int.add x y))))
    (fun k x y => some (.int k (wrapR k (Int.sub x y))))
    (fun k x y => some (.int k (wrapR k (Int.mul x y))))
    (fun k x y => intBin .quo k x y)
    (fun k x y => intBin .rem k x y)
    (fun k x y => intBin .and k x y)
    (fun k x y => intBin .or k x y)
    (fun k x y => intBin .xor k x y)
    (fun k x y => intBin .shl k x y)
    (fun k x y => intBin .shr k x y)
    (fun k x y => intBin .andNot k x y)
    (fun _ x y => some (.bool (ieq x y)))
    (fun _ x y => some (.bool (!(ieq x y))))
    (fun _ x y => some (.bool (ilt x y)))
    (fun _ x y => some (.bool (!(ilt y x))))
    (fun _ x y => some (.bool (ilt y x)))
    (fun _ x y => some (.bool (!(ilt x y)))) op
theorem intOp_eq (op : BinOp) (k : IntKind) (x y : Int) : intOp op k x y = intBin op k x y := by
  cases op <;> (try rfl) <;> (show some (AV.int k (wrapR k _)) = _) <;> rw [wrapR_eq] <;> rfl
def isShift : BinOp → Bool
  | .shl => true
  | .shr => true
  | _ => false
def isNili : AV → Bool
  | .nili => true
  | _ => false
def binIK (E : Env) (op : BinOp) (xt : TypeId) (a b : AV) (k : IntKind) (i : Int) : Option AV :=
  avIntA b (fun k' j => bc (isShift op) (binA E op xt (.int k i) (.int k' j)) (bc (sameKind k k') (intOp op k i j) none)) (binA E op xt a b)
def binR (E : Env) (op : BinOp) (xt : TypeId) (a b : AV) : Option AV := avIntA a (fun k i => binIK E op xt a b k i) (binA E op xt a b)
theorem binR_eq (E : Env) (op : BinOp) (xt : TypeId) (a b : AV) : binR E op xt a b = binA E op xt a b := by
  cases a <;> try rfl
  cases b <;> try rfl
  rename_i k i k' j
  show bc (isShift op) (binA E op xt (.int k i) (.int k' j)) (bc (sameKind k k') (intOp op k i j) none) = _
  rw [intOp_eq]
  cases op <;> simp only [isShift, bc_eq, cond_true, cond_false, binA]
def opdR (E : Env) (fr : Tr AV) (x : Operand) : Option AV :=
  Operand.rec (motive := fun _ => Env → Tr AV → Option AV) (fun t _ fr => fr.get t) (fun v _ _ => constA v) (fun g E _ => bif Nat.blt g E.ng then some (.ptr g 0) else none) (fun f _ _ => some (.fn f [] [])) x E fr
theorem opdR_eq (E : Env) (fr : Tr AV) (x : Operand) : opdR E fr x = opd E fr x := by cases x <;> rfl
def opdsR (E : Env) (fr : Tr AV) (l : List Operand) : Option (List AV) :=
  List.rec (motive := fun _ => Option (List AV)) (some []) (fun x _ ih => ob (opdR E fr x) fun v => ob ih fun vs => some (v :: vs)) l
theorem opdsR_eq (E : Env) (fr : Tr AV) : ∀ l : List Operand, opdsR E fr l = opds E fr l
  | [] => rfl
  | x :: xs => by
    show ob (opdR E fr x) (fun v => ob (opdsR E fr xs) fun vs => some (v :: vs)) = _
    rw [opdR_eq, opdsR_eq]
    simp only [opds]
    cases opd E fr x with
    | none => rfl
    | some v => cases opds E fr xs <;> rfl
def loadC (off : Nat) (ti : ATy) (c : Tr AV) : Option AV := bc ti.agg (ob (c.getAll off ti.size) fun l => some (.agg l)) (c.get off)
def loadK (o : AObj) : Nat → ATy → Option AV :=
  AObj.rec (motive := fun _ => Nat → ATy → Option AV) (fun _ c _ _ _ _ _ off ti => loadC off ti c) (fun _ _ _ _ _ _ _ _ _ _ => none) (fun _ _ _ _ => none) (fun _ _ => none) (fun _ _ _ _ _ => none) (fun _ _ _ _ _ _ => none) o
def loadR (E : Env) (H : AHeap) (t : TypeId) (p : AV) : Option AV := avPtrA p (fun id off => ob (E.ty t) fun ti => ob (H.get id) fun o => loadK o off ti) none
theorem loadR_eq (E : Env) (H : AHeap) (t : TypeId) (p : AV) : loadR E H t p = loadVarA E H t p := by
  cases p <;> try rfl
  rename_i id off
  show (ob (E.ty t) fun ti => ob (H.get id) fun o => loadK o off ti) = _
  simp only [loadVarA]
  cases E.ty t with
  | none => rfl
  | some ti =>
    cases H.get id with
    | none => rfl
    | some o =>
      cases o <;> try rfl
      rename_i n c e g fz ro mk
      show loadC off ti c = _
      simp only [loadC, bc_eq]
      cases ti.agg
      · rfl
      · simp only [cond_true]
        cases c.getAll off ti.size <;> rfl
def storeK (H : AHeap) (ti : ATy) (id off : Nat) (vs : List AV) : AObj → Option AHeap
  | .cells n c e g fz ro mk => bc (Nat.beq vs.length ti.size && (vs.all AV.one && (Nat.ble (off + ti.size) n && (Nat.ble fz off && !ro)))) (some (H.put id (.cells n (c.putAll off vs) e g fz ro mk))) none
  | _ => none
def storeR (E : Env) (H : AHeap) (t : TypeId) (v p : AV) : Option AHeap := avPtrH p (fun id off => ob (E.ty t) fun ti => ob (H.get id) fun o => storeK H ti id off v.cells o) none
theorem storeR_eq (E : Env) (H : AHeap) (t : TypeId) (p v : AV) : storeR E H t v p = storeVarA E H t p v := by
  cases p <;> try rfl
  rename_i id off
  show (ob (E.ty t) fun ti => ob (H.get id) fun o => storeK H ti id off v.cells o) = _
  simp only [storeVarA]
  cases E.ty t with
  | none => rfl
  | some ti =>
    cases H.get id with
    | none => rfl
    | some o =>
      cases o <;> try rfl
      simp only [ob_some, storeK, bc_eq]
abbrev XF := Env → AHeap → Tr AV → Option ARes
def rv (H : AHeap) (v : AV) : Option ARes := some (.val v H)
theorem ob_vh (H : AHeap) (x : Option AV) : (ob x fun v => rv H v) = vh H x := by cases x <;> rfl
def xMove (x : Operand) : XF := fun E H fr => ob (opdR E fr x) fun v => rv H v
def pickK (E : Env) (H : AHeap) (fr : Tr AV) (a b : Operand) (v : AV) : Option ARes := avBoolR v (fun c => bc c (ob (opdR E fr a) fun v => rv H v) (ob (opdR E fr b) fun v => rv H v)) none
def xPick (c a b : Operand) : XF := fun E H fr => ob (opdR E fr c) fun v => pickK E H fr a b v
def xLoad (t : TypeId) (a : Operand) : XF := fun E H fr => ob (opdR E fr a) fun p => ob (loadR E H t p) fun v => rv H v
def xStore (t : TypeId) (a x : Operand) : XF := fun E H fr => ob (opdR E fr a) fun p => ob (opdR E fr x) fun v => ob (storeR E H t v p) fun H' => some (.skip H')
def binK (E : Env) (H : AHeap) (op : BinOp) (t : TypeId) (x y : Operand) (a b : AV) : Option ARes :=
  bc (isNili a && isNili b) (bc (isConst x || isConst y) (vh H (binA E op t a b)) none) (ob (binR E op t a b) fun v => rv H v)
def xBin (op : BinOp) (t : TypeId) (x y : Operand) : XF := fun E H fr => ob (opdR E fr x) fun a => ob (opdR E fr y) fun b => binK E H op t x y a b
def xUn (op : UnOp) (x : Operand) : XF := fun E H fr => ob (opdR E fr x) fun a => ob (unA op a) fun v => rv H v
def fieldAddrR (E : Env) (t : TypeId) (x : AV) (f : Nat) : Option AV := ob (E.ty t) fun ti => avPtrA x (fun id off => adStructA ti.d (fun fs _ => ob (nthF fs f) fun p => ob (E.ty p.2) fun fi => bc (Nat.beq fi.size 0) none (some (.ptr id (Nat.add off p.1)))) none) none
theorem fieldAddrR_eq (E : Env) (t : TypeId) (x : AV) (f : Nat) : fieldAddrR E t x f = fieldAddrA E t x f := by
  unfold fieldAddrR fieldAddrA
  cases E.ty t with
  | none => rfl
  | some ti =>
    simp only [ob_some]
    cases x <;> (try (cases ti.d <;> rfl; done))
    rename_i id off
    obtain ⟨d, a1, a2, a3, a4, a5⟩ := ti
    cases d <;> try rfl
    rename_i fs q
    show (ob (nthF fs f) fun p => ob (E.ty p.2) fun fi => bc (Nat.beq fi.size 0) none (some (AV.ptr id (Nat.add off p.1)))) = _
    dsimp only
    cases nthF fs f with
    | none => rfl
    | some p =>
      obtain ⟨o, ft⟩ := p
      simp only [ob_some]
      cases E.ty ft with
      | none => rfl
      | some fi => simp only [ob_some, bc_eq]; rfl
def xFieldAddr (t : TypeId) (x : Operand) (f : Nat) : XF := fun E H fr => ob (opdR E fr x) fun a => ob (fieldAddrR E t a f) fun v => rv H v
def xField (t : TypeId) (x : Operand) (f : Nat) : XF := fun E H fr => ob (opdR E fr x) fun a => ob (fieldA E t a f) fun v => rv H v
def idxA (E : Env) (e id off len n : Nat) : Option AV := ob (E.ty e) fun ei => bc (Nat.blt n len) (some (.ptr id (off + n * ei.size))) none
def indexAddrR (E : Env) (t : TypeId) (x i : AV) : Option AV := ob (E.ty t) fun ti => avIntA i (fun _ n => bc (ilt n 0) none (adSliceA ti.d (fun e => avSlA x (fun id off len _ => idxA E e id off len n.toNat) none) (adArrA ti.d (fun k e => avPtrA x (fun id off => idxA E e id off k n.toNat) none) none))) none
theorem indexAddrR_eq (E : Env) (t : TypeId) (x i : AV) : indexAddrR E t x i = indexAddrA E t x i := by
  unfold indexAddrR indexAddrA
  cases E.ty t with
  | none => rfl
  | some ti =>
    simp only [ob_some]
    cases i <;> try rfl
    rename_i k n
    show bc (ilt n 0) none _ = _
    rw [bc_eq]
    simp only
    cases ilt n 0 with
    | true => rfl
    | false =>
      simp only [cond_false]
      obtain ⟨d, a1, a2, a3, a4, a5⟩ := ti
      cases d <;> (try (cases x <;> rfl; done))
      case slice e =>
        cases x <;> try rfl
        rename_i id off len cap
        show idxA E e id off len n.toNat = _
        unfold idxA
        simp only
        cases E.ty e with
        | none => rfl
        | some ei => simp only [ob_some, bc_eq]
      case array q e =>
        cases x <;> try rfl
        rename_i id off
        show idxA E e id off q n.toNat = _
        unfold idxA
        simp only
        cases E.ty e with
        | none => rfl
        | some ei => simp only [ob_some, bc_eq]
def xIndexAddr (t : TypeId) (x i : Operand) : XF := fun E H fr => ob (opdR E fr x) fun a => ob (opdR E fr i) fun b => ob (indexAddrR E t a b) fun v => rv H v
def nthR (s : List UInt8) : Nat → Option UInt8 := List.rec (motive := fun _ => Nat → Option UInt8) (fun _ => none) (fun a _ ih i => Nat.rec (motive := fun _ => Option UInt8) (some a) (fun j _ => ih j) i) s
theorem nthR_eq : ∀ (s : List UInt8) (i : Nat), nthR s i = nth s i
  | [], _ => rfl
  | _ :: _, 0 => rfl
  | _ :: s, i + 1 => nthR_eq s i
def indexR (E : Env) (t : TypeId) (x i : AV) : Option AV := avStrA x (fun s => ob (E.ty t) fun ti => adStrA ti.d (avIntA i (fun _ n => bc (ilt n 0) none (ob (nthR s n.toNat) fun b => some (byteAV b))) none) (indexA E t x i)) (indexA E t x i)
theorem indexR_eq (E : Env) (t : TypeId) (x i : AV) : indexR E t x i = indexA E t x i := by
  unfold indexR
  cases x <;> try rfl
  rename_i s
  show (ob (E.ty t) fun ti => adStrA ti.d _ (indexA E t (.str s) i)) = _
  cases ht : E.ty t with
  | none => simp [ob, indexA, ht]
  | some ti =>
    simp only [ob_some]
    cases hd : ti.d <;> try rfl
    show avIntA i (fun _ n => bc (ilt n 0) none (ob (nthR s n.toNat) fun b => some (byteAV b))) none = _
    unfold indexA
    rw [ht]
    cases i <;> try rfl
    rename_i k n
    show bc (ilt n 0) none _ = _
    rw [bc_eq, nthR_eq]
    simp only [hd]
    cases ilt n 0 with
    | true => rfl
    | false =>
      simp only [cond_false]
      cases nth s n.toNat <;> rfl
def xIndex (t : TypeId) (x i : Operand) : XF := fun E H fr => ob (opdR E fr x) fun a => ob (opdR E fr i) fun b => ob (indexR E t a b) fun v => rv H v
def extK (H : AHeap) (i : Nat) (v : AV) : Option ARes := avTupR v (fun vs => ob (vs.drop i).head? fun v => rv H v) none
def xExtract (x : Operand) (i : Nat) : XF := fun E H fr => ob (opdR E fr x) fun a => extK H i a
def callK (E : Env) (fr : Tr AV) (args : List Operand) (v : AV) : Option ARes :=
  avFnR v (fun g first cap => ob (opdsR E fr args) fun l => some (.call g (first ++ (l ++ cap)))) (avYldR v (fun id => ob (opdsR E fr args) fun l => some (.ycall id l)) none)
def xCall (c : Call) : XF := match c.callee with
  | .builtin b => fun E H fr => ob (opdsR E fr c.args.toList) fun l => builtinA E H b c.argTypes.toList l
  | .value f => fun E _ fr => ob (opdR E fr f) fun v => callK E fr c.args.toList v
  | .invoke _ _ => fun _ _ _ => none
def optR (E : Env) (fr : Tr AV) : Option Operand → Option (Option AV)
  | none => some none
  | some x => ob (opdR E fr x) fun v => some (some v)
def xSlice (t : TypeId) (x : Operand) (lo hi mx : Option Operand) : XF := fun E H fr => ob (opdR E fr x) fun a => ob (optR E fr lo) fun l => ob (optR E fr hi) fun h => ob (optR E fr mx) fun m => ob (sliceA E H t a l h m) fun v => rv H v
def boxK (H : AHeap) (e : TypeId) (cs : List AV) : Option ARes := bc (cs.all AV.one) (some (.val (.ptr H.next 0) (newRowA H e cs))) none
def xBox (e : TypeId) (x : Operand) : XF := fun E H fr => ob (opdR E fr x) fun v => boxK H e v.cells
def xAlloc (e : TypeId) : XF := fun E H _ => ob (E.ty e) fun ti => some (.val (.ptr H.next 0) (newRowA H e ti.zero))
def xElse (o : Oper) : XF := fun E H fr => execA E H fr o
def xOp (o : Oper) : XF :=
  Op.rec (motive := fun _ => Oper → XF) (fun x _ => xMove x)
    (fun x _ => xMove x)
    (fun c a b _ => xPick c a b)
    (fun e _ => xAlloc e)
    (fun e x _ => xBox e x)
    (fun _ _ o => xElse o)
    (fun _ _ _ o => xElse o)
    (fun _ _ _ _ o => xElse o)
    (fun t a _ => xLoad t a)
    (fun t a x _ => xStore t a x)
    (fun _ o => xElse o)
    (fun _ o => xElse o)
    (fun _ o => xElse o)
    (fun op t x y _ _ => xBin op t x y)
    (fun op _ x _ => xUn op x)
    (fun _ _ _ o => xElse o)
    (fun _ _ o => xElse o)
    (fun _ _ o => xElse o)
    (fun _ _ _ o => xElse o)
    (fun _ _ o => xElse o)
    (fun _ _ o => xElse o)
    (fun _ _ _ o => xElse o)
    (fun t x lo hi mx _ => xSlice t x lo hi mx)
    (fun t x f _ => xFieldAddr t x f)
    (fun t x f _ => xField t x f)
    (fun t x i _ => xIndexAddr t x i)
    (fun t x i _ => xIndex t x i)
    (fun _ _ _ _ o => xElse o)
    (fun _ _ _ _ o => xElse o)
    (fun _ _ _ o => xElse o)
    (fun _ _ _ _ o => xElse o)
    (fun _ _ o => xElse o)
    (fun _ _ o => xElse o)
    (fun _ o => xElse o)
    (fun _ _ _ _ o => xElse o)
    (fun x i _ => xExtract x i)
    (fun c _ => xCall c)
    (fun _ o => xElse o)
    (fun _ o => xElse o)
    (fun _ o => xElse o)
    (fun _ _ o => xElse o)
    (fun _ _ _ o => xElse o)
    (fun _ _ o => xElse o) o.op o
def execR (E : Env) (H : AHeap) (fr : Tr AV) (o : Oper) : Option ARes := xOp o E H fr
theorem isNili_iff (a : AV) : isNili a = true ↔ a = .nili := by cases a <;> simp [isNili]
theorem execR_eq (E : Env) (H : AHeap) (fr : Tr AV) (o : Oper) : execR E H fr o = execA E H fr o := by
  unfold execR xOp
  cases hop : o.op <;> (try rfl) <;> unfold execA <;> rw [hop] <;> dsimp only
  case move x => simp only [xMove, ob_vh, opdR_eq]
  case assign x => simp only [xMove, ob_vh, opdR_eq]
  case pick c a b =>
    simp only [xPick, opdR_eq]
    cases opd E fr c with
    | none => rfl
    | some v =>
      cases v <;> try rfl
      rename_i b'
      show bc b' (ob (opdR E fr a) fun v => rv H v) (ob (opdR E fr b) fun v => rv H v) = _
      simp only [ob_vh, opdR_eq]
      cases b' <;> rfl
  case load t a =>
    simp only [xLoad, opdR_eq, loadR_eq, ob_vh]
    cases opd E fr a <;> rfl
  case store t a x =>
    simp only [xStore, opdR_eq, storeR_eq]
    cases opd E fr a with
    | none => rfl
    | some p =>
      cases opd E fr x with
      | none => rfl
      | some v =>
        simp only [ob_some]
        cases storeVarA E H t p v <;> rfl
  case binOp op t x y z =>
    simp only [xBin, opdR_eq]
    cases opd E fr x with
    | none => rfl
    | some a =>
      cases opd E fr y with
      | none => cases a <;> rfl
      | some b =>
        simp only [ob_some, binK, ob_vh, binR_eq, bc_eq]
        by_cases ha : isNili a = true
        · by_cases hb : isNili b = true
          · rw [ha, hb]
            rw [isNili_iff] at ha hb
            subst ha; subst hb
            rfl
          · have hb' : isNili b = false := by simpa using hb
            rw [ha, hb']
            cases a <;> (try (simp [isNili] at ha; done))
            cases b <;> first | rfl | (simp [isNili] at hb'; done)
        · have ha' : isNili a = false := by simpa using ha
          rw [ha']
          cases a <;> first | rfl | (simp [isNili] at ha'; done)
  case unOp op t x =>
    simp only [xUn, opdR_eq, ob_vh]
    cases opd E fr x <;> rfl
  case fieldAddr t x f =>
    simp only [xFieldAddr, opdR_eq, fieldAddrR_eq, ob_vh]
    cases opd E fr x <;> rfl
  case field t x f =>
    simp only [xField, opdR_eq, ob_vh]
    cases opd E fr x <;> rfl
  case indexAddr t x i =>
    simp only [xIndexAddr, opdR_eq, indexAddrR_eq, ob_vh]
    cases opd E fr x with
    | none => rfl
    | some a => cases opd E fr i <;> rfl
  case index t x i =>
    simp only [xIndex, opdR_eq, indexR_eq, ob_vh]
    cases opd E fr x with
    | none => rfl
    | some a => cases opd E fr i <;> rfl
  case extract x i =>
    simp only [xExtract, opdR_eq]
    cases opd E fr x with
    | none => rfl
    | some a =>
      cases a <;> try rfl
      rename_i vs
      show (ob (vs.drop i).head? fun v => rv H v) = _
      dsimp only
      cases (vs.drop i).head? <;> rfl
  case call c =>
    unfold xCall
    cases c.callee with
    | builtin b =>
      simp only [opdsR_eq]
      cases opds E fr c.args.toList <;> rfl
    | value f =>
      simp only [opdR_eq]
      cases opd E fr f with
      | none => rfl
      | some v =>
        cases v <;> try rfl
        case fn g first cap =>
          show (ob (opdsR E fr c.args.toList) fun l => some (ARes.call g (first ++ (l ++ cap)))) = _
          rw [opdsR_eq]
          cases opds E fr c.args.toList <;> rfl
        case yld id =>
          show (ob (opdsR E fr c.args.toList) fun l => some (ARes.ycall id l)) = _
          rw [opdsR_eq]
          cases opds E fr c.args.toList <;> rfl
    | invoke r n => rfl
  case slice t x lo hi mx =>
    have oe : ∀ y, optR E fr y = optOpd E fr y := fun y => by
      cases y with
      | none => rfl
      | some y => simp only [optR, optOpd, opdR_eq]; cases opd E fr y <;> rfl
    simp only [xSlice, opdR_eq, oe, ob_vh]
    cases opd E fr x with
    | none => rfl
    | some a => cases optOpd E fr lo with
      | none => rfl
      | some l => cases optOpd E fr hi with
        | none => rfl
        | some h => cases optOpd E fr mx <;> rfl
  case box e x =>
    simp only [xBox, opdR_eq]
    cases opd E fr x with
    | none => rfl
    | some v => simp only [ob_some, boxK, bc_eq]
  case alloc e =>
    simp only [xAlloc]
    cases E.ty e <;> rfl
def putR (fr : AFr) (d : Option Tmp) (v : AV) : AFr :=
  Option.rec (motive := fun _ => AFr) fr (fun d => bc (Nat.blt d fr.n) ⟨fr.n, fr.t.set d v, fr.df, fr.rd⟩ fr) d
theorem putR_eq (fr : AFr) (d : Option Tmp) (v : AV) : putR fr d v = fr.put d v := by
  cases d with
  | none => rfl
  | some d => simp only [putR, AFr.put, bc_eq]
def wantK (v : AV) (want : Bool) : Option Bool := avBoolB v (fun b => some (b == want)) (avTupB v (fun _ => some false) none)
def wantedR (ops : Array Oper) (fr : Tr AV) (g : Option (Nat × Bool)) : Option Bool :=
  match g with
  | none => some true
  | some (j, want) => match (ops[j]?).bind (·.dst) with
    | none => some false
    | some d => ob (fr.get d) fun v => wantK v want
theorem wantedR_eq (ops : Array Oper) (fr : Tr AV) (o : Oper) : wantedR ops fr o.guard = wantedA ops fr o := by
  unfold wantedR wantedA
  cases o.guard with
  | none => rfl
  | some g =>
    obtain ⟨j, want⟩ := g
    simp only
    cases (ops[j]?).bind (·.dst) with
    | none => rfl
    | some d =>
      simp only
      cases fr.get d with
      | none => rfl
      | some v => cases v <;> rfl
def callsR (ih : Task → Option TRes) (H : AHeap) : ARes → Option ARes
  | .val v H => some (.val v H)
  | .skip H => some (.skip H)
  | r => callsA ih H r
theorem callsR_eq (ih : Task → Option TRes) (H : AHeap) (r : ARes) : callsR ih H r = callsA ih H r := by cases r <;> rfl
def resK (o : Oper) (k : AFr → AHeap → Option TRes) (fr : AFr) : ARes → Option TRes
  | .val v H => k (putR fr o.dst v) H
  | .skip H => k (putR fr o.dst undefA) H
  | .panic v H => some (.code (.panic v) fr H)
  | .defer _ _ => none
  | _ => none
def deferK (o : Oper) (k : AFr → AHeap → Option TRes) (fr : AFr) (H : AHeap) : ARes → Option TRes
  | .defer f args => bif fr.rd then none else k (putR { fr with df := .call f args :: fr.df } o.dst undefA) H
  | r => resK o k fr r
def stepK (E : Env) (ih : Task → Option TRes) (o : Oper) (k : AFr → AHeap → Option TRes) (fr : AFr) (H : AHeap) : Option TRes :=
  ob (execR E H fr.t o) fun r => ob (callsR ih H r) fun r2 => deferK o k fr H r2
def opK (E : Env) (ih : Task → Option TRes) (all : Array Oper) (o : Oper) (k : AFr → AHeap → Option TRes) : AFr → AHeap → Option TRes := fun fr H =>
  ob (wantedR all fr.t o.guard) fun b => bc b (stepK E ih o k fr H) (k (putR fr o.dst undefA) H)
def opsR (E : Env) (ih : Task → Option TRes) (all : Array Oper) (l : List Oper) : AFr → AHeap → Option TRes :=
  List.rec (motive := fun _ => AFr → AHeap → Option TRes) (fun fr H => some (.code .normal fr H)) (fun o _ k => opK E ih all o k) l
theorem opsR_eq (E : Env) (ih : Task → Option TRes) (all : Array Oper) : ∀ (l : List Oper) (fr : AFr) (H : AHeap), opsR E ih all l fr H = opsA E ih all l fr H
  | [], _, _ => rfl
  | o :: l, fr, H => by
    show opK E ih all o (opsR E ih all l) fr H = _
    have hk : opsR E ih all l = opsA E ih all l := by funext fr H; exact opsR_eq E ih all l fr H
    rw [hk]
    simp only [opK, stepK, opsA, wantedR_eq, execR_eq, callsR_eq, putR_eq, bc_eq]
    cases wantedA all fr.t o with
    | none => rfl
    | some b =>
      cases b with
      | false => rfl
      | true =>
        simp only [ob_some, cond_true]
        cases execA E H fr.t o with
        | none => rfl
        | some r =>
          simp only [ob_some]
          cases callsA ih H r with
          | none => rfl
          | some r2 => cases r2 <;> simp only [ob_some, deferK, resK, putR_eq]
def dK (E : Env) (_ih : Task → Option TRes) (an : Tr Nat) (fr0 : AFr) (all : Array Oper) (rest : List Oper) (o : Oper) (k : Nat → List QRec → List ERec → AFr → AHeap → Option TRes) (i m : Nat) (qs : List QRec) (es : List ERec) (fr : AFr) (H : AHeap) : ARes → Option TRes
  | .val v H' => bc (stableQ E H' m qs) (k (i + 1) qs (⟨i, H⟩ :: es) (putR fr o.dst v) H') none
  | .skip H' => bc (stableQ E H' m qs) (k (i + 1) qs (⟨i, H⟩ :: es) (putR fr o.dst undefA) H') none
  | .panic v H' => bc (restOk an i rest (i + 1)) (some (.code (.panic v) { fr0 with t := delDsts fr0.t all.toList } H')) none
  | _ => none
def dQ (E : Env) (o : Oper) (k : Nat → List QRec → List ERec → AFr → AHeap → Option TRes) (i m : Nat) (qs : List QRec) (es : List ERec) (fr : AFr) (H : AHeap) : ARes → Option TRes
  | .val v _ => bc (stableE E ⟨i, o, fr.t, v⟩ m es) (k (i + 1) (⟨i, o, fr.t, v⟩ :: qs) es (putR fr o.dst v) H) none
  | _ => none
def dW (E : Env) (ih : Task → Option TRes) (an : Tr Nat) (fr0 : AFr) (all : Array Oper) (rest : List Oper) (o : Oper) (k : Nat → List QRec → List ERec → AFr → AHeap → Option TRes) (i : Nat) (qs : List QRec) (es : List ERec) (fr : AFr) (H : AHeap) : Option TRes :=
  ob (an.get i) fun m => ob (execR E H fr.t o) fun r => bc (quietOp E o.op) (dQ E o k i m qs es fr H r) (ob (callsR ih H r) fun r2 => dK E ih an fr0 all rest o k i m qs es fr H r2)
def dOp (E : Env) (ih : Task → Option TRes) (an : Tr Nat) (fr0 : AFr) (all : Array Oper) (rest : List Oper) (o : Oper) (k : Nat → List QRec → List ERec → AFr → AHeap → Option TRes) : Nat → List QRec → List ERec → AFr → AHeap → Option TRes := fun i qs es fr H =>
  ob (wantedR all fr.t o.guard) fun b => bc b (dW E ih an fr0 all rest o k i qs es fr H) (k (i + 1) qs es (putR fr o.dst undefA) H)
def opsDR (E : Env) (ih : Task → Option TRes) (all : Array Oper) (an : Tr Nat) (fr0 : AFr) (l : List Oper) : Nat → List QRec → List ERec → AFr → AHeap → Option TRes :=
  List.rec (motive := fun _ => Nat → List QRec → List ERec → AFr → AHeap → Option TRes) (fun _ _ _ fr H => some (.code .normal fr H)) (fun o rest k => dOp E ih an fr0 all rest o k) l
theorem opsDR_eq (E : Env) (ih : Task → Option TRes) (all : Array Oper) (an : Tr Nat) (fr0 : AFr) : ∀ (l : List Oper) (i : Nat) (qs : List QRec) (es : List ERec) (fr : AFr) (H : AHeap), opsDR E ih all an fr0 l i qs es fr H = opsD E ih all an fr0 l i qs es fr H
  | [], _, _, _, _, _ => rfl
  | o :: l, i, qs, es, fr, H => by
    show dOp E ih an fr0 all l o (opsDR E ih all an fr0 l) i qs es fr H = _
    have hk : opsDR E ih all an fr0 l = opsD E ih all an fr0 l := by funext i qs es fr H; exact opsDR_eq E ih all an fr0 l i qs es fr H
    rw [hk]
    simp only [dOp, dW, opsD, wantedR_eq, execR_eq, callsR_eq, putR_eq, bc_eq]
    cases wantedA all fr.t o with
    | none => rfl
    | some b =>
      cases b with
      | false => rfl
      | true =>
        simp only [ob_some, cond_true]
        cases an.get i with
        | none => rfl
        | some m =>
          simp only [ob_some]
          cases execA E H fr.t o with
          | none => rfl
          | some r =>
            simp only [ob_some]
            cases quietOp E o.op with
            | true => cases r <;> simp only [cond_true, dQ, bc_eq, putR_eq]
            | false =>
              simp only [cond_false]
              cases callsA ih H r with
              | none => rfl
              | some r2 => cases r2 <;> simp only [ob_some, dK, bc_eq, putR_eq]
def regDR (E : Env) (ih : Task → Option TRes) (ops : Array Oper) (fr : AFr) (H : AHeap) : Option TRes :=
  ob (ancs ops.toList 0 .nil) fun an => bc (allOk E an ops.toList && (Nat.ble fr.n 1000000 && Nat.ble ops.size 1000000)) (opsDR E ih ops an fr ops.toList 0 [] [] fr H) none
def regionR (E : Env) (ih : Task → Option TRes) (ops : Array Oper) (draw : Bool) : AFr → AHeap → Option TRes := fun fr H => bc draw (regDR E ih ops fr H) (opsR E ih ops ops.toList fr H)
theorem regionR_eq (E : Env) (ih : Task → Option TRes) (ops : Array Oper) (draw : Bool) (fr : AFr) (H : AHeap) : regionR E ih ops draw fr H = regionA E ih ops draw fr H := by
  simp only [regionR, regionA, bc_eq, opsR_eq, regDR, opsDR_eq]
  cases draw with
  | false => rfl
  | true =>
    simp only [cond_true]
    cases ancs ops.toList 0 .nil <;> rfl
abbrev CF := AFr → AHeap → Option TRes
def seqK (b : CF) : TRes → Option TRes
  | .code e fr H => AExit.rec (motive := fun _ => Option TRes) (b fr H) (fun id => some (.code (.exit id) fr H)) (some (.code .ret fr H)) (fun v => some (.code (.panic v) fr H)) e
  | r => some r
def cSeq (a b : CF) : CF := fun fr H => ob (a fr H) fun r => seqK b r
def condK (a b : CF) (fr : AFr) (H : AHeap) (v : AV) : Option TRes := avBoolT v (fun c => bc c (a fr H) (b fr H)) none
def cCond (E : Env) (c : Operand) (a b : CF) : CF := fun fr H => ob (opdR E fr.t c) fun v => condK a b fr H v
def blockK (id : Nat) : TRes → Option TRes
  | .code e fr H => AExit.rec (motive := fun _ => Option TRes) (some (.code .normal fr H)) (fun i => bc (Nat.beq i id) (some (.code .normal fr H)) (some (.code (.exit i) fr H))) (some (.code .ret fr H)) (fun v => some (.code (.panic v) fr H)) e
  | r => some r
def cBlock (id : Nat) (a : CF) : CF := fun fr H => ob (a fr H) fun r => blockK id r
def loopK (ih : Task → Option TRes) (c : Code) : TRes → Option TRes
  | .code e fr H => AExit.rec (motive := fun _ => Option TRes) (ih (.code (.loop c) fr H)) (fun i => some (.code (.exit i) fr H)) (some (.code .ret fr H)) (fun v => some (.code (.panic v) fr H)) e
  | r => some r
def cLoop (ih : Task → Option TRes) (c : Code) (a : CF) : CF := fun fr H => ob (a fr H) fun r => loopK ih c r
def codeR (E : Env) (ih : Task → Option TRes) (c : Code) : CF :=
  Code.rec (motive := fun _ => CF) (fun fr H => some (.code .normal fr H)) (fun _ ops draw => regionR E ih ops draw) (fun _ _ a b => cSeq a b) (fun c _ _ a b => cCond E c a b) (fun id _ a => cBlock id a) (fun c a => cLoop ih c a)
    (fun f ps asz b _ _ => codeA E ih (.rangeFunc f ps asz b)) (fun id fr H => some (.code (.exit id) fr H)) (fun c _ => codeA E ih (.scope c)) (fun _ fr H => some (.code .normal fr H)) (fun l => codeA E ih (.goto l)) (fun fr H => some (.code .ret fr H)) (fun w => codeA E ih (.refuse w)) c
theorem codeR_eq (E : Env) (ih : Task → Option TRes) : ∀ (c : Code) (fr : AFr) (H : AHeap), codeR E ih c fr H = codeA E ih c fr H := by
  intro c
  induction c with
  | skip => intro fr H; rfl
  | region id ops draw => intro fr H; exact regionR_eq E ih ops draw fr H
  | seq a b iha ihb =>
    intro fr H
    show cSeq (codeR E ih a) (codeR E ih b) fr H = _
    simp only [cSeq, iha, codeA]
    cases codeA E ih a fr H with
    | none => rfl
    | some r =>
      cases r with
      | code e fr1 H1 => cases e <;> simp only [ob_some, seqK, ihb]
      | call r => rfl
      | dcall r => rfl
  | cond c a b iha ihb =>
    intro fr H
    show cCond E c (codeR E ih a) (codeR E ih b) fr H = _
    simp only [cCond, opdR_eq, codeA]
    cases opd E fr.t c with
    | none => rfl
    | some v =>
      cases v <;> try rfl
      rename_i b'
      show bc b' (codeR E ih a fr H) (codeR E ih b fr H) = _
      rw [iha, ihb]
      cases b' <;> rfl
  | block id a iha =>
    intro fr H
    show cBlock id (codeR E ih a) fr H = _
    simp only [cBlock, iha, codeA]
    cases codeA E ih a fr H with
    | none => rfl
    | some r =>
      cases r with
      | code e fr1 H1 => cases e <;> simp only [ob_some, blockK, bc_eq]
      | call r => rfl
      | dcall r => rfl
  | loop a iha =>
    intro fr H
    show cLoop ih a (codeR E ih a) fr H = _
    simp only [cLoop, iha, codeA]
    cases codeA E ih a fr H with
    | none => rfl
    | some r =>
      cases r with
      | code e fr1 H1 => cases e <;> simp only [ob_some, loopK]
      | call r => rfl
      | dcall r => rfl
  | rangeFunc f ps asz b _ _ => intro fr H; rfl
  | exit id => intro fr H; rfl
  | scope c _ => intro fr H; rfl
  | label l => intro fr H; rfl
  | goto l => intro fr H; rfl
  | ret => intro fr H; rfl
  | refuse w => intro fr H; rfl
def leaveR (E : Env) (ih : Task → Option TRes) (rs : List ResultVar) (fr : AFr) (p : Option AV) (H : AHeap) : Option TRes := leaveA E ih rs fr.t fr.df p H
def callEnd (E : Env) (ih : Task → Option TRes) (rs : List ResultVar) : TRes → Option TRes
  | .code e fr H => AExit.rec (motive := fun _ => Option TRes) (leaveR E ih rs fr none H) (fun _ => none) (leaveR E ih rs fr none H) (fun v => leaveR E ih rs fr (some v) H) e
  | _ => none
def callR (E : Env) (ih : Task → Option TRes) (fn : AFunc) (args : List AV) (H : AHeap) : Option TRes := ob (codeR E ih fn.body (newFr fn args) H) fun r => callEnd E ih fn.results r
def smK (E : Env) (f : FuncId) (args : List AV) (H : AHeap) : Option TRes := ob (E.sm f args H) fun r => some (.call (.ret r.1 r.2))
def callT (E : Env) (ih : Task → Option TRes) (f : FuncId) (args : List AV) (H : AHeap) : Option TRes := Option.rec (motive := fun _ => Option TRes) (smK E f args H) (fun fn => callR E ih fn args H) (E.fn f)
def stepR (E : Env) (ih : Task → Option TRes) : Task → Option TRes
  | .code c fr H => codeR E ih c fr H
  | .call f args H => callT E ih f args H
  | t => stepA E ih t
theorem stepR_eq (E : Env) (ih : Task → Option TRes) (t : Task) : stepR E ih t = stepA E ih t := by
  cases t <;> try rfl
  case code c fr H => exact codeR_eq E ih c fr H
  case call f args H =>
    simp only [stepR, callT, stepA]
    cases E.fn f with
    | none =>
      show smK E f args H = _
      unfold smK
      cases E.sm f args H <;> rfl
    | some fn =>
      show callR E ih fn args H = _
      simp only [callR, codeR_eq]
      cases codeA E ih fn.body (newFr fn args) H with
      | none => rfl
      | some r =>
        cases r with
        | code e fr H => cases e <;> rfl
        | call r => rfl
        | dcall r => rfl
def runR (E : Env) (n : Nat) : Task → Option TRes := Nat.rec (motive := fun _ => Task → Option TRes) (fun _ => none) (fun _ ih t => stepR E ih t) n
theorem runR_eq (E : Env) : ∀ n, runR E n = run E n
  | 0 => rfl
  | n + 1 => by
    funext t
    show stepR E (runR E n) t = stepA E (run E n) t
    rw [runR_eq E n, stepR_eq]
end
end Go.Vai
end
section
namespace Go.Vai
def posOf (i : Nat) : List Nat → Nat → Option Nat
  | [], _ => none
  | j :: r, k => bif Nat.beq i j then some k else posOf i r (k + 1)
theorem posOf_at {i : Nat} : ∀ {l : List Nat} {k p : Nat}, posOf i l k = some p → k ≤ p ∧ l[p - k]? = some i := by
  intro l
  induction l with
  | nil => intro k p h; cases h
  | cons j l ih =>
    intro k p h
    simp only [posOf, Bool.cond_eq_ite, Nat.beq_eq] at h
    split at h
    · rename_i e
      simp only [Option.some.injEq] at h; subst h; subst e
      simp
    · obtain ⟨a, b⟩ := ih h
      refine ⟨by omega, ?_⟩
      rw [show p - k = (p - (k + 1)) + 1 by omega]
      simpa using b
mutual
def rnV (b : Nat) (keep : List Nat) : AV → Option AV
  | .ptr i o => match posOf i keep b with | some k => some (.ptr k o) | none => none
  | .sl i o n c => match posOf i keep b with | some k => some (.sl k o n c) | none => none
  | .yld i => match posOf i keep b with | some k => some (.yld k) | none => none
  | .mapv i => match posOf i keep b with | some k => some (.mapv k) | none => none
  | .nilm => some .nilm
  | .opq o => some (.opq o)
  | .ext j k b o n c => some (.ext j k b o n c)
  | .fn f x y => match rnVs b keep x, rnVs b keep y with | some x, some y => some (.fn f x y) | _, _ => none
  | .iface t x => match rnV b keep x with | some y => some (.iface t y) | none => none
  | .agg l => match rnVs b keep l with | some l => some (.agg l) | none => none
  | .tup l => match rnVs b keep l with | some l => some (.tup l) | none => none
  | .bool t => some (.bool t)
  | .int k n => some (.int k n)
  | .str s => some (.str s)
  | .nilp => some .nilp
  | .nils => some .nils
  | .sl0 => some .sl0
  | .nilf => some .nilf
  | .nili => some .nili
def rnVs (b : Nat) (keep : List Nat) : List AV → Option (List AV)
  | [] => some []
  | v :: vs => match rnV b keep v, rnVs b keep vs with | some a, some l => some (a :: l) | _, _ => none
end
def MRen (b : Nat) (keep : List Nat) (M M' : List MEnt) : Prop := ∀ k i : Nat, keep[k]? = some i → M'[b + k]? = M[i]?
theorem posOf_ren {b : Nat} {keep : List Nat} {M M' : List MEnt} (hM : MRen b keep M M') {i k : Nat} (h : posOf i keep b = some k) : M'[k]? = M[i]? := by
  obtain ⟨h1, h2⟩ := posOf_at h
  have := hM (k - b) i h2
  rwa [show b + (k - b) = k by omega] at this
mutual
theorem rnV_rel {b : Nat} {keep : List Nat} {M M' : List MEnt} (hM : MRen b keep M M') : ∀ (v : AV) (u : AV) (cv : Value), rnV b keep v = some u → VRel M v cv → VRel M' u cv
  | .ptr i o, u, cv, h, r => by
    simp only [rnV] at h
    split at h
    · rename_i k hk
      cases h
      obtain ⟨m, hm, e2⟩ := r
      exact ⟨m, by rw [posOf_ren hM hk]; exact hm, e2⟩
    · cases h
  | .sl i o n c, u, cv, h, r => by
    simp only [rnV] at h
    split at h
    · rename_i k hk
      cases h
      obtain ⟨m, cc, hm, e2⟩ := r
      exact ⟨m, cc, by rw [posOf_ren hM hk]; exact hm, e2⟩
    · cases h
  | .yld i, u, cv, h, r => by
    simp only [rnV] at h
    split at h
    · rename_i k hk
      cases h
      obtain ⟨m, hm, e2⟩ := r
      exact ⟨m, by rw [posOf_ren hM hk]; exact hm, e2⟩
    · cases h
  | .fn f x y, u, cv, h, r => by
    simp only [rnV] at h
    split at h
    · rename_i a' b' ha hb
      cases h
      obtain ⟨fs, cs, e, r1, r2⟩ := r
      exact ⟨fs, cs, e, rnVs_rel hM _ _ _ ha r1, rnVs_rel hM _ _ _ hb r2⟩
    · cases h
  | .iface t x, u, cv, h, r => by
    simp only [rnV] at h
    split at h
    · rename_i y hy
      cases h
      obtain ⟨z, e, r1⟩ := r
      exact ⟨z, e, rnV_rel hM _ _ _ hy r1⟩
    · cases h
  | .agg l, u, cv, h, r => by
    simp only [rnV] at h
    split at h
    · rename_i l' hl
      cases h
      obtain ⟨vs, e, r1⟩ := r
      exact ⟨vs, e, rnVs_rel hM _ _ _ hl r1⟩
    · cases h
  | .tup l, u, cv, h, r => by
    simp only [rnV] at h
    split at h
    · rename_i l' hl
      cases h
      obtain ⟨vs, e, r1⟩ := r
      exact ⟨vs, e, rnVs_rel hM _ _ _ hl r1⟩
    · cases h
  | .mapv i, u, cv, h, r => by
    simp only [rnV] at h
    split at h
    · rename_i k hk
      cases h
      obtain ⟨m, hm, e2⟩ := r
      exact ⟨m, by rw [posOf_ren hM hk]; exact hm, e2⟩
    · cases h
  | .nilm, _, _, h, r => by cases h; exact r
  | .opq _, _, _, h, r => by cases h; exact r
  | .ext _ _ _ _ _ _, _, _, h, r => by cases h; exact r
  | .bool _, _, _, h, r => by cases h; exact r
  | .int _ _, _, _, h, r => by cases h; exact r
  | .str _, _, _, h, r => by cases h; exact r
  | .nilp, _, _, h, r => by cases h; exact r
  | .nils, _, _, h, r => by cases h; exact r
  | .sl0, _, _, h, r => by cases h; exact r
  | .nilf, _, _, h, r => by cases h; exact r
  | .nili, _, _, h, r => by cases h; exact r
theorem rnVs_rel {b : Nat} {keep : List Nat} {M M' : List MEnt} (hM : MRen b keep M M') : ∀ (v : List AV) (u : List AV) (cv : List Value), rnVs b keep v = some u → VRels M v cv → VRels M' u cv
  | [], _, [], h, r => by cases h; exact r
  | [], _, _ :: _, _, r => r.elim
  | _ :: _, _, [], _, r => r.elim
  | a :: v, u, c :: cv, h, r => by
    simp only [rnVs] at h
    split at h
    · rename_i a' l' ha hl
      cases h
      exact ⟨rnV_rel hM _ _ _ ha r.1, rnVs_rel hM _ _ _ hl r.2⟩
    · cases h
end
def Plain (v : AV) : Prop := ∀ b keep, rnV b keep v = some v
def PlainT (t : Tr AV) : Prop := ∀ i v, t.get i = some v → Plain v
def rnEs (b : Nat) (keep : List Nat) : List (AV × AV × Nat) → Option (List (AV × AV × Nat))
  | [] => some []
  | (k, v, c) :: es => match rnV b keep k, rnV b keep v, rnEs b keep es with
    | some k', some v', some es' => some ((k', v', c) :: es')
    | _, _, _ => none
theorem rnEs_rel {b : Nat} {keep : List Nat} {M M' : List MEnt} (hM : MRen b keep M M') : ∀ {es es' : List (AV × AV × Nat)} {ces : List MapEntry}, rnEs b keep es = some es' → EsRel M es ces → EsRel M' es' ces
  | [], _, [], h, _ => by cases h; trivial
  | (k, v, c) :: es, es', e :: ces, h, ⟨r1, r2, r3, r4⟩ => by
    simp only [rnEs] at h
    split at h
    · rename_i k' v' l hk hv hl
      cases h
      exact ⟨rnV_rel hM _ _ _ hk r1, rnV_rel hM _ _ _ hv r2, r3, rnEs_rel hM hl r4⟩
    · cases h
def rnMi (b : Nat) (keep : List Nat) : Option Nat → Option (Option Nat)
  | none => some none
  | some i => match posOf i keep b with | some k => some (some k) | none => none
theorem rnMi_rel {b : Nat} {keep : List Nat} {M M' : List MEnt} (hM : MRen b keep M M') {x y c : Option Nat} (h : rnMi b keep x = some y) (r : MiRel M x c) : MiRel M' y c := by
  cases x with
  | none => cases h; exact r
  | some i =>
    simp only [rnMi] at h
    split at h
    · rename_i k hk
      cases h
      obtain ⟨m, hm, e⟩ := r
      exact ⟨m, by rw [posOf_ren hM hk]; exact hm, e⟩
    · cases h
def RObj (b : Nat) (keep : List Nat) : AObj → AObj → Prop
  | .cells n t e g fz ro mk, o => ∃ t', o = .cells n t' e g fz ro mk ∧ ∀ i y, t'.get i = some y → ∃ x, t.get i = some x ∧ rnV b keep x = some y
  | .loop st p n t ps asz bo d, o => ∃ t' d', o = .loop st p n t' ps asz bo d' ∧ posOf d keep b = some d' ∧ ∀ i y, t'.get i = some y → ∃ x, t.get i = some x ∧ rnV b keep x = some y
  | .siter s p, o => o = .siter s p
  | .dfr, o => o = .dfr
  | .mp es clock q, o => ∃ es', o = .mp es' clock q ∧ rnEs b keep es = some es'
  | .miter m since seen last, o => ∃ m', o = .miter m' since seen last ∧ rnMi b keep m = some m'
theorem RObj.rel {b : Nat} {keep : List Nat} {M M' : List MEnt} (hM : MRen b keep M M') {m : MEnt} {w : World} {o u : AObj} (h : RObj b keep o u) (r : ORel M m w o) : ORel M' m w u := by
  cases o with
  | cells n t e g fz ro mk =>
    obtain ⟨t', rfl, ht⟩ := h
    obtain ⟨cur, e', lo, hi, h1, h2, h3, h4, h5, h6, h7⟩ := r
    refine ⟨cur, e', lo, hi, h1, h2, h3, h4, h5, h6, fun i v hv => ?_⟩
    obtain ⟨x, hx, hr⟩ := ht i v hv
    obtain ⟨a, cv, b, c⟩ := h7 i x hx
    exact ⟨a, cv, b, rnV_rel hM _ _ _ hr c⟩
  | loop st p n t ps asz bo d =>
    obtain ⟨t', d', rfl, hd, ht⟩ := h
    obtain ⟨L, h1, h2, h3, h4, h5, h6, h7, h8, dd, h9, h10⟩ := r
    refine ⟨L, h1, h2, h3, h4, h5, h6, h7, fun i v hv => ?_, dd, by rw [posOf_ren hM hd]; exact h9, h10⟩
    obtain ⟨x, hx, hr⟩ := ht i v hv
    obtain ⟨cv, b, c⟩ := h8 i x hx
    exact ⟨cv, b, rnV_rel hM _ _ _ hr c⟩
  | siter s p => obtain rfl := h; exact r
  | dfr => obtain rfl := h; exact r
  | mp es clock =>
    obtain ⟨es', rfl, he⟩ := h
    obtain ⟨ces, h1, h2⟩ := r
    exact ⟨ces, h1, rnEs_rel hM he h2⟩
  | miter mi since seen last =>
    obtain ⟨m', rfl, he⟩ := h
    obtain ⟨c, h1, h2, h3⟩ := r
    exact ⟨c, h1, h2, rnMi_rel hM he h3⟩
theorem RObj.ro {b : Nat} {keep : List Nat} {o u : AObj} (h : RObj b keep o u) : u.isRo = o.isRo := by
  cases o with
  | cells n t e g fz ro mk => obtain ⟨t', rfl, _⟩ := h; rfl
  | loop => obtain ⟨t', d', rfl, _⟩ := h; rfl
  | siter s p => obtain rfl := h; rfl
  | dfr => obtain rfl := h; rfl
  | mp es clock => obtain ⟨_, rfl, _⟩ := h; rfl
  | miter => obtain ⟨_, rfl, _⟩ := h; rfl
structure Ren (ng : Nat) (keep : List Nat) (fr : AFr) (H : AHeap) (fr' : AFr) (H' : AHeap) : Prop where
  glob : ∀ g, g < ng → keep[g]? = some g
  lt : ∀ i ∈ keep, i < H.next
  nodup : keep.Nodup
  next : H'.next = keep.length
  obj : ∀ k u, H'.get k = some u → ∃ i o, keep[k]? = some i ∧ H.get i = some o ∧ RObj 0 keep o u
  n : fr'.n = fr.n
  rd : fr'.rd = fr.rd
  df : fr.df = [] ∧ fr'.df = []
  t : ∀ i y, fr'.t.get i = some y → ∃ x, fr.t.get i = some x ∧ rnV 0 keep x = some y
def renM (keep : List Nat) (M : List MEnt) : List MEnt := keep.map fun i => (M[i]?).getD ⟨0, 0, 0, 0⟩
theorem renM_ren {keep : List Nat} {M : List MEnt} (h : ∀ i ∈ keep, i < M.length) : MRen 0 keep M (renM keep M) := by
  intro k i hk
  rw [Nat.zero_add]
  unfold renM
  rw [List.getElem?_map, hk]
  have := h i (List.mem_of_getElem? hk)
  rw [List.getElem?_eq_getElem this]
  simp [List.getElem?_eq_getElem this]
structure Carried (I : List MEnt → AHeap → World → Prop) : Prop where
  ext : ∀ M H w M' H' w', I M H w → Ext M H w M' H' w' → I M' H' w'
  ren : ∀ M H w M' H', I M H w → HRel M H w → HRel M' H' w → (∀ b, Wr M' H' b → Wr M H b) → I M' H' w
section
variable {E : Env} {P : Program} {I : List MEnt → AHeap → World → Prop} {ih : Task → Option TRes} {ro : Option Nat}
theorem Ren.to (hI : Carried I) {keep : List Nat} {fr fr' : AFr} {H H' : AHeap} (r : Ren E.ng keep fr H fr' H') {M : List MEnt} {w : World} {a : Act} (st : St E I M H w) (hf : FRel ro M fr a) : ∃ M', St E I M' H' w ∧ FRel ro M' fr' a := by
  have hlt : ∀ i ∈ keep, i < M.length := fun i hi => by rw [st.hr.len]; exact r.lt i hi
  have hM := renM_ren hlt
  have at_ : ∀ k i, keep[k]? = some i → (renM keep M)[k]? = M[i]? := fun k i h => by have := hM k i h; rwa [Nat.zero_add] at this
  have inj : ∀ k l i : Nat, keep[k]? = some i → keep[l]? = some i → k = l := fun k l i hk hl => by
    have hk' := (List.getElem?_eq_some_iff.1 hk)
    have hl' := (List.getElem?_eq_some_iff.1 hl)
    exact (List.getElem?_inj hk'.1 r.nodup).1 (hk.trans hl.symm)
  have hr : HRel (renM keep M) H' w := by
    refine ⟨by simp [renM, r.next], fun k u hu => ?_, fun k l u v m p hu hv hm hp hkl hb => ?_⟩
    · obtain ⟨i, o, e1, e2, e3⟩ := r.obj k u hu
      obtain ⟨m, hm, ho⟩ := st.hr.obj i o e2
      exact ⟨m, by rw [at_ k i e1]; exact hm, e3.rel hM ho⟩
    · obtain ⟨i, o, e1, e2, e3⟩ := r.obj k u hu
      obtain ⟨j, q, f1, f2, f3⟩ := r.obj l v hv
      rw [at_ k i e1] at hm
      rw [at_ l j f1] at hp
      have hij : i ≠ j := fun e => by subst e; exact hkl (inj k l i e1 f1)
      obtain ⟨z1, z2⟩ := st.hr.inj i j o q m p e2 f2 hm hp hij hb
      exact ⟨by rw [e3.ro]; exact z1, by rw [f3.ro]; exact z2⟩
  refine ⟨renM keep M, ⟨hr, fun g hg => ?_, hI.ren _ _ _ _ _ st.i st.hr hr fun b hb => ?_⟩, ⟨by rw [r.rd]; exact hf.rd, by rw [r.n]; exact hf.n, fun i y hy => ?_, ?_⟩⟩
  · obtain ⟨m, hm, h2⟩ := st.g g hg
    exact ⟨m, by rw [at_ g g (r.glob g hg)]; exact hm, h2⟩
  · obtain ⟨k, u, m, e, hro, hm, rfl⟩ := hb
    obtain ⟨i, o, e1, e2, e3⟩ := r.obj k u e
    rw [at_ k i e1] at hm
    exact ⟨i, o, m, e2, by rw [← e3.ro]; exact hro, hm, rfl⟩
  · obtain ⟨x, hx, hxy⟩ := r.t i y hy
    obtain ⟨cv, hc, hv⟩ := hf.t i x hx
    exact ⟨cv, hc, rnV_rel hM _ _ _ hxy hv⟩
  · have := hf.df
    rw [r.df.1] at this
    rw [r.df.2]
    generalize a.defers = l at this ⊢
    cases this
    exact .nil
abbrev TQ := AExit → AFr → AHeap → Prop
def TPost (E : Env) (I : List MEnt → AHeap → World → Prop) (ro : Option Nat) (Q : TQ) (ex : Exit) (a : Act) (w : World) : Prop :=
  ∃ e fr H M, Q e fr H ∧ St E I M H w ∧ ERel M e ex ∧ FRel ro M fr a
def Tri (E : Env) (P : Program) (I : List MEnt → AHeap → World → Prop) (ro : Option Nat) (c : Code) (fr : AFr) (H : AHeap) (Q : TQ) : Prop :=
  ∀ M w a, St E I M H w → FRel ro M fr a → c.wpIn (FF ro) 0 P (TPost E I ro Q) a w
theorem Tri.mono {c : Code} {fr : AFr} {H : AHeap} {Q Q' : TQ} (h : Tri E P I ro c fr H Q) (hq : ∀ e fr H, Q e fr H → Q' e fr H) : Tri E P I ro c fr H Q' := by
  intro M w a st hf
  refine wpIn_mono (h M w a st hf) ?_
  rintro ex a1 w1 ⟨e, fr1, H1, M1, q, r⟩
  exact ⟨e, fr1, H1, M1, hq _ _ _ q, r⟩
theorem Tri.run (hE : EnvOk E P I) (hs : Sound E P I ih) {c : Code} {fr : AFr} {H : AHeap} {e : AExit} {fr' : AFr} {H' : AHeap} {Q : TQ} (h : codeA E ih c fr H = some (.code e fr' H')) (hq : Q e fr' H') : Tri E P I ro c fr H Q := by
  intro M w a st hf
  refine wpIn_mono (codeA_sound hE hs c fr H e fr' H' M w a h st hf) ?_
  rintro ex a1 w1 ⟨M1, x1, x2, x3, x4⟩
  exact ⟨e, fr', H', M1, hq, st.next hE x1 x2, x3, x4⟩
theorem Tri.ren (hI : Carried I) {c : Code} {keep : List Nat} {fr fr' : AFr} {H H' : AHeap} {Q : TQ} (r : Ren E.ng keep fr H fr' H') (h : Tri E P I ro c fr' H' Q) : Tri E P I ro c fr H Q := by
  intro M w a st hf
  obtain ⟨M', s2, f2⟩ := r.to hI st hf
  exact h M' w a s2 f2
theorem ERel.normal {M : List MEnt} {e : AExit} {x : Exit} (h : ERel M e x) : e = .normal ↔ x = .normal := by
  cases e with
  | normal => simp only [ERel] at h; simp [h]
  | exit i => simp only [ERel] at h; simp [h]
  | ret => simp only [ERel] at h; simp [h]
  | panic v => obtain ⟨cv, rfl, _⟩ := h; simp
theorem Tri.seq {a b : Code} {fr : AFr} {H : AHeap} {Q : TQ} (h : Tri E P I ro a fr H fun e fr' H' => (e = .normal ∧ Tri E P I ro b fr' H' Q) ∨ (e ≠ .normal ∧ Q e fr' H')) : Tri E P I ro (.seq a b) fr H Q := by
  intro M w x st hf
  refine wpIn_seq (wpIn_mono (h M w x st hf) ?_)
  rintro ex a1 w1 ⟨e, fr1, H1, M1, q, s1, er, f1⟩
  rcases q with ⟨rfl, q⟩ | ⟨hne, q⟩
  · simp only [ERel] at er; subst er
    exact q M1 w1 a1 s1 f1
  · have post : TPost E I ro Q ex a1 w1 := ⟨e, fr1, H1, M1, q, s1, er, f1⟩
    cases e with
    | normal => exact absurd rfl hne
    | exit i => simp only [ERel] at er; subst er; exact post
    | ret => simp only [ERel] at er; subst er; exact post
    | panic v => obtain ⟨cv, rfl, _⟩ := er; exact post
theorem Tri.cond {c : Operand} {a b : Code} {fr : AFr} {H : AHeap} {Q : TQ} {x : Bool} (hc : opd E fr.t c = some (.bool x)) (h : Tri E P I ro (bif x then a else b) fr H Q) : Tri E P I ro (.cond c a b) fr H Q := by
  intro M w act st hf
  have := opd_rel st.g hf.t hc
  simp only [VRel] at this
  cases x with
  | true => exact wpIn_cond_true this (h M w act st hf)
  | false => exact wpIn_cond_false this (h M w act st hf)
def outOf (id : Nat) : AExit → AExit
  | .exit i => bif Nat.beq i id then .normal else .exit i
  | e => e
theorem Tri.block {id : Nat} {c : Code} {fr : AFr} {H : AHeap} {Q : TQ} (h : Tri E P I ro c fr H fun e fr' H' => Q (outOf id e) fr' H') : Tri E P I ro (.block id c) fr H Q := by
  intro M w x st hf
  refine wpIn_block (wpIn_mono (h M w x st hf) ?_)
  rintro ex a1 w1 ⟨e, fr1, H1, M1, q, s1, er, f1⟩
  cases e with
  | normal => simp only [ERel] at er; subst er; exact ⟨_, fr1, H1, M1, q, s1, rfl, f1⟩
  | ret => simp only [ERel] at er; subst er; exact ⟨_, fr1, H1, M1, q, s1, rfl, f1⟩
  | panic v =>
    have er' := er
    obtain ⟨cv, rfl, _⟩ := er
    exact ⟨_, fr1, H1, M1, q, s1, er', f1⟩
  | exit i =>
    simp only [ERel] at er; subst er
    simp only [outOf, Bool.cond_eq_ite, Nat.beq_eq] at q
    simp only [Exit.inBlock]
    split
    · rename_i hi
      rw [if_pos hi] at q
      exact ⟨_, fr1, H1, M1, q, s1, rfl, f1⟩
    · rename_i hi
      rw [if_neg hi] at q
      exact ⟨_, fr1, H1, M1, q, s1, rfl, f1⟩
theorem Tri.loop {X : Type} {c : Code} {fr : X → AFr} {H : X → AHeap} {Inv : X → Prop} (meas : X → Nat) {Q : TQ} (hI : Carried I)
    (body : ∀ x, Inv x → Tri E P I ro c (fr x) (H x) fun e fr' H' => (e = .normal ∧ ∃ x' keep, Inv x' ∧ meas x' < meas x ∧ Ren E.ng keep fr' H' (fr x') (H x')) ∨ (e ≠ .normal ∧ Q e fr' H')) :
    ∀ x, Inv x → Tri E P I ro (.loop c) (fr x) (H x) Q := by
  intro x hx M w a st hf
  refine loopWp_loop ?_
  have main : ∀ (n : Nat) (x : X), meas x = n → Inv x → ∀ M w a, St E I M (H x) w → FRel ro M (fr x) a → LoopWp (FF ro) P c (TPost E I ro Q) a w := by
    intro n
    induction n using Nat.strongRecOn with
    | _ n ihn =>
      intro x hn hx M w a st hf
      refine loopWp_of (wpIn_mono (body x hx M w a st hf) ?_)
      rintro ex a1 w1 ⟨e, fr1, H1, M1, q, s1, er, f1⟩
      rcases q with ⟨rfl, x', keep, i', hm, hr⟩ | ⟨hne, q⟩
      · simp only [ERel] at er; subst er
        obtain ⟨M2, s2, f2⟩ := hr.to hI s1 f1
        exact ihn (meas x') (by omega) x' rfl i' M2 w1 a1 s2 f2
      · have post : TPost E I ro Q ex a1 w1 := ⟨e, fr1, H1, M1, q, s1, er, f1⟩
        cases e with
        | normal => exact absurd rfl hne
        | exit i => simp only [ERel] at er; subst er; exact post
        | ret => simp only [ERel] at er; subst er; exact post
        | panic v => obtain ⟨cv, rfl, _⟩ := er; exact post
  exact main _ x rfl hx M w a st hf
end
end Go.Vai
end
section
namespace Go.Vai
noncomputable section
theorem bc_true {α : Type} (x y : α) : bc true x y = x := rfl
theorem bc_false {α : Type} (x y : α) : bc false x y = y := rfl
def isB : Option AV → Bool
  | some (.bool _) => true
  | _ => false
def asB : Option AV → Bool
  | some (.bool b) => b
  | _ => false
def isI (k : IntKind) : Option AV → Bool
  | some (.int j _) => sameKind j k
  | _ => false
def asI : Option AV → Int
  | some (.int _ n) => n
  | _ => 0
def isS : Option AV → Bool
  | some (.str _) => true
  | _ => false
def asS : Option AV → List UInt8
  | some (.str s) => s
  | _ => []
def isN : Option AV → Bool
  | some .nils => true
  | _ => false
def isZ : Option AV → Bool
  | some .sl0 => true
  | _ => false
def isSl : Option AV → Bool
  | some (.sl _ _ _ _) => true
  | _ => false
def slI : Option AV → Nat
  | some (.sl i _ _ _) => i
  | _ => 0
def slO : Option AV → Nat
  | some (.sl _ o _ _) => o
  | _ => 0
def slN : Option AV → Nat
  | some (.sl _ _ n _) => n
  | _ => 0
def slC : Option AV → Option Nat
  | some (.sl _ _ _ c) => c
  | _ => none
section
variable {α : Type}
def ldK : AV → Option AV → (AV → Option α) → Option α
  | .bool _ => fun x k => bc (isB x) (k (.bool (asB x))) none
  | .int kd _ => fun x k => bc (isI kd x) (k (.int kd (asI x))) none
  | .str _ => fun x k => bc (isS x) (k (.str (asS x))) none
  | .nils => fun x k => bc (isSl x) (k (.sl (slI x) (slO x) (slN x) (slC x))) (bc (isN x) (k .nils) (bc (isZ x) (k .sl0) none))
  | _ => fun x k => ob x k
theorem bc_some {b : Bool} {x y : Option α} {r : α} (h : bc b x y = some r) : (b = true ∧ x = some r) ∨ (b = false ∧ y = some r) := by
  cases b
  · exact .inr ⟨rfl, h⟩
  · exact .inl ⟨rfl, h⟩
theorem bc_none {b : Bool} {x : Option α} {r : α} (h : bc b x none = some r) : b = true ∧ x = some r := by
  rcases bc_some h with h | ⟨_, h⟩
  · exact h
  · cases h
theorem ob_some' {β : Type} {x : Option β} {f : β → Option α} {r : α} (h : ob x f = some r) : ∃ v, x = some v ∧ f v = some r := by
  cases x with
  | none => cases h
  | some v => exact ⟨v, rfl, h⟩
theorem ldK_some {z : AV} {x : Option AV} {k : AV → Option α} {r : α} (h : ldK z x k = some r) : ∃ v, x = some v ∧ k v = some r := by
  unfold ldK at h
  split at h
  · obtain ⟨h1, h2⟩ := bc_none h
    unfold isB at h1
    split at h1
    · rename_i b; exact ⟨.bool b, rfl, h2⟩
    · cases h1
  · rename_i kd _
    obtain ⟨h1, h2⟩ := bc_none h
    unfold isI at h1
    split at h1
    · rename_i j n
      rw [sameKind_iff] at h1
      subst h1
      exact ⟨.int j n, rfl, h2⟩
    · cases h1
  · obtain ⟨h1, h2⟩ := bc_none h
    unfold isS at h1
    split at h1
    · rename_i s; exact ⟨.str s, rfl, h2⟩
    · cases h1
  · rcases bc_some h with ⟨h1, h2⟩ | ⟨_, h⟩
    · unfold isSl at h1
      split at h1
      · rename_i i o n c; exact ⟨.sl i o n c, rfl, h2⟩
      · cases h1
    · rcases bc_some h with ⟨h1, h2⟩ | ⟨_, h⟩
      · unfold isN at h1
        split at h1
        · exact ⟨.nils, rfl, h2⟩
        · cases h1
      · obtain ⟨h1, h2⟩ := bc_none h
        unfold isZ at h1
        split at h1
        · exact ⟨.sl0, rfl, h2⟩
        · cases h1
  · exact ob_some' h
def ldsK (c : Tr AV) (zs : List AV) : Nat → (List AV → Option α) → Option α :=
  List.rec (motive := fun _ => Nat → (List AV → Option α) → Option α) (fun _ k => k []) (fun z _ ih off k => ldK z (c.get off) fun v => ih (Nat.succ off) fun vs => k (v :: vs)) zs
theorem ldsK_some {c : Tr AV} : ∀ {zs : List AV} {off : Nat} {k : List AV → Option α} {r : α}, ldsK c zs off k = some r → ∃ vs, c.getAll off zs.length = some vs ∧ k vs = some r := by
  intro zs
  induction zs with
  | nil => intro off k r h; exact ⟨[], rfl, h⟩
  | cons z zs ih =>
    intro off k r h
    have h' : (ldK z (c.get off) fun v => ldsK c zs (off + 1) fun vs => k (v :: vs)) = some r := h
    obtain ⟨v, hv, h2⟩ := ldK_some h'
    obtain ⟨vs, hvs, h3⟩ := ih h2
    refine ⟨v :: vs, ?_, h3⟩
    rw [List.length_cons, Tr.getAll_succ, hv]
    simp only [hvs]
def rowK (o : Option AObj) (k : Tr AV → Option α) : Option α :=
  match o with
  | some (.cells _ c _ _ _ _ _) => k c
  | _ => none
def loadT (ti : ATy) (off : Nat) (k : AV → Option α) (c : Tr AV) : Option α :=
  bc ti.agg (bc (Nat.beq ti.zero.length ti.size) (ldsK c ti.zero off fun l => k (.agg l)) none) (match ti.zero with | [z] => ldK z (c.get off) k | _ => ob (c.get off) k)
def loadKK (E : Env) (H : AHeap) (t : TypeId) (k : AV → Option α) : AV → Option α
  | .ptr id off => ob (E.ty t) fun ti => rowK (H.get id) (loadT ti off k)
  | _ => none
theorem loadKK_some {E : Env} {H : AHeap} {t : TypeId} {k : AV → Option α} {p : AV} {r : α} (h : loadKK E H t k p = some r) : ∃ v, loadVarA E H t p = some v ∧ k v = some r := by
  cases p <;> try (cases h; done)
  rename_i id off
  simp only [loadKK] at h
  replace h := ob_some' h
  obtain ⟨ti, ht, h⟩ := h
  unfold rowK at h
  split at h
  case h_2 => cases h
  rename_i n c e g fz ro mk hget
  simp only [loadVarA, ht, hget]
  unfold loadT at h
  rcases bc_some h with ⟨h1, h⟩ | ⟨h1, h⟩
  · obtain ⟨hb, h⟩ := bc_none h
    rw [Nat.beq_eq] at hb
    obtain ⟨vs, hvs, h2⟩ := ldsK_some h
    rw [hb] at hvs
    exact ⟨.agg vs, by rw [h1]; simp [hvs], h2⟩
  · have hx : ∃ v, c.get off = some v ∧ k v = some r := by
      split at h
      · exact ldK_some h
      · exact ob_some' h
    obtain ⟨v, hv, h2⟩ := hx
    exact ⟨v, by rw [h1]; simp [hv], h2⟩
abbrev KF (α : Type) := Env → AHeap → Tr AV → (ARes → Option α) → Option α
def kPick (c a b : Operand) : KF α := fun E H fr k => ob (opdR E fr c) fun v => match v with
  | .bool t => bc t (ob (opdR E fr a) fun v => k (.val v H)) (ob (opdR E fr b) fun v => k (.val v H))
  | _ => none
def kLoad (t : TypeId) (a : Operand) : KF α := fun E H fr k => ob (opdR E fr a) fun p => loadKK E H t (fun v => k (.val v H)) p
def stK (H : AHeap) (ti : ATy) (id off : Nat) (vs : List AV) (k : ARes → Option α) : Option AObj → Option α
  | some (.cells n c e g fz ro mk) => bc (Nat.beq vs.length ti.size && vs.all AV.one) (bc (Nat.ble (off + ti.size) n) (bc (Nat.ble fz off && !ro) (k (.skip (H.put id (.cells n (c.putAll off vs) e g fz ro mk)))) none) none) none
  | _ => none
def kStore (t : TypeId) (a x : Operand) : KF α := fun E H fr k => ob (opdR E fr a) fun p => ob (opdR E fr x) fun v => match p with
  | .ptr id off => ob (E.ty t) fun ti => stK H ti id off v.cells k (H.get id)
  | _ => none
def idxK (ei : ATy) (id off len : Nat) (i : Int) (H : AHeap) (k : ARes → Option α) : Option α :=
  bc (ilt i 0) none (bc (Nat.blt i.toNat len) (k (.val (.ptr id (Nat.add off (Nat.mul i.toNat ei.size))) H)) none)
def kIndexAddr (t : TypeId) (x i : Operand) : KF α := fun E H fr k => ob (opdR E fr x) fun a => ob (opdR E fr i) fun b => ob (E.ty t) fun ti => match ti.d, a, b with
  | .array n e, .ptr id off, .int _ i => ob (E.ty e) fun ei => idxK ei id off n i H k
  | .slice e, .sl id off len _, .int _ i => ob (E.ty e) fun ei => idxK ei id off len i H k
  | _, _, _ => none
def byteAt (s : List UInt8) (i : Nat) : UInt8 := (nth s i).getD 0
def kIndex (t : TypeId) (x i : Operand) : KF α := fun E H fr k => ob (opdR E fr x) fun a => ob (opdR E fr i) fun b => ob (E.ty t) fun ti => match ti.d, a, b with
  | .str, .str s, .int _ i => bc (ilt i 0) none (bc (Nat.blt i.toNat (lenU s)) (k (.val (byteAV (byteAt s i.toNat)) H)) none)
  | _, _, _ => ob (indexA E t a b) fun v => k (.val v H)
def bndK (top : Nat) (k : Nat → Option α) : AV → Option α
  | .int _ i => bc (ilt i 0) none (bc (Nat.ble i.toNat top) (k i.toNat) none)
  | _ => none
def loK (h : Nat) (k : Nat → Option α) : Option AV → Option α
  | some v => bndK h k v
  | none => k 0
def hiK (len top : Nat) (k : Nat → Option α) : Option AV → Option α
  | some v => bndK top k v
  | none => k len
def cn (b : Bool) (x y : Nat) : Nat := Bool.rec (motive := fun _ => Nat) y x b
def rowSlK (id off size h l c : Nat) (H : AHeap) (k : ARes → Option α) : Option α :=
  k (.val (.sl id (cn (Nat.beq c l) off (Nat.add off (Nat.mul l size))) (Nat.sub h l) (some (Nat.sub c l))) H)
def growSlK (ei : ATy) (id off len : Nat) (hi lo : Option AV) (H : AHeap) (k : ARes → Option α) : Option AObj → Option α
  | some (.cells n _ _ (some gs) _ _ _) => bc (Nat.beq gs ei.size && !(Nat.beq gs 0)) (bc (Nat.ble (Nat.add off (Nat.mul len gs)) n) (hiK len (Nat.div (Nat.sub n off) gs) (fun h => loK h (fun l => bc (Nat.blt (Nat.add off (Nat.mul l gs)) n || Nat.beq l 0) (k (.val (.sl id (Nat.add off (Nat.mul l gs)) (Nat.sub h l) none) H)) (k (.val .sl0 H))) lo) hi) none) none
  | _ => none
def kSlice (t : TypeId) (x : Operand) (lo hi mx : Option Operand) : KF α := fun E H fr k => ob (opdR E fr x) fun a => ob (optR E fr lo) fun l => ob (optR E fr hi) fun h => ob (optR E fr mx) fun m => ob (E.ty t) fun ti => match ti.d, a, m with
  | .str, .str s, none => (match h with
      | none => loK (lenU s) (fun l => k (.val (.str (s.drop l)) H)) l
      | some hv => bndK (lenU s) (fun h => loK h (fun l => k (.val (.str ((s.drop l).take (Nat.sub h l))) H)) l) hv)
  | .slice e, .sl id off len (some c), none => ob (E.ty e) fun ei => hiK len c (fun h => loK h (fun l => rowSlK id off ei.size h l c H k) l) h
  | .slice e, .sl id off len none, none => ob (E.ty e) fun ei => growSlK ei id off len h l H k (H.get id)
  | _, _, _ => ob (sliceA E H t a l h m) fun v => k (.val v H)
def kMake (t : TypeId) (l c : Operand) : KF α := fun E H fr k => ob (opdR E fr l) fun a => ob (opdR E fr c) fun b => ob (E.ty t) fun ti => match ti.d, a, b with
  | .slice e, .int _ l, .int _ c => ob (E.ty e) fun ei => bc (ilt l 0) none (bc (ilt c l) none (bc (roomy c.toNat (ei.bytes + ei.size)) (k (.val (.sl H.next 0 l.toNat (some c.toNat)) (newRowA H e (rep ei.zero c.toNat)))) none))
  | _, _, _ => none
def isAdd : BinOp → Bool
  | .add => true
  | _ => false
def shlI (a : Int) (n : Nat) : Int := Int.mul a (Int.ofNat (Nat.pow 2 n))
def shrI (a : Int) (n : Nat) : Int := Int.fdiv a (Int.ofNat (Nat.pow 2 n))
def andI (kd : IntKind) (a b : Int) : Int := Int.ofNat (Nat.land (bitsOf kd a) (bitsOf kd b))
def orI (kd : IntKind) (a b : Int) : Int := Int.ofNat (Nat.lor (bitsOf kd a) (bitsOf kd b))
def xorI (kd : IntKind) (a b : Int) : Int := Int.ofNat (Nat.xor (bitsOf kd a) (bitsOf kd b))
def andNotI (kd : IntKind) (a b : Int) : Int := Int.ofNat (Nat.land (bitsOf kd a) (Nat.xor (2 ^ kd.bits - 1) (bitsOf kd b)))
def intKK (op : BinOp) (kd kd' : IntKind) (a b : Int) (k : AV → Option α) : Option α :=
  match op with
  | .shl => bc (ilt b 0) none (k (.int kd (wrapR kd (shlI a (Nat.min b.toNat kd.bits)))))
  | .shr => bc (ilt b 0) none (k (.int kd (shrI a (Nat.min b.toNat kd.bits))))
  | .quo => bc (sameKind kd kd') (bc (ieq b 0) none (k (.int kd (wrapR kd (Int.tdiv a b))))) none
  | .rem => bc (sameKind kd kd') (bc (ieq b 0) none (k (.int kd (Int.tmod a b)))) none
  | .and => bc (sameKind kd kd') (k (.int kd (wrapR kd (andI kd a b)))) none
  | .or => bc (sameKind kd kd') (k (.int kd (wrapR kd (orI kd a b)))) none
  | .xor => bc (sameKind kd kd') (k (.int kd (wrapR kd (xorI kd a b)))) none
  | .andNot => bc (sameKind kd kd') (k (.int kd (wrapR kd (andNotI kd a b)))) none
  | op => bc (sameKind kd kd') (ob (intOp op kd a b) k) none
theorem two_pow (n : Nat) : (2 : Int) ^ n = Int.ofNat (Nat.pow 2 n) := by
  show _ = ((2 ^ n : Nat) : Int)
  rw [Int.natCast_pow]; rfl
theorem intKK_some {op : BinOp} {kd kd' : IntKind} {a b : Int} {k : AV → Option α} {r : α} (E : Env) (t : TypeId) (h : intKK op kd kd' a b k = some r) : ∃ v, binA E op t (.int kd a) (.int kd' b) = some v ∧ k v = some r := by
  have same : ∀ {x : Option α}, bc (sameKind kd kd') x none = some r → kd = kd' ∧ x = some r := fun h => by
    obtain ⟨h1, h2⟩ := bc_none h
    exact ⟨(sameKind_iff _ _).1 h1, h2⟩
  have sk : ∀ k : IntKind, sameKind k k = true := fun k => (sameKind_iff _ _).2 rfl
  cases op <;> simp only [intKK] at h
  case shl =>
    rcases bc_some h with ⟨_, h⟩ | ⟨h1, h⟩
    · cases h
    · refine ⟨_, ?_, h⟩
      simp only [binA, intShift, h1, cond_false, wrapR_eq, shlI]
      rw [two_pow]; rfl
  case shr =>
    rcases bc_some h with ⟨_, h⟩ | ⟨h1, h⟩
    · cases h
    · refine ⟨_, ?_, h⟩
      simp only [binA, intShift, h1, cond_false, shrI]
      rw [two_pow]
  case quo =>
    obtain ⟨e, h2⟩ := same h; clear h; subst e
    rcases bc_some h2 with ⟨_, h⟩ | ⟨h1, h⟩
    · cases h
    · exact ⟨_, by simp only [binA, sk, cond_true, intBin, h1, cond_false, wrapR_eq], h⟩
  case rem =>
    obtain ⟨e, h2⟩ := same h; clear h; subst e
    rcases bc_some h2 with ⟨_, h⟩ | ⟨h1, h⟩
    · cases h
    · exact ⟨_, by simp only [binA, sk, cond_true, intBin, h1, cond_false], h⟩
  case and => obtain ⟨e, h2⟩ := same h; clear h; subst e; exact ⟨_, by simp only [binA, sk, cond_true, intBin, wrapR_eq, andI]; rfl, h2⟩
  case or => obtain ⟨e, h2⟩ := same h; clear h; subst e; exact ⟨_, by simp only [binA, sk, cond_true, intBin, wrapR_eq, orI]; rfl, h2⟩
  case xor => obtain ⟨e, h2⟩ := same h; clear h; subst e; exact ⟨_, by simp only [binA, sk, cond_true, intBin, wrapR_eq, xorI]; rfl, h2⟩
  case andNot => obtain ⟨e, h2⟩ := same h; clear h; subst e; exact ⟨_, by simp only [binA, sk, cond_true, intBin, wrapR_eq, andNotI]; rfl, h2⟩
  all_goals
    obtain ⟨e, h2⟩ := same h; clear h; subst e
    obtain ⟨v, hv, h⟩ := ob_some' h2
    rw [intOp_eq] at hv
    exact ⟨v, by simp only [binA, sk, cond_true]; exact hv, h⟩
def eqFsN (E : Env) (asz bs : List AV) : List (Nat × Nat) → Option Bool
  | [] => some true
  | (o, ft) :: fs => match partA E ft asz o, partA E ft bs o with
    | some x, some y => (match eqv E 5 ft x y, eqFsN E asz bs fs with
      | some b, some c => some (b && c)
      | some b, none => bif b then none else some false
      | none, _ => none)
    | _, _ => none
theorem eqFsN_eq (E : Env) (asz bs : List AV) : ∀ l : List (Nat × Nat), eqFsN E asz bs l = eqFs E (eqv E 5) asz bs l
  | [] => rfl
  | (o, ft) :: fs => by
    simp only [eqFsN, eqFs]
    rw [eqFsN_eq E asz bs fs]
    cases partA E ft asz o with
    | none => rfl
    | some x =>
      cases partA E ft bs o with
      | none => rfl
      | some y =>
        simp only
        cases eqv E 5 ft x y with
        | none => rfl
        | some b => cases b <;> cases eqFs E (eqv E 5) asz bs fs <;> rfl
def isEq : BinOp → Bool
  | .eql => true
  | _ => false
def isNe : BinOp → Bool
  | .neq => true
  | _ => false
def aggKK (E : Env) (H : AHeap) (op : BinOp) (t : TypeId) (k : ARes → Option α) (asz bs : List AV) : Option α := ob (E.ty t) fun ti => match ti.d with
  | .struct fs eqok => bc eqok (ob (eqFsN E asz bs fs) fun e => bc (isEq op) (k (.val (.bool e) H)) (bc (isNe op) (k (.val (.bool (!e)) H)) none)) none
  | _ => none
theorem aggKK_some {E : Env} {H : AHeap} {op : BinOp} {t : TypeId} {x y : Operand} {k : ARes → Option α} {asz bs : List AV} {r : α} (h : aggKK E H op t k asz bs = some r) : ob (binK E H op t x y (.agg asz) (.agg bs)) k = some r := by
  unfold aggKK at h
  obtain ⟨ti, ht, h⟩ := ob_some' h
  split at h
  case h_2 => cases h
  rename_i fs eqok hd
  obtain ⟨h1, h⟩ := bc_none h
  obtain ⟨e, he, h⟩ := ob_some' h
  rw [eqFsN_eq] at he
  have hv : eqv E 6 t (.agg asz) (.agg bs) = some e := by
    simp only [eqv, ht, hd, h1, cond_true]
    exact he
  rcases bc_some h with ⟨ho, h2⟩ | ⟨_, h2⟩
  · obtain rfl : op = .eql := by cases op <;> first | rfl | cases ho
    have e2 : binK E H .eql t x y (.agg asz) (.agg bs) = some (.val (.bool e) H) := by
      show (ob (binR E .eql t (.agg asz) (.agg bs)) fun v => rv H v) = _
      rw [binR_eq]
      simp only [binA, hv]
      rfl
    rw [e2]; exact h2
  · obtain ⟨ho, h3⟩ := bc_none h2
    obtain rfl : op = .neq := by cases op <;> first | rfl | cases ho
    have e2 : binK E H .neq t x y (.agg asz) (.agg bs) = some (.val (.bool (!e)) H) := by
      show (ob (binR E .neq t (.agg asz) (.agg bs)) fun v => rv H v) = _
      rw [binR_eq]
      simp only [binA, hv]
      rfl
    rw [e2]; exact h3
def binKK (E : Env) (H : AHeap) (op : BinOp) (t : TypeId) (x y : Operand) (k : ARes → Option α) : AV → AV → Option α
  | .str a, .str b => bc (isAdd op) (bc (Nat.ble (Nat.add (lenU a) (lenU b)) 1099511627776) (k (.val (.str (a ++ b)) H)) none) (ob (binK E H op t x y (.str a) (.str b)) k)
  | .int kd a, .int kd' b => intKK op kd kd' a b fun v => k (.val v H)
  | .agg asz, .agg bs => aggKK E H op t k asz bs
  | a, b => ob (binK E H op t x y a b) k
theorem binKK_some {E : Env} {H : AHeap} {op : BinOp} {t : TypeId} {x y : Operand} {k : ARes → Option α} {a b : AV} {r : α} (h : binKK E H op t x y k a b = some r) : ob (binK E H op t x y a b) k = some r := by
  unfold binKK at h
  split at h
  · rename_i a b
    rcases bc_some h with ⟨ho, h2⟩ | ⟨_, h2⟩
    · obtain ⟨h1, h3⟩ := bc_none h2
      obtain rfl : op = .add := by cases op <;> first | rfl | cases ho
      have h1' : Nat.ble (lenU a + lenU b) 1099511627776 = true := h1
      have e : binK E H .add t x y (.str a) (.str b) = some (.val (.str (a ++ b)) H) := by
        show (ob (binR E .add t (.str a) (.str b)) fun v => rv H v) = _
        rw [binR_eq]
        simp only [binA, strBin, h1', cond_true]
        rfl
      rw [e]; exact h3
    · exact h2
  · rename_i kd a kd' b
    obtain ⟨v, hv, h2⟩ := intKK_some E t h
    have e : binK E H op t x y (.int kd a) (.int kd' b) = some (.val v H) := by
      show (ob (binR E op t (.int kd a) (.int kd' b)) fun v => rv H v) = _
      rw [binR_eq, hv]; rfl
    rw [e]; exact h2
  · exact aggKK_some h
  · exact h
def kBin (op : BinOp) (t : TypeId) (x y : Operand) : KF α := fun E H fr k => ob (opdR E fr x) fun a => ob (opdR E fr y) fun b => binKK E H op t x y k a b
def hasA (c : Tr AV) (off n : Nat) : Bool := (c.getAll off n).isSome
def getA (c : Tr AV) (off n : Nat) : List AV := (c.getAll off n).getD []
theorem hasA_eq {c : Tr AV} {off n : Nat} (h : hasA c off n = true) : c.getAll off n = some (getA c off n) := by
  unfold hasA at h; unfold getA
  cases e : c.getAll off n with
  | none => rw [e] at h; cases h
  | some l => rfl
def hasY (l : List AV) : Bool := (bytesA l).isSome
def getY (l : List AV) : List UInt8 := (bytesA l).getD []
theorem hasY_eq {l : List AV} (h : hasY l = true) : bytesA l = some (getY l) := by
  unfold hasY at h; unfold getY
  cases e : bytesA l with
  | none => rw [e] at h; cases h
  | some l => rfl
def onesA (l : List AV) : Bool := l.all AV.one
def cellsK (H : AHeap) (es n : Nat) (k : List AV → Option α) : AV → Option α
  | .nils => k []
  | .sl0 => bc (Nat.beq n 0) (k []) none
  | .sl id off _ _ => rowK (H.get id) fun c => bc (hasA c off (Nat.mul n es)) (k (getA c off (Nat.mul n es))) none
  | .str s => bc (Nat.beq es 1) (k (s.map byteAV)) none
  | _ => none
theorem cellsK_some {H : AHeap} {es n : Nat} {k : List AV → Option α} {x : AV} {r : α} (h : cellsK H es n k x = some r) (hn : ∀ s, x = .str s → n = lenU s) : ∃ l, sliceCells H es n x = some l ∧ k l = some r := by
  cases x <;> try (cases h; done)
  case nils => exact ⟨[], rfl, h⟩
  case sl0 =>
    obtain ⟨h1, h2⟩ := bc_none h
    exact ⟨[], by simp only [sliceCells, h1, cond_true], h2⟩
  case sl id off len cap =>
    simp only [cellsK, rowK] at h
    split at h
    case h_2 => cases h
    rename_i c _ _ _ _ _ hget
    obtain ⟨h1, h2⟩ := bc_none h
    exact ⟨_, by simp only [sliceCells, hget]; exact hasA_eq h1, h2⟩
  case str s =>
    obtain ⟨h1, h2⟩ := bc_none h
    refine ⟨s.map byteAV, ?_, h2⟩
    have := hn s rfl
    simp only [sliceCells, h1, cond_true, this, lenU, List.take_length]
def lenK (k : Nat → Option α) : AV → Option α
  | .nils => k 0
  | .sl0 => k 0
  | .sl _ _ n _ => k n
  | .str s => k (lenU s)
  | _ => none
theorem lenK_some {k : Nat → Option α} {x : AV} {r : α} (h : lenK k x = some r) : ∃ n, lenA x = some n ∧ k n = some r := by
  cases x <;> first | (cases h; done) | exact ⟨_, rfl, h⟩
def putK (k : AV → AHeap → Option α) (H : AHeap) (id off len c m es : Nat) (news : List AV) : Option AObj → Option α
  | some (.cells n cs e' g fz ro mk) => bc (Nat.ble (Nat.add off (Nat.mul (Nat.add len m) es)) n) (bc (Nat.ble fz (Nat.add off (Nat.mul len es)) && !ro) (bc (onesA news) (k (.sl id off (Nat.add len m) (some c)) (H.put id (.cells n (cs.putAll (Nat.add off (Nat.mul len es)) news) e' g fz ro mk))) none) none) none
  | _ => none
def growK (k : AV → AHeap → Option α) (H : AHeap) (id off len e m es eb : Nat) (news : List AV) : Option AObj → Option α
  | some (.cells n cs e' (some gs) fz false mk) => bc (Nat.beq off 0 && (Nat.beq gs es && Nat.beq e e')) (bc (Nat.beq n (Nat.mul len es)) (bc (Nat.ble fz n) (bc (roomy (Nat.add len m) eb) (bc (onesA news) (k (.sl H.next 0 (Nat.add len m) none) ((H.kill id).new (.cells (Nat.add n (Nat.mul m es)) (cs.putAll n news) e (some gs) fz false mk))) none) none) none) none) none
  | _ => none
def appK (H : AHeap) (e es eb m : Nat) (news : List AV) (k : AV → AHeap → Option α) : AV → Option α
  | .nils => bc (Nat.beq m 0) (k .nils H) (bc (roomy m eb) (k (.sl H.next 0 m none) (H.new (.cells (Nat.mul m es) (Tr.nil.putAll 0 news) e (some es) 0 false false))) none)
  | .sl id off len (some c) => bc (Nat.ble (Nat.add len m) c) (bc (Nat.beq m 0) (k (.sl id off (Nat.add len m) (some c)) H) (putK k H id off len c m es news (H.get id)))
      (bc (roomy (Nat.add len m) eb) (cellsK H es len (fun olds => k (.sl H.next 0 (Nat.add len m) none) (H.new (.cells (Nat.mul (Nat.add len m) es) (Tr.nil.putAll 0 (olds ++ news)) e (some es) 0 false false))) (.sl id off len (some c))) none)
  | .sl id off len none => bc (Nat.beq m 0) (k (.sl id off len none) H) (growK k H id off len e m es eb news (H.get id))
  | _ => none
theorem appK_some {H : AHeap} {e es eb m : Nat} {news : List AV} {k : AV → AHeap → Option α} {s : AV} {r : α} (h : appK H e es eb m news k s = some r) : ∃ v H', appendCells H e es eb m news s = some (v, H') ∧ k v H' = some r := by
  cases s <;> try (cases h; done)
  case nils =>
    simp only [appK] at h
    rcases bc_some h with ⟨h1, h⟩ | ⟨h1, h⟩
    · exact ⟨_, _, by simp only [appendCells, h1, cond_true], h⟩
    · obtain ⟨h2, h⟩ := bc_none h
      exact ⟨_, _, by simp only [appendCells, h1, h2, cond_true, cond_false]; rfl, h⟩
  case sl id off len cap =>
    cases cap with
    | some c =>
      simp only [appK] at h
      rcases bc_some h with ⟨h1, h⟩ | ⟨h1, h⟩
      · have h1' : Nat.ble (len + m) c = true := h1
        rcases bc_some h with ⟨h2, h⟩ | ⟨h2, h⟩
        · exact ⟨_, _, by simp only [appendCells, h1', h2, cond_true]; rfl, h⟩
        · unfold putK at h
          split at h
          case h_2 => cases h
          rename_i n cs e' g fz ro mk hget
          obtain ⟨h3, h⟩ := bc_none h
          obtain ⟨h4, h⟩ := bc_none h
          obtain ⟨h5, h⟩ := bc_none h
          rw [Bool.and_eq_true] at h4
          have h3' : Nat.ble (off + (len + m) * es) n = true := h3
          have h4' : Nat.ble fz (off + len * es) = true := h4.1
          have h5' : news.all AV.one = true := h5
          exact ⟨_, _, by simp only [appendCells, h1', h2, cond_true, cond_false, hget, h3', h4', h4.2, h5', Bool.and_self]; rfl, h⟩
      · have h1' : Nat.ble (len + m) c = false := h1
        obtain ⟨h2, h⟩ := bc_none h
        have h2' : roomy (len + m) eb = true := h2
        obtain ⟨l, hl, h⟩ := cellsK_some h (fun s e => by cases e)
        exact ⟨_, _, by simp only [appendCells, h1', h2', cond_true, cond_false, hl]; rfl, h⟩
    | none =>
      simp only [appK] at h
      rcases bc_some h with ⟨h1, h⟩ | ⟨h1, h⟩
      · exact ⟨_, _, by simp only [appendCells, h1, cond_true], h⟩
      · unfold growK at h
        split at h
        case h_2 => cases h
        rename_i n cs e' gs fz mk hget
        obtain ⟨h3, h⟩ := bc_none h
        obtain ⟨h4, h⟩ := bc_none h
        obtain ⟨h5, h⟩ := bc_none h
        obtain ⟨h6, h⟩ := bc_none h
        obtain ⟨h7, h⟩ := bc_none h
        simp only [Bool.and_eq_true] at h3
        have h4' : Nat.beq n (len * es) = true := h4
        have h6' : roomy (len + m) eb = true := h6
        have h7' : news.all AV.one = true := h7
        refine ⟨_, _, ?_, h⟩
        simp only [appendCells, h1, cond_false, hget, h3.1, h3.2.1, h3.2.2, h4', h5, h6', h7', Bool.and_self, cond_true]
        rfl
def trimK (E : Env) (H : AHeap) (t : TypeId) (s : AV) (k : AHeap → Option α) : Option α :=
  match s with
  | .sl id 0 len none => match E.ty t with
    | some ti => match ti.d with
      | .slice e => match E.ty e, H.get id with
        | some ei, some (.cells n c e' g fz false mk) => bc (Nat.blt (Nat.mul len ei.size) n) (bc (Nat.ble fz (Nat.mul len ei.size)) (bc (hasA c 0 (Nat.mul len ei.size)) (k (H.put id (.cells (Nat.mul len ei.size) (Tr.nil.putAll 0 (getA c 0 (Nat.mul len ei.size))) e' g fz false mk))) none) none) (k H)
        | _, _ => k H
      | _ => k H
    | none => k H
  | _ => k H
theorem trimK_some {E : Env} {H : AHeap} {t : TypeId} {s : AV} {k : AHeap → Option α} {r : α} (h : trimK E H t s k = some r) : k (trimS E H t s) = some r := by
  unfold trimK at h
  unfold trimS
  split at h
  · rename_i id len
    cases ht : E.ty t with
    | none => rw [ht] at h; exact h
    | some ti =>
      rw [ht] at h
      dsimp only at h ⊢
      cases hd : ti.d <;> rw [hd] at h <;> try exact h
      rename_i e
      dsimp only at h ⊢
      split at h
      · rename_i ei n c e' g fz mk he hget
        simp only [he, hget]
        rcases bc_some h with ⟨h1, h⟩ | ⟨h1, h⟩
        · obtain ⟨h2, h⟩ := bc_none h
          obtain ⟨h3, h⟩ := bc_none h
          have h1' : Nat.blt (len * ei.size) n = true := h1
          have h2' : Nat.ble fz (len * ei.size) = true := h2
          have h3' := hasA_eq h3
          have h3'' : c.getAll 0 (len * ei.size) = some (getA c 0 (len * ei.size)) := h3'
          simp only [h1', h2', Bool.and_self, cond_true, h3'']
          exact h
        · have h1' : Nat.blt (len * ei.size) n = false := h1
          simp only [h1', Bool.false_and, cond_false]
          exact h
      · rename_i hno
        simp only []
        exact h
  · rename_i hno
    split
    · exact absurd rfl (hno _ _)
    · exact h
def kAppend (ts : List TypeId) (args : List Operand) : KF α := fun E H fr k => match ts with
  | t :: u :: _ => ob (opdsR E fr args) fun l => match l with
    | [s, x] => ob (E.ty t) fun ti => match ti.d with
      | .slice e => ob (E.ty e) fun ei => bc (srcTy E u && !(Nat.beq ei.size 0)) (trimK E H t s fun H => lenK (fun m => cellsK H ei.size m (fun news => appK H e ei.size ei.bytes m news (fun v H => k (.val v H)) s) x) x)
          (bc (intTy E u && !(Nat.beq ei.size 0)) (match x with | .int _ n => bc ((!(ilt n 0)) && roomy n.toNat (ei.bytes + ei.size)) (trimK E H t s fun H => appK H e ei.size ei.bytes n.toNat (rep ei.zero n.toNat) (fun v H => k (.val v H)) s) none | _ => none) none)
      | _ => none
    | _ => none
  | _ => none
def isPU : AD → Bool
  | .ptr _ => true
  | .uptr => true
  | _ => false
def isApp : Callee → Bool
  | .builtin .append => true
  | _ => false
def cpSrcK (H : AHeap) (es n : Nat) (k : List AV → Option α) (x : AV) : Option α := match x with
  | .str s => bc (Nat.beq es 1) (k ((s.take n).map byteAV)) none
  | x => cellsK H es n k x
def cpPutK (H : AHeap) (id off n es : Nat) (news : List AV) (k : AV → AHeap → Option α) : Option AObj → Option α
  | some (.cells m c e' g fz ro mk) => bc (Nat.ble (Nat.add off (Nat.mul n es)) m) (bc (Nat.ble fz off && !ro) (bc (onesA news) (k (.int .i64 (Int.ofNat n)) (H.put id (.cells m (c.putAll off news) e' g fz ro mk))) none) none) none
  | _ => none
def cpDstK (H : AHeap) (es n : Nat) (news : List AV) (k : AV → AHeap → Option α) : AV → Option α
  | .nils => k (.int .i64 0) H
  | .sl0 => k (.int .i64 0) H
  | .sl id off _ _ => bc (Nat.beq n 0) (k (.int .i64 0) H) (cpPutK H id off n es news k (H.get id))
  | _ => none
def cpK (H : AHeap) (es n : Nat) (d s : AV) (k : AV → AHeap → Option α) : Option α := cpSrcK H es n (fun news => cpDstK H es n news k d) s
theorem cpK_some {E : Env} {H : AHeap} {t e : TypeId} {ti ei : ATy} {dn sn n : Nat} {d s : AV} {k : AV → AHeap → Option α} {r : α} (ht : E.ty t = some ti) (hd : ti.d = .slice e) (he : E.ty e = some ei) (h1 : lenA d = some dn) (h2 : lenA s = some sn) (hn : min sn dn = n) (h : cpK H ei.size n d s k = some r) :
    ∃ v H', copyA E H t d s = some (v, H') ∧ k v H' = some r := by
  have src : ∃ l, sliceCells H ei.size n s = some l ∧ cpDstK H ei.size n l k d = some r := by
    unfold cpK cpSrcK at h
    split at h
    · obtain ⟨h3, h⟩ := bc_none h
      exact ⟨_, by simp only [sliceCells, h3, cond_true], h⟩
    · rename_i hs
      exact cellsK_some h (fun s' e => absurd e (hs s'))
  clear h
  obtain ⟨l, hl, h⟩ := src
  unfold copyA
  simp only [ht, h1, h2, hd, he, hn, hl]
  cases d <;> try (cases h; done)
  case nils => exact ⟨_, _, rfl, h⟩
  case sl0 => exact ⟨_, _, rfl, h⟩
  case sl id off len cap =>
    simp only [cpDstK] at h
    rcases bc_some h with ⟨h3, h⟩ | ⟨h3, h⟩
    · exact ⟨_, _, by simp only [h3, cond_true], h⟩
    · unfold cpPutK at h
      split at h
      case h_2 => cases h
      rename_i m c e' g fz ro mk hget
      obtain ⟨h4, h⟩ := bc_none h
      obtain ⟨h5, h⟩ := bc_none h
      obtain ⟨h6, h⟩ := bc_none h
      rw [Bool.and_eq_true] at h5
      have h4' : Nat.ble (off + n * ei.size) m = true := h4
      have h6' : l.all AV.one = true := h6
      exact ⟨_, _, by simp only [h3, cond_false, hget, h4', h5.1, h5.2, h6', Bool.and_self, cond_true], h⟩
def isCopy : Callee → Bool
  | .builtin .copy => true
  | _ => false
def kCopy (ts : List TypeId) (args : List Operand) : KF α := fun E H fr k => match ts with
  | t :: _ => ob (opdsR E fr args) fun l => match l with
    | [d, s] => ob (E.ty t) fun ti => match ti.d with
      | .slice e => ob (E.ty e) fun ei => lenK (fun dn => lenK (fun sn => bc (Nat.ble sn dn) (cpK H ei.size sn d s fun v H => k (.val v H)) none) s) d
      | _ => none
    | _ => none
  | _ => none
def kCall (c : Call) (o : Oper) : KF α := bc (isApp c.callee) (kAppend c.argTypes.toList c.args.toList) (bc (isCopy c.callee) (kCopy c.argTypes.toList c.args.toList) (fun E H fr k => ob (xOp o E H fr) k))
def kConv (s d : TypeId) (x : Operand) (o : Oper) : KF α := fun E H fr k => ob (opdR E fr x) fun a => ob (E.ty s) fun si => ob (E.ty d) fun di => match di.d, a with
  | .int kd, .int _ n => k (.val (.int kd (wrapR kd n)) H)
  | .str, .int _ n => bc ((!(ilt n 0)) && ilt n 128) (k (.val (.str [UInt8.ofNat n.toNat]) H)) none
  | .str, .str s => k (.val (.str s) H)
  | .str, a => (match si.d with
    | .slice e => ob (E.ty e) fun ei => (match ei.d with
      | .int .u8 => lenK (fun n => cellsK H 1 n (fun cs => bc (hasY cs) (k (.val (.str (getY cs)) H)) none) a) a
      | _ => none)
    | _ => none)
  | .slice e, .str s => (match si.d with
    | .str => ob (E.ty e) fun ei => (match ei.d with
      | .int .u8 => bc (roomy (lenU s) 1) (k (.val (.sl H.next 0 (lenU s) none) (H.new (.cells (lenU s) (Tr.nil.putAll 0 (s.map byteAV)) e (some 1) 0 false true)))) none
      | _ => none)
    | _ => none)
  | _, _ => ob (xOp o E H fr) k
def kNext (x : Operand) : KF α := fun E H fr k => ob (opdR E fr x) fun a => match a with
  | .ptr id 0 => (match H.get id with
    | some (.siter s pos) => bc (Nat.blt pos (lenU s)) (bc (Nat.blt (byteAt s pos).toNat 128) (k (.val (.tup [.bool true, .int .i64 (Int.ofNat pos), .int .i32 (Int.ofNat (byteAt s pos).toNat)]) (H.put id (.siter s (Nat.succ pos))))) none) (k (.val (.tup [.bool false]) H))
    | _ => none)
  | _ => none
def kOp (o : Oper) : KF α :=
  match o.op with
  | .call c => kCall c o
  | .convert s d x => kConv s d x o
  | .next x b => bc b (kNext x) (fun E H fr k => ob (xOp o E H fr) k)
  | .pick c a b => kPick c a b
  | .load t a => kLoad t a
  | .store t a x => kStore t a x
  | .indexAddr t x i => kIndexAddr t x i
  | .index t x i => kIndex t x i
  | .slice t x lo hi mx => kSlice t x lo hi mx
  | .makeSlice t l c => kMake t l c
  | .binOp op t x y _ => kBin op t x y
  | _ => fun E H fr k => ob (xOp o E H fr) k
theorem nth_lt : ∀ {s : List UInt8} {i : Nat}, i < lenU s → ∃ b, nth s i = some b ∧ byteAt s i = b := by
  intro s
  induction s with
  | nil => intro i h; simp [lenU] at h
  | cons a s ih =>
    intro i h
    cases i with
    | zero => exact ⟨a, rfl, rfl⟩
    | succ i =>
      obtain ⟨b, h1, h2⟩ := ih (i := i) (by simpa [lenU] using h)
      exact ⟨b, h1, h2⟩
theorem bndK_some {top : Nat} {k : Nat → Option α} {v : AV} {r : α} (h : bndK top k v = some r) : ∃ n, bndV v top = some n ∧ k n = some r := by
  cases v <;> try (cases h; done)
  rename_i kd i
  simp only [bndK] at h
  rcases bc_some h with ⟨_, h⟩ | ⟨h1, h⟩
  · cases h
  · obtain ⟨h2, h⟩ := bc_none h
    exact ⟨i.toNat, by simp [bndV, h1, h2], h⟩
def loB (h : Nat) : Option AV → Option Nat
  | some v => bndV v h
  | none => some 0
theorem bnds_none (n : Nat) (lo : Option AV) {l : Nat} (h : loB n lo = some l) : bnds n n lo none none = some (l, n, n) := by
  unfold bnds
  cases lo with
  | none => cases h; rfl
  | some v =>
    have h : bndV v n = some l := h
    dsimp only
    rw [h]
theorem bnds_some (n c : Nat) (v : AV) (lo : Option AV) {m l : Nat} (hm : bndV v c = some m) (h : loB m lo = some l) : bnds n c lo (some v) none = some (l, m, c) := by
  unfold bnds
  dsimp only
  rw [hm]
  cases lo with
  | none => cases h; rfl
  | some u =>
    have h : bndV u m = some l := h
    dsimp only
    rw [h]
theorem hiK_some {len top : Nat} {k : Nat → Option α} {hi : Option AV} {r : α} (h : hiK len top k hi = some r) : ∃ n, (match hi with | some v => bndV v top | none => some len) = some n ∧ k n = some r := by
  cases hi with
  | none => exact ⟨len, rfl, h⟩
  | some v => exact bndK_some h
theorem loK_some {top : Nat} {f : Nat → Option α} {l : Option AV} {r : α} (h : loK top f l = some r) : ∃ n, loB top l = some n ∧ f n = some r := by
  cases l with
  | none => exact ⟨0, rfl, h⟩
  | some v => exact bndK_some h
theorem bnds_of (len c : Nat) (hi lo : Option AV) {m l : Nat} (hm : (match hi with | some v => bndV v c | none => some len) = some m) (h : loB m lo = some l) : bnds len c lo hi none = some (l, m, c) := by
  have low : (match (match lo with | some v => bndV v m | none => some 0) with | none => none | some l => some (l, m, c)) = some (l, m, c) := by
    cases lo with
    | none => cases h; rfl
    | some u =>
      have h : bndV u m = some l := h
      dsimp only
      rw [h]
  unfold bnds
  cases hi with
  | none =>
    have hm : some len = some m := hm
    cases hm
    exact low
  | some v =>
    have hm : bndV v c = some m := hm
    dsimp only
    rw [hm]
    exact low
theorem bc_some' {β : Type} {b : Bool} {x y : KF β} {E : Env} {H : AHeap} {fr : Tr AV} {k : ARes → Option β} {r : β} (h : bc b x y E H fr k = some r) : (b = true ∧ x E H fr k = some r) ∨ (b = false ∧ y E H fr k = some r) := by
  cases b
  · exact .inr ⟨rfl, h⟩
  · exact .inl ⟨rfl, h⟩
theorem kOp_some {E : Env} {H : AHeap} {fr : Tr AV} {o : Oper} {k : ARes → Option α} {r : α} (h : kOp o E H fr k = some r) : ∃ x, execA E H fr o = some x ∧ k x = some r := by
  have fall : ob (xOp o E H fr) k = some r → ∃ x, execA E H fr o = some x ∧ k x = some r := fun h => by
    obtain ⟨x, hx, h2⟩ := ob_some' h
    exact ⟨x, by rw [← execR_eq]; exact hx, h2⟩
  unfold kOp at h
  cases hop : o.op <;> simp only [hop] at h <;> first | exact fall h | skip
  case call c =>
    unfold kCall at h
    rcases bc_some' h with ⟨h1, h⟩ | ⟨_, h⟩
    · unfold execA; rw [hop]; dsimp only
      have hc : c.callee = .builtin .append := by
        unfold isApp at h1
        split at h1
        · assumption
        · cases h1
      rw [hc]; dsimp only
      unfold kAppend at h
      split at h
      case h_2 => cases h
      rename_i t u ts hts
      rw [opdsR_eq] at h
      replace h := ob_some' h
      obtain ⟨l, hl, h⟩ := h
      split at h
      case h_2 => cases h
      rename_i s x
      replace h := ob_some' h
      obtain ⟨ti, ht, h⟩ := h
      split at h
      case h_2 => cases h
      rename_i e hd
      replace h := ob_some' h
      obtain ⟨ei, he, h⟩ := h
      rcases bc_some h with ⟨h2, h⟩ | ⟨h2, h⟩
      · replace h := trimK_some h
        replace h := lenK_some h
        obtain ⟨m, hm, h⟩ := h
        obtain ⟨news, hn, h⟩ := cellsK_some h (fun s e => by subst e; simp only [lenA, Option.some.injEq] at hm; exact hm.symm)
        replace h := appK_some h
        obtain ⟨v, H', ha, h⟩ := h
        refine ⟨_, ?_, h⟩
        rw [hl, hts]
        simp only [builtinA, appendA, ht, hd, he, h2, cond_true, hm, hn, ha, vhh]
      · replace h := bc_none h
        obtain ⟨h3, h⟩ := h
        split at h
        case h_2 => cases h
        rename_i kx n
        replace h := bc_none h
        obtain ⟨h4, h⟩ := h
        replace h := trimK_some h
        replace h := appK_some h
        obtain ⟨v, H', ha, h⟩ := h
        refine ⟨_, ?_, h⟩
        rw [hl, hts]
        simp only [builtinA, appendA, ht, hd, he, h2, h3, h4, cond_true, cond_false, ha, vhh]
    rcases bc_some' h with ⟨h1, h⟩ | ⟨_, h⟩
    · unfold execA; rw [hop]; dsimp only
      have hc : c.callee = .builtin .copy := by
        unfold isCopy at h1
        split at h1
        · assumption
        · cases h1
      rw [hc]; dsimp only
      unfold kCopy at h
      split at h
      case h_2 => cases h
      rename_i t ts hts
      rw [opdsR_eq] at h
      replace h := ob_some' h
      obtain ⟨l, hl, h⟩ := h
      split at h
      case h_2 => cases h
      rename_i d s
      replace h := ob_some' h
      obtain ⟨ti, ht, h⟩ := h
      split at h
      case h_2 => cases h
      rename_i e hd
      replace h := ob_some' h
      obtain ⟨ei, he, h⟩ := h
      replace h := lenK_some h
      obtain ⟨dn, hdn, h⟩ := h
      replace h := lenK_some h
      obtain ⟨sn, hsn, h⟩ := h
      have key : ∃ v H', copyA E H t d s = some (v, H') ∧ k (.val v H') = some r := by
        obtain ⟨h2, h⟩ := bc_none h
        rw [Nat.ble_eq] at h2
        exact cpK_some ht hd he hdn hsn (Nat.min_eq_left h2) h
      obtain ⟨v, H', ha, h⟩ := key
      refine ⟨_, ?_, h⟩
      rw [hl, hts]
      simp only [builtinA, ha, vhh]
    · exact fall h
  case convert s d x =>
    unfold kConv at h
    rw [opdR_eq] at h
    replace h := ob_some' h
    obtain ⟨a, ha, h⟩ := h
    replace h := ob_some' h
    obtain ⟨si, hsi, h⟩ := h
    replace h := ob_some' h
    obtain ⟨di, hdi, h⟩ := h
    have noU : isPU di.d = false → convertU E H s d a = none := fun h1 => by
      unfold convertU
      simp only [hsi, hdi]
      cases hd : di.d <;> rw [hd] at h1 <;> first | (cases h1; done) | (cases si.d <;> rfl)
    have fin : ∀ {v : AV} {H' : AHeap}, convertU E H s d a = none → convertA E H s d a = some (v, H') → execA E H fr o = some (.val v H') := fun h1 h2 => by
      unfold execA; rw [hop]; dsimp only
      simp only [ha, h1, h2, vhh]
    split at h
    · rename_i kd kn n hd
      refine ⟨_, fin (noU (by rw [hd]; rfl)) ?_, h⟩
      simp only [convertA, hsi, hdi, hd, wrapR_eq]
    · rename_i kn n hd
      replace h := bc_none h
      obtain ⟨h1, h⟩ := h
      refine ⟨_, fin (noU (by rw [hd]; rfl)) ?_, h⟩
      simp only [convertA, hsi, hdi, hd, h1, cond_true]
    · rename_i str hd
      refine ⟨_, fin (noU (by rw [hd]; rfl)) ?_, h⟩
      simp only [convertA, hsi, hdi, hd]
    · rename_i a _ _ hd hni hns
      split at h
      case h_2 => cases h
      rename_i e hs
      replace h := ob_some' h
      obtain ⟨ei, he, h⟩ := h
      split at h
      case h_2 => cases h
      rename_i hei
      replace h := lenK_some h
      obtain ⟨n, hn, h⟩ := h
      obtain ⟨cs, hcs, h⟩ := cellsK_some h (fun s e => absurd e (hns s))
      replace h := bc_none h
      obtain ⟨h1, h⟩ := h
      refine ⟨_, fin (noU (by rw [hd]; rfl)) ?_, h⟩
      clear fin noU fall ha
      cases a <;> first | (cases hn; done) | exact absurd rfl (hns _) | exact absurd rfl (hni _ _) | simp only [convertA, hsi, hdi, hd, hs, he, hei, hn, hcs, hasY_eq h1]
    · rename_i e str hd
      split at h
      case h_2 => cases h
      rename_i hs
      replace h := ob_some' h
      obtain ⟨ei, he, h⟩ := h
      split at h
      case h_2 => cases h
      rename_i hei
      replace h := bc_none h
      obtain ⟨h1, h⟩ := h
      refine ⟨_, fin (noU (by rw [hd]; rfl)) ?_, h⟩
      simp only [convertA, hsi, hdi, hd, he, hei, hs, h1, cond_true]
    · exact fall h
  case next x b =>
    rcases bc_some' h with ⟨h1, h2⟩ | ⟨_, h⟩
    · subst h1
      clear h
      have h := h2
      clear h2
      unfold execA; rw [hop]; dsimp only
      unfold kNext at h
      rw [opdR_eq] at h
      replace h := ob_some' h
      obtain ⟨a, ha, h⟩ := h
      split at h
      case h_2 => cases h
      rename_i id
      split at h
      case h_2 => cases h
      rename_i str pos hget
      simp only [ha, hget]
      rcases bc_some h with ⟨h1, h⟩ | ⟨h1, h⟩
      · replace h := bc_none h
        obtain ⟨h2, h⟩ := h
        rw [Nat.blt_eq] at h1
        obtain ⟨c, hc1, hc2⟩ := nth_lt h1
        rw [hc2] at h h2
        exact ⟨_, by simp only [hc1, h2, cond_true], h⟩
      · have h1' : ¬ pos < lenU str := fun hlt => by rw [← Nat.blt_eq, h1] at hlt; cases hlt
        have : nth str pos = none := by rw [nth_eq, List.getElem?_eq_none_iff]; simpa [lenU] using h1'
        exact ⟨_, by simp only [this], h⟩
    · exact fall h
  case pick c a b =>
    unfold execA; rw [hop]; dsimp only
    simp only [kPick, opdR_eq] at h
    replace h := ob_some' h
    obtain ⟨v, hv, h⟩ := h
    rw [hv]
    cases v <;> try (cases h; done)
    rename_i t
    rcases bc_some h with ⟨rfl, h⟩ | ⟨rfl, h⟩
    · replace h := ob_some' h
      obtain ⟨u, hu, h⟩ := h
      exact ⟨_, by simp [hu, vh], h⟩
    · replace h := ob_some' h
      obtain ⟨u, hu, h⟩ := h
      exact ⟨_, by simp [hu, vh], h⟩
  case load t a =>
    unfold execA; rw [hop]; dsimp only
    simp only [kLoad, opdR_eq] at h
    replace h := ob_some' h
    obtain ⟨p, hp, h⟩ := h
    obtain ⟨v, hv, h⟩ := loadKK_some h
    exact ⟨_, by simp [hp, hv, vh], h⟩
  case store t a x =>
    unfold execA; rw [hop]; dsimp only
    simp only [kStore, opdR_eq] at h
    replace h := ob_some' h
    obtain ⟨p, hp, h⟩ := h
    replace h := ob_some' h
    obtain ⟨v, hv, h⟩ := h
    cases p <;> try (cases h; done)
    rename_i id off
    replace h := ob_some' h
    obtain ⟨ti, ht, h⟩ := h
    unfold stK at h
    split at h
    case h_2 => cases h
    rename_i n c e g fz ro mk hget
    obtain ⟨h1, h⟩ := bc_none h
    obtain ⟨h2, h⟩ := bc_none h
    obtain ⟨h3, h⟩ := bc_none h
    simp only [Bool.and_eq_true] at h1 h3
    refine ⟨_, ?_, h⟩
    simp [hp, hv, storeVarA, ht, hget, h1.1, h1.2, h2, h3.1, h3.2]
  case indexAddr t x i =>
    unfold execA; rw [hop]; dsimp only
    simp only [kIndexAddr, opdR_eq] at h
    replace h := ob_some' h
    obtain ⟨a, ha, h⟩ := h
    replace h := ob_some' h
    obtain ⟨b, hb, h⟩ := h
    replace h := ob_some' h
    obtain ⟨ti, ht, h⟩ := h
    have go : ∀ {ei : ATy} {id off len : Nat} {i : Int}, idxK ei id off len i H k = some r → (ilt i 0 = false ∧ Nat.blt i.toNat len = true) ∧ k (.val (.ptr id (off + i.toNat * ei.size)) H) = some r := by
      intro ei id off len i h
      unfold idxK at h
      rcases bc_some h with ⟨_, h⟩ | ⟨h1, h⟩
      · cases h
      · obtain ⟨h2, h⟩ := bc_none h
        exact ⟨⟨h1, h2⟩, h⟩
    split at h
    · rename_i n e id off kd i hd
      replace h := ob_some' h
      obtain ⟨ei, he, h⟩ := h
      obtain ⟨⟨h1, h2⟩, h⟩ := go h
      exact ⟨_, by simp [ha, hb, indexAddrA, ht, hd, he, h1, h2, vh], h⟩
    · rename_i e id off len cap kd i hd
      replace h := ob_some' h
      obtain ⟨ei, he, h⟩ := h
      obtain ⟨⟨h1, h2⟩, h⟩ := go h
      exact ⟨_, by simp [ha, hb, indexAddrA, ht, hd, he, h1, h2, vh], h⟩
    · cases h
  case index t x i =>
    unfold execA; rw [hop]; dsimp only
    simp only [kIndex, opdR_eq] at h
    replace h := ob_some' h
    obtain ⟨a, ha, h⟩ := h
    replace h := ob_some' h
    obtain ⟨b, hb, h⟩ := h
    replace h := ob_some' h
    obtain ⟨ti, ht, h⟩ := h
    split at h
    · rename_i s kd i hd
      rcases bc_some h with ⟨_, h⟩ | ⟨h1, h⟩
      · cases h
      · obtain ⟨h2, h⟩ := bc_none h
        rw [Nat.blt_eq] at h2
        obtain ⟨c, hc1, hc2⟩ := nth_lt h2
        refine ⟨_, ?_, h⟩
        simp [ha, hb, indexA, ht, hd, h1, hc1, hc2, vh]
    · replace h := ob_some' h
      obtain ⟨v, hv, h⟩ := h
      exact ⟨_, by simp [ha, hb, hv, vh], h⟩
  case slice t x lo hi mx =>
    unfold execA; rw [hop]; dsimp only
    have oe : ∀ y, optR E fr y = optOpd E fr y := fun y => by
      cases y with
      | none => rfl
      | some y => simp only [optR, optOpd, opdR_eq]; cases opd E fr y <;> rfl
    simp only [kSlice, opdR_eq, oe] at h
    replace h := ob_some' h
    obtain ⟨a, ha, h⟩ := h
    replace h := ob_some' h
    obtain ⟨l, hl, h⟩ := h
    replace h := ob_some' h
    obtain ⟨hh, hhh, h⟩ := h
    replace h := ob_some' h
    obtain ⟨m, hm, h⟩ := h
    replace h := ob_some' h
    obtain ⟨ti, ht, h⟩ := h
    have lo_some : ∀ {top : Nat} {f : Nat → Option α} {l : Option AV}, loK top f l = some r → ∃ n, loB top l = some n ∧ f n = some r := by
      intro top f l h
      cases l with
      | none => exact ⟨0, rfl, h⟩
      | some v => exact bndK_some h
    split at h
    · rename_i s hd
      split at h
      · obtain ⟨n, hn, h⟩ := lo_some h
        refine ⟨_, ?_, h⟩
        simp only [ha, hl, hhh, hm, sliceA, ht, hd, bnds_none _ _ hn, vh]
      · rename_i hv
        obtain ⟨n1, hn1, h⟩ := bndK_some h
        obtain ⟨n, hn, h⟩ := lo_some h
        refine ⟨_, ?_, h⟩
        simp only [ha, hl, hhh, hm, sliceA, ht, hd, bnds_some _ _ _ _ hn1 hn, vh]
        rfl
    · rename_i e id off len c hd
      replace h := ob_some' h
      obtain ⟨ei, he, h⟩ := h
      replace h := hiK_some h
      obtain ⟨n1, hn1, h⟩ := h
      replace h := loK_some h
      obtain ⟨n, hn, h⟩ := h
      have e1 := bnds_of len c hh l hn1 hn
      refine ⟨_, ?_, h⟩
      simp only [ha, hl, hhh, hm, sliceA, ht, hd, he, e1, vh]
      cases h1 : Nat.beq c n <;> simp only [cn] <;> rfl
    · rename_i e id off len hd
      replace h := ob_some' h
      obtain ⟨ei, he, h⟩ := h
      unfold growSlK at h
      split at h
      case h_2 => cases h
      rename_i nn cc ee gs fz ro mk hget
      replace h := bc_none h
      obtain ⟨h1, h⟩ := h
      replace h := bc_none h
      obtain ⟨h2, h⟩ := h
      replace h := hiK_some h
      obtain ⟨n1, hn1, h⟩ := h
      replace h := loK_some h
      obtain ⟨n, hn, h⟩ := h
      have e1 : bnds len ((nn - off) / gs) l hh none = some (n, n1, (nn - off) / gs) := bnds_of len _ hh l hn1 hn
      rw [Bool.and_eq_true] at h1
      have h2' : Nat.ble (off + len * gs) nn = true := h2
      rcases bc_some h with ⟨h3, h⟩ | ⟨h3, h⟩
      · have h3' : (Nat.blt (off + n * gs) nn || Nat.beq n 0) = true := h3
        exact ⟨_, by simp only [ha, hl, hhh, hm, sliceA, ht, hd, he, hget, h1.1, h1.2, h2', e1, h3', Bool.and_self, cond_true, vh]; rfl, h⟩
      · have h3' : (Nat.blt (off + n * gs) nn || Nat.beq n 0) = false := h3
        exact ⟨_, by simp only [ha, hl, hhh, hm, sliceA, ht, hd, he, hget, h1.1, h1.2, h2', e1, h3', Bool.and_self, cond_true, cond_false, vh], h⟩
    · replace h := ob_some' h
      obtain ⟨v, hv, h⟩ := h
      exact ⟨_, by simp [ha, hl, hhh, hm, hv, vh], h⟩
  case makeSlice t l c =>
    unfold execA; rw [hop]; dsimp only
    simp only [kMake, opdR_eq] at h
    replace h := ob_some' h
    obtain ⟨a, ha, h⟩ := h
    replace h := ob_some' h
    obtain ⟨b, hb, h⟩ := h
    replace h := ob_some' h
    obtain ⟨ti, ht, h⟩ := h
    split at h
    · rename_i e kd li kd2 ci hd
      replace h := ob_some' h
      obtain ⟨ei, he, h⟩ := h
      rcases bc_some h with ⟨_, h⟩ | ⟨h1, h⟩
      · cases h
      · rcases bc_some h with ⟨_, h⟩ | ⟨h2, h⟩
        · cases h
        · obtain ⟨h3, h⟩ := bc_none h
          exact ⟨_, by simp [ha, hb, ht, hd, he, h1, h2, h3], h⟩
    · cases h
  case binOp op t x y z =>
    replace h := ob_some' h
    obtain ⟨a, ha, h⟩ := h
    replace h := ob_some' h
    obtain ⟨b, hb, h⟩ := h
    replace h := ob_some' (binKK_some h)
    obtain ⟨v, hv, h⟩ := h
    have he := execR_eq E H fr o
    unfold execR xOp at he
    rw [hop] at he
    simp only [xBin, ha, hb, ob_some, hv] at he
    exact ⟨v, he.symm, h⟩
end
end
end Go.Vai
end
