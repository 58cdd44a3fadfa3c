/- The interpreter once more, word for word the same by what it answers, but laid so that the kernel carries it with few steps.
Triples over the interpreter's states, up to the names of objects: what a piece of code does from a state, loops by a relation and a measure.
The interpreter in the form of a tree: it carries on with values that are not known, and answers by tests on them (a test's false side is none where nothing is said). What it answers, the interpreter answers. -/
import Derived.Test.YtdpkmhnpbbapcaaDoorVaiE
section
namespace Go.Vai
noncomputable section
def ob {α β : Type} (x : Option α) (f : α → Option β) : Option β := Option.rec (motive := fun _ => Option β) none f x
theorem Xk {α β : Type} (v : α) (f : α → Option β) : ob (some v) f = f v := rfl
def bc {α : Type} (b : Bool) (x y : α) : α := Bool.rec (motive := fun _ => α) y x b
theorem Q4 {α : Type} (b : Bool) (x y : α) : bc b x y = bif b then x else y := by cases b <;> rfl
def Zjf (v : AV) : (IntKind → Int → Option AV) → Option AV → Option AV :=
  AV.rec (motive_1 := fun _ => (IntKind → Int → Option AV) → Option AV → Option AV) (motive_2 := fun _ => Unit) (fun _ _ d => d) (fun x0 x1 f _ => f x0 x1) (fun _ _ d => d) (fun _ d => d) (fun _ _ _ d => d) (fun _ d => d) (fun _ _ _ _ _ d => d) (fun _ d => d) (fun _ d => d) (fun _ _ _ _ _ _ d => d) (fun _ _ d => d) (fun _ d => d) (fun _ _ _ _ d => d) (fun _ _ _ d => d) (fun _ _ _ d => d) (fun _ d => d) (fun _ _ d => d) (fun _ _ d => d) (fun _ _ _ _ _ _ _ d => d) () (fun _ _ _ _ => ()) v
def Ycx (v : AV) : (List UInt8 → Option AV) → Option AV → Option AV :=
  AV.rec (motive_1 := fun _ => (List UInt8 → Option AV) → Option AV → Option AV) (motive_2 := fun _ => Unit) (fun _ _ d => d) (fun _ _ _ d => d) (fun x0 f _ => f x0) (fun _ d => d) (fun _ _ _ d => d) (fun _ d => d) (fun _ _ _ _ _ d => d) (fun _ d => d) (fun _ d => d) (fun _ _ _ _ _ _ d => d) (fun _ _ d => d) (fun _ d => d) (fun _ _ _ _ d => d) (fun _ _ _ d => d) (fun _ _ _ d => d) (fun _ d => d) (fun _ _ d => d) (fun _ _ d => d) (fun _ _ _ _ _ _ _ d => d) () (fun _ _ _ _ => ()) v
def Zsx (v : AV) : (Nat → Nat → Option AV) → Option AV → Option AV :=
  AV.rec (motive_1 := fun _ => (Nat → Nat → Option AV) → Option AV → Option AV) (motive_2 := fun _ => Unit) (fun _ _ d => d) (fun _ _ _ d => d) (fun _ _ d => d) (fun _ d => d) (fun x0 x1 f _ => f x0 x1) (fun _ d => d) (fun _ _ _ _ _ d => d) (fun _ d => d) (fun _ d => d) (fun _ _ _ _ _ _ d => d) (fun _ _ d => d) (fun _ d => d) (fun _ _ _ _ d => d) (fun _ _ _ d => d) (fun _ _ _ d => d) (fun _ d => d) (fun _ _ d => d) (fun _ _ d => d) (fun _ _ _ _ _ _ _ d => d) () (fun _ _ _ _ => ()) v
def Yhj (v : AV) : (Nat → Nat → Nat → Option Nat → Option AV) → Option AV → Option AV :=
  AV.rec (motive_1 := fun _ => (Nat → Nat → Nat → Option Nat → Option AV) → Option AV → Option AV) (motive_2 := fun _ => Unit) (fun _ _ d => d) (fun _ _ _ d => d) (fun _ _ d => d) (fun _ d => d) (fun _ _ _ d => d) (fun _ d => d) (fun x0 x1 x2 x3 f _ => f x0 x1 x2 x3) (fun _ d => d) (fun _ d => d) (fun _ _ _ _ _ _ d => d) (fun _ _ d => d) (fun _ d => d) (fun _ _ _ _ d => d) (fun _ _ _ d => d) (fun _ _ _ d => d) (fun _ d => d) (fun _ _ d => d) (fun _ _ d => d) (fun _ _ _ _ _ _ _ d => d) () (fun _ _ _ _ => ()) v
def Ye4 (v : AV) : (Nat → Nat → Option AHeap) → Option AHeap → Option AHeap :=
  AV.rec (motive_1 := fun _ => (Nat → Nat → Option AHeap) → Option AHeap → Option AHeap) (motive_2 := fun _ => Unit) (fun _ _ d => d) (fun _ _ _ d => d) (fun _ _ d => d) (fun _ d => d) (fun x0 x1 f _ => f x0 x1) (fun _ d => d) (fun _ _ _ _ _ d => d) (fun _ d => d) (fun _ d => d) (fun _ _ _ _ _ _ d => d) (fun _ _ d => d) (fun _ d => d) (fun _ _ _ _ d => d) (fun _ _ _ d => d) (fun _ _ _ d => d) (fun _ d => d) (fun _ _ d => d) (fun _ _ d => d) (fun _ _ _ _ _ _ _ d => d) () (fun _ _ _ _ => ()) v
def Z8e (v : AV) : (Bool → Option ARes) → Option ARes → Option ARes :=
  AV.rec (motive_1 := fun _ => (Bool → Option ARes) → Option ARes → Option ARes) (motive_2 := fun _ => Unit) (fun x0 f _ => f x0) (fun _ _ _ d => d) (fun _ _ d => d) (fun _ d => d) (fun _ _ _ d => d) (fun _ d => d) (fun _ _ _ _ _ d => d) (fun _ d => d) (fun _ d => d) (fun _ _ _ _ _ _ d => d) (fun _ _ d => d) (fun _ d => d) (fun _ _ _ _ d => d) (fun _ _ _ d => d) (fun _ _ _ d => d) (fun _ d => d) (fun _ _ d => d) (fun _ _ d => d) (fun _ _ _ _ _ _ _ d => d) () (fun _ _ _ _ => ()) v
def Yb7 (v : AV) : (List AV → Option ARes) → Option ARes → Option ARes :=
  AV.rec (motive_1 := fun _ => (List AV → Option ARes) → Option ARes → Option ARes) (motive_2 := fun _ => Unit) (fun _ _ d => d) (fun _ _ _ d => d) (fun _ _ d => d) (fun _ d => d) (fun _ _ _ d => d) (fun _ d => d) (fun _ _ _ _ _ d => d) (fun _ d => d) (fun _ d => d) (fun _ _ _ _ _ _ d => d) (fun _ _ d => d) (fun _ d => d) (fun _ _ _ _ d => d) (fun _ _ _ d => d) (fun x0 _ f _ => f x0) (fun _ d => d) (fun _ _ d => d) (fun _ _ d => d) (fun _ _ _ _ _ _ _ d => d) () (fun _ _ _ _ => ()) v
def Z9b (v : AV) : (Bool → Option TRes) → Option TRes → Option TRes :=
  AV.rec (motive_1 := fun _ => (Bool → Option TRes) → Option TRes → Option TRes) (motive_2 := fun _ => Unit) (fun x0 f _ => f x0) (fun _ _ _ d => d) (fun _ _ d => d) (fun _ d => d) (fun _ _ _ d => d) (fun _ d => d) (fun _ _ _ _ _ d => d) (fun _ d => d) (fun _ d => d) (fun _ _ _ _ _ _ d => d) (fun _ _ d => d) (fun _ d => d) (fun _ _ _ _ d => d) (fun _ _ _ d => d) (fun _ _ _ d => d) (fun _ d => d) (fun _ _ d => d) (fun _ _ d => d) (fun _ _ _ _ _ _ _ d => d) () (fun _ _ _ _ => ()) v
def Z5u (v : AV) : (Bool → Option Bool) → Option Bool → Option Bool :=
  AV.rec (motive_1 := fun _ => (Bool → Option Bool) → Option Bool → Option Bool) (motive_2 := fun _ => Unit) (fun x0 f _ => f x0) (fun _ _ _ d => d) (fun _ _ d => d) (fun _ d => d) (fun _ _ _ d => d) (fun _ d => d) (fun _ _ _ _ _ d => d) (fun _ d => d) (fun _ d => d) (fun _ _ _ _ _ _ d => d) (fun _ _ d => d) (fun _ d => d) (fun _ _ _ _ d => d) (fun _ _ _ d => d) (fun _ _ _ d => d) (fun _ d => d) (fun _ _ d => d) (fun _ _ d => d) (fun _ _ _ _ _ _ _ d => d) () (fun _ _ _ _ => ()) v
def Yeb (v : AV) : (List AV → Option Bool) → Option Bool → Option Bool :=
  AV.rec (motive_1 := fun _ => (List AV → Option Bool) → Option Bool → Option Bool) (motive_2 := fun _ => Unit) (fun _ _ d => d) (fun _ _ _ d => d) (fun _ _ d => d) (fun _ d => d) (fun _ _ _ d => d) (fun _ d => d) (fun _ _ _ _ _ d => d) (fun _ d => d) (fun _ d => d) (fun _ _ _ _ _ _ d => d) (fun _ _ d => d) (fun _ d => d) (fun _ _ _ _ d => d) (fun _ _ _ d => d) (fun x0 _ f _ => f x0) (fun _ d => d) (fun _ _ d => d) (fun _ _ d => d) (fun _ _ _ _ _ _ _ d => d) () (fun _ _ _ _ => ()) v
def Yhp (v : AV) : (FuncId → List AV → List AV → Option ARes) → Option ARes → Option ARes :=
  AV.rec (motive_1 := fun _ => (FuncId → List AV → List AV → Option ARes) → Option ARes → Option ARes) (motive_2 := fun _ => Unit) (fun _ _ d => d) (fun _ _ _ d => d) (fun _ _ d => d) (fun _ d => d) (fun _ _ _ d => d) (fun _ d => d) (fun _ _ _ _ _ d => d) (fun _ d => d) (fun _ d => d) (fun x0 x1 x2 _ _ f _ => f x0 x1 x2) (fun _ _ d => d) (fun _ d => d) (fun _ _ _ _ d => d) (fun _ _ _ d => d) (fun _ _ _ d => d) (fun _ d => d) (fun _ _ d => d) (fun _ _ d => d) (fun _ _ _ _ _ _ _ d => d) () (fun _ _ _ _ => ()) v
def Yec (v : AV) : (Nat → Option ARes) → Option ARes → Option ARes :=
  AV.rec (motive_1 := fun _ => (Nat → Option ARes) → Option ARes → Option ARes) (motive_2 := fun _ => Unit) (fun _ _ d => d) (fun _ _ _ d => d) (fun _ _ d => d) (fun _ d => d) (fun _ _ _ d => d) (fun _ d => d) (fun _ _ _ _ _ d => d) (fun _ d => d) (fun _ d => d) (fun _ _ _ _ _ _ d => d) (fun x0 f _ => f x0) (fun _ d => d) (fun _ _ _ _ d => d) (fun _ _ _ d => d) (fun _ _ _ d => d) (fun _ d => d) (fun _ _ d => d) (fun _ _ d => d) (fun _ _ _ _ _ _ _ d => d) () (fun _ _ _ _ => ()) v
def Zzj (v : AD) : (Nat → Option AV) → Option AV → Option AV :=
  AD.rec (motive := fun _ => (Nat → Option AV) → Option AV → Option AV) (fun _ _ d => d) (fun _ d => d) (fun _ d => d) (fun _ _ d => d) (fun x0 f _ => f x0) (fun _ _ _ d => d) (fun _ _ _ d => d) (fun _ d => d) (fun _ d => d) (fun _ d => d) (fun _ d => d) (fun _ _ _ d => d) v
def Ye5 (v : AD) : (Nat → Nat → Option AV) → Option AV → Option AV :=
  AD.rec (motive := fun _ => (Nat → Nat → Option AV) → Option AV → Option AV) (fun _ _ d => d) (fun _ d => d) (fun _ d => d) (fun _ _ d => d) (fun _ _ d => d) (fun x0 x1 f _ => f x0 x1) (fun _ _ _ d => d) (fun _ d => d) (fun _ d => d) (fun _ d => d) (fun _ d => d) (fun _ _ _ d => d) v
def Zx3 (v : AD) : (List (Nat × Nat) → Bool → Option AV) → Option AV → Option AV :=
  AD.rec (motive := fun _ => (List (Nat × Nat) → Bool → Option AV) → Option AV → Option AV) (fun _ _ d => d) (fun _ d => d) (fun _ d => d) (fun _ _ d => d) (fun _ _ d => d) (fun _ _ _ d => d) (fun x0 x1 f _ => f x0 x1) (fun _ d => d) (fun _ d => d) (fun _ d => d) (fun _ d => d) (fun _ _ _ d => d) v
def Zzg (v : AD) : Option AV → Option AV → Option AV :=
  AD.rec (motive := fun _ => Option AV → Option AV → Option AV) (fun _ _ d => d) (fun _ d => d) (fun f _ => f) (fun _ _ d => d) (fun _ _ d => d) (fun _ _ _ d => d) (fun _ _ _ d => d) (fun _ d => d) (fun _ d => d) (fun _ d => d) (fun _ d => d) (fun _ _ _ d => d) v
def Z7i : IntKind → Nat
  | .i8 => 128 | .i16 => 32768 | .i32 => 2147483648 | .i64 => 9223372036854775808 | .u8 => 256 | .u16 => 65536 | .u32 => 4294967296 | .u64 => 18446744073709551616
def Z63 : IntKind → Nat
  | .i8 => 128 | .i16 => 32768 | .i32 => 2147483648 | .i64 => 9223372036854775808 | .u8 => 0 | .u16 => 0 | .u32 => 0 | .u64 => 0
def inR (k : IntKind) (n : Int) : Bool := Int.rec (motive := fun _ => Bool) (fun m => Nat.blt m (Z7i k)) (fun m => Nat.blt m (Z63 k)) n
def Zf (k : IntKind) (n : Int) : Int := bc (inR k n) n (k.wrap n)
theorem Qx (k : IntKind) (n : Int) : Zf k n = k.wrap n := by
  unfold Zf
  cases h : inR k n with
  | false => rfl
  | true =>
    show n = _
    have b : -(Z63 k : Int) ≤ n ∧ n < Z7i k := by
      cases n with
      | ofNat m =>
        have h' : Nat.blt m (Z7i k) = true := h
        rw [Nat.blt_eq] at h'
        constructor
        · have : (0 : Int) ≤ Int.ofNat m := Int.natCast_nonneg m
          omega
        · exact Int.ofNat_lt.2 h'
      | negSucc m =>
        have h' : Nat.blt m (Z63 k) = true := h
        rw [Nat.blt_eq] at h'
        have : Int.negSucc m = -((m : Int) + 1) := Int.negSucc_eq m
        constructor <;> omega
    symm
    cases k <;> simp only [Z7i, Z63] at b
    · exact IntWalk.i8_in n (by omega)
    · exact IntWalk.i16_in n (by omega)
    · exact IntWalk.i32_in n (by omega)
    · exact IntWalk.i64_in n (by omega)
    · exact IntWalk.u8_in n (by omega)
    · exact IntWalk.u16_in n (by omega)
    · exact IntWalk.u32_in n (by omega)
    · exact IntWalk.u64_in n (by omega)
def Zu4 (op : BinOp) : IntKind → Int → Int → Option AV :=
  BinOp.rec (motive := fun _ => IntKind → Int → Int → Option AV) (fun k x y => some (.int k (Zf k (Int.add x y))))
    (fun k x y => some (.int k (Zf k (Int.sub x y))))
    (fun k x y => some (.int k (Zf k (Int.mul x y))))
    (fun k x y => W9 .quo k x y)
    (fun k x y => W9 .rem k x y)
    (fun k x y => W9 .and k x y)
    (fun k x y => W9 .or k x y)
    (fun k x y => W9 .xor k x y)
    (fun k x y => W9 .shl k x y)
    (fun k x y => W9 .shr k x y)
    (fun k x y => W9 .andNot k x y)
    (fun _ x y => some (.bool (Xz x y)))
    (fun _ x y => some (.bool (!(Xz x y))))
    (fun _ x y => some (.bool (Yc x y)))
    (fun _ x y => some (.bool (!(Yc y x))))
    (fun _ x y => some (.bool (Yc y x)))
    (fun _ x y => some (.bool (!(Yc x y)))) op
theorem Zqp (op : BinOp) (k : IntKind) (x y : Int) : Zu4 op k x y = W9 op k x y := by
  cases op <;> (try rfl) <;> (show some (AV.int k (Zf k _)) = _) <;> rw [Qx] <;> rfl
def Zoa : BinOp → Bool
  | .shl => true
  | .shr => true
  | _ => false
def K2 : AV → Bool
  | .nili => true
  | _ => false
def Yha (E : Env) (op : BinOp) (xt : TypeId) (a b : AV) (k : IntKind) (i : Int) : Option AV :=
  Zjf b (fun k' j => bc (Zoa op) (Kb E op xt (.int k i) (.int k' j)) (bc (sameKind k k') (Zu4 op k i j) none)) (Kb E op xt a b)
def Zvv (E : Env) (op : BinOp) (xt : TypeId) (a b : AV) : Option AV := Zjf a (fun k i => Yha E op xt a b k i) (Kb E op xt a b)
theorem Zgg (E : Env) (op : BinOp) (xt : TypeId) (a b : AV) : Zvv E op xt a b = Kb E op xt a b := by
  cases a <;> try rfl
  cases b <;> try rfl
  rename_i k i k' j
  show bc (Zoa op) (Kb E op xt (.int k i) (.int k' j)) (bc (sameKind k k') (Zu4 op k i j) none) = _
  rw [Zqp]
  cases op <;> simp only [Zoa, Q4, cond_true, cond_false, Kb]
def Xu (E : Env) (fr : Tr AV) (x : Operand) : Option AV :=
  Operand.rec (motive := fun _ => Env → Tr AV → Option AV) (fun t _ fr => fr.get t) (fun v _ _ => Wp v) (fun g E _ => bif Nat.blt g E.ng then some (.ptr g 0) else none) (fun f _ _ => some (.fn f [] [])) x E fr
theorem Ys (E : Env) (fr : Tr AV) (x : Operand) : Xu E fr x = X5 E fr x := by cases x <;> rfl
def Zfx (E : Env) (fr : Tr AV) (l : List Operand) : Option (List AV) :=
  List.rec (motive := fun _ => Option (List AV)) (some []) (fun x _ ih => ob (Xu E fr x) fun v => ob ih fun vs => some (v :: vs)) l
theorem Zbg (E : Env) (fr : Tr AV) : ∀ l : List Operand, Zfx E fr l = Zb8 E fr l
  | [] => rfl
  | x :: xs => by
    show ob (Xu E fr x) (fun v => ob (Zfx E fr xs) fun vs => some (v :: vs)) = _
    rw [Ys, Zbg]
    simp only [Zb8]
    cases X5 E fr x with
    | none => rfl
    | some v => cases Zb8 E fr xs <;> rfl
def Z2n (off : Nat) (ti : ATy) (c : Tr AV) : Option AV := bc ti.agg (ob (c.getAll off ti.size) fun l => some (.agg l)) (c.get off)
def Z9s (o : AObj) : Nat → ATy → Option AV :=
  AObj.rec (motive := fun _ => Nat → ATy → Option AV) (fun _ c _ _ _ _ _ off ti => Z2n off ti c) (fun _ _ _ _ _ _ _ _ _ _ => none) (fun _ _ _ _ => none) (fun _ _ => none) (fun _ _ _ _ _ => none) (fun _ _ _ _ _ _ => none) o
def Ya5 (E : Env) (H : AHeap) (t : TypeId) (p : AV) : Option AV := Zsx p (fun id off => ob (E.ty t) fun ti => ob (H.get id) fun o => Z9s o off ti) none
theorem Z3u (E : Env) (H : AHeap) (t : TypeId) (p : AV) : Ya5 E H t p = Q6 E H t p := by
  cases p <;> try rfl
  rename_i id off
  show (ob (E.ty t) fun ti => ob (H.get id) fun o => Z9s o off ti) = _
  simp only [Q6]
  cases E.ty t with
  | none => rfl
  | some ti =>
    cases H.get id with
    | none => rfl
    | some o =>
      cases o <;> try rfl
      rename_i n c e g fz ro mk
      show Z2n off ti c = _
      simp only [Z2n, Q4]
      cases ti.agg
      · rfl
      · simp only [cond_true]
        cases c.getAll off ti.size <;> rfl
def Zsc (H : AHeap) (ti : ATy) (id off : Nat) (vs : List AV) : AObj → Option AHeap
  | .cells n c e g fz ro mk => bc (Nat.beq vs.length ti.size && (vs.all AV.one && (Nat.ble (off + ti.size) n && (Nat.ble fz off && !ro)))) (some (H.put id (.cells n (c.putAll off vs) e g fz ro mk))) none
  | _ => none
def Z0z (E : Env) (H : AHeap) (t : TypeId) (v p : AV) : Option AHeap := Ye4 p (fun id off => ob (E.ty t) fun ti => ob (H.get id) fun o => Zsc H ti id off v.cells o) none
theorem Zxh (E : Env) (H : AHeap) (t : TypeId) (p v : AV) : Z0z E H t v p = Qp E H t p v := by
  cases p <;> try rfl
  rename_i id off
  show (ob (E.ty t) fun ti => ob (H.get id) fun o => Zsc H ti id off v.cells o) = _
  simp only [Qp]
  cases E.ty t with
  | none => rfl
  | some ti =>
    cases H.get id with
    | none => rfl
    | some o =>
      cases o <;> try rfl
      simp only [Xk, Zsc, Q4]
abbrev XF := Env → AHeap → Tr AV → Option ARes
def rv (H : AHeap) (v : AV) : Option ARes := some (.val v H)
theorem Zdu (H : AHeap) (x : Option AV) : (ob x fun v => rv H v) = vh H x := by cases x <;> rfl
def Zup (x : Operand) : XF := fun E H fr => ob (Xu E fr x) fun v => rv H v
def Ygo (E : Env) (H : AHeap) (fr : Tr AV) (a b : Operand) (v : AV) : Option ARes := Z8e v (fun c => bc c (ob (Xu E fr a) fun v => rv H v) (ob (Xu E fr b) fun v => rv H v)) none
def Yal (c a b : Operand) : XF := fun E H fr => ob (Xu E fr c) fun v => Ygo E H fr a b v
def Z92 (t : TypeId) (a : Operand) : XF := fun E H fr => ob (Xu E fr a) fun p => ob (Ya5 E H t p) fun v => rv H v
def Z2f (t : TypeId) (a x : Operand) : XF := fun E H fr => ob (Xu E fr a) fun p => ob (Xu E fr x) fun v => ob (Z0z E H t v p) fun H' => some (.skip H')
def Zlc (E : Env) (H : AHeap) (op : BinOp) (t : TypeId) (x y : Operand) (a b : AV) : Option ARes :=
  bc (K2 a && K2 b) (bc (isConst x || isConst y) (vh H (Kb E op t a b)) none) (ob (Zvv E op t a b) fun v => rv H v)
def Ydq (op : BinOp) (t : TypeId) (x y : Operand) : XF := fun E H fr => ob (Xu E fr x) fun a => ob (Xu E fr y) fun b => Zlc E H op t x y a b
def xUn (op : UnOp) (x : Operand) : XF := fun E H fr => ob (Xu E fr x) fun a => ob (unA op a) fun v => rv H v
def Zet (E : Env) (t : TypeId) (x : AV) (f : Nat) : Option AV := ob (E.ty t) fun ti => Zsx x (fun id off => Zx3 ti.d (fun fs _ => ob (Zh8 fs f) fun p => ob (E.ty p.2) fun fi => bc (Nat.beq fi.size 0) none (some (.ptr id (Nat.add off p.1)))) none) none
theorem Zk6 (E : Env) (t : TypeId) (x : AV) (f : Nat) : Zet E t x f = Kz E t x f := by
  unfold Zet Kz
  cases E.ty t with
  | none => rfl
  | some ti =>
    simp only [Xk]
    cases x <;> (try (cases ti.d <;> rfl; done))
    rename_i id off
    obtain ⟨d, a1, a2, a3, a4, a5⟩ := ti
    cases d <;> try rfl
    rename_i fs q
    show (ob (Zh8 fs f) fun p => ob (E.ty p.2) fun fi => bc (Nat.beq fi.size 0) none (some (AV.ptr id (Nat.add off p.1)))) = _
    dsimp only
    cases Zh8 fs f with
    | none => rfl
    | some p =>
      obtain ⟨o, ft⟩ := p
      simp only [Xk]
      cases E.ty ft with
      | none => rfl
      | some fi => simp only [Xk, Q4]; rfl
def Zjv (t : TypeId) (x : Operand) (f : Nat) : XF := fun E H fr => ob (Xu E fr x) fun a => ob (Zet E t a f) fun v => rv H v
def Z1x (t : TypeId) (x : Operand) (f : Nat) : XF := fun E H fr => ob (Xu E fr x) fun a => ob (Znh E t a f) fun v => rv H v
def Zvo (E : Env) (e id off len n : Nat) : Option AV := ob (E.ty e) fun ei => bc (Nat.blt n len) (some (.ptr id (off + n * ei.size))) none
def Zex (E : Env) (t : TypeId) (x i : AV) : Option AV := ob (E.ty t) fun ti => Zjf i (fun _ n => bc (Yc n 0) none (Zzj ti.d (fun e => Yhj x (fun id off len _ => Zvo E e id off len n.toNat) none) (Ye5 ti.d (fun k e => Zsx x (fun id off => Zvo E e id off k n.toNat) none) none))) none
theorem Zk3 (E : Env) (t : TypeId) (x i : AV) : Zex E t x i = Qi E t x i := by
  unfold Zex Qi
  cases E.ty t with
  | none => rfl
  | some ti =>
    simp only [Xk]
    cases i <;> try rfl
    rename_i k n
    show bc (Yc n 0) none _ = _
    rw [Q4]
    simp only
    cases Yc n 0 with
    | true => rfl
    | false =>
      simp only [cond_false]
      obtain ⟨d, a1, a2, a3, a4, a5⟩ := ti
      cases d <;> (try (cases x <;> rfl; done))
      case slice e =>
        cases x <;> try rfl
        rename_i id off len cap
        show Zvo E e id off len n.toNat = _
        unfold Zvo
        simp only
        cases E.ty e with
        | none => rfl
        | some ei => simp only [Xk, Q4]
      case array q e =>
        cases x <;> try rfl
        rename_i id off
        show Zvo E e id off q n.toNat = _
        unfold Zvo
        simp only
        cases E.ty e with
        | none => rfl
        | some ei => simp only [Xk, Q4]
def Zi0 (t : TypeId) (x i : Operand) : XF := fun E H fr => ob (Xu E fr x) fun a => ob (Xu E fr i) fun b => ob (Zex E t a b) fun v => rv H v
def Ydr (s : List UInt8) : Nat → Option UInt8 := List.rec (motive := fun _ => Nat → Option UInt8) (fun _ => none) (fun a _ ih i => Nat.rec (motive := fun _ => Option UInt8) (some a) (fun j _ => ih j) i) s
theorem Ztz : ∀ (s : List UInt8) (i : Nat), Ydr s i = nth s i
  | [], _ => rfl
  | _ :: _, 0 => rfl
  | _ :: s, i + 1 => Ztz s i
def Zsd (E : Env) (t : TypeId) (x i : AV) : Option AV := Ycx x (fun s => ob (E.ty t) fun ti => Zzg ti.d (Zjf i (fun _ n => bc (Yc n 0) none (ob (Ydr s n.toNat) fun b => some (Yp b))) none) (Kv E t x i)) (Kv E t x i)
theorem Zxs (E : Env) (t : TypeId) (x i : AV) : Zsd E t x i = Kv E t x i := by
  unfold Zsd
  cases x <;> try rfl
  rename_i s
  show (ob (E.ty t) fun ti => Zzg ti.d _ (Kv E t (.str s) i)) = _
  cases ht : E.ty t with
  | none => simp [ob, Kv, ht]
  | some ti =>
    simp only [Xk]
    cases hd : ti.d <;> try rfl
    show Zjf i (fun _ n => bc (Yc n 0) none (ob (Ydr s n.toNat) fun b => some (Yp b))) none = _
    unfold Kv
    rw [ht]
    cases i <;> try rfl
    rename_i k n
    show bc (Yc n 0) none _ = _
    rw [Q4, Ztz]
    simp only [hd]
    cases Yc n 0 with
    | true => rfl
    | false =>
      simp only [cond_false]
      cases nth s n.toNat <;> rfl
def Zz5 (t : TypeId) (x i : Operand) : XF := fun E H fr => ob (Xu E fr x) fun a => ob (Xu E fr i) fun b => ob (Zsd E t a b) fun v => rv H v
def extK (H : AHeap) (i : Nat) (v : AV) : Option ARes := Yb7 v (fun vs => ob (vs.drop i).head? fun v => rv H v) none
def Zqf (x : Operand) (i : Nat) : XF := fun E H fr => ob (Xu E fr x) fun a => extK H i a
def Ygn (E : Env) (fr : Tr AV) (args : List Operand) (v : AV) : Option ARes :=
  Yhp v (fun g first cap => ob (Zfx E fr args) fun l => some (.call g (first ++ (l ++ cap)))) (Yec v (fun id => ob (Zfx E fr args) fun l => some (.ycall id l)) none)
def Yaz (c : Call) : XF := match c.callee with
  | .builtin b => fun E H fr => ob (Zfx E fr c.args.toList) fun l => Ju E H b c.argTypes.toList l
  | .value f => fun E _ fr => ob (Xu E fr f) fun v => Ygn E fr c.args.toList v
  | .invoke _ _ => fun _ _ _ => none
def Zlj (E : Env) (fr : Tr AV) : Option Operand → Option (Option AV)
  | none => some none
  | some x => ob (Xu E fr x) fun v => some (some v)
def Z1m (t : TypeId) (x : Operand) (lo hi mx : Option Operand) : XF := fun E H fr => ob (Xu E fr x) fun a => ob (Zlj E fr lo) fun l => ob (Zlj E fr hi) fun h => ob (Zlj E fr mx) fun m => ob (Za8 E H t a l h m) fun v => rv H v
def Yhs (H : AHeap) (e : TypeId) (cs : List AV) : Option ARes := bc (cs.all AV.one) (some (.val (.ptr H.next 0) (Xx H e cs))) none
def Yg0 (e : TypeId) (x : Operand) : XF := fun E H fr => ob (Xu E fr x) fun v => Yhs H e v.cells
def Z1r (e : TypeId) : XF := fun E H _ => ob (E.ty e) fun ti => some (.val (.ptr H.next 0) (Xx H e ti.zero))
def Wn (o : Oper) : XF := fun E H fr => Xc E H fr o
def xOp (o : Oper) : XF :=
  Op.rec (motive := fun _ => Oper → XF) (fun x _ => Zup x)
    (fun x _ => Zup x)
    (fun c a b _ => Yal c a b)
    (fun e _ => Z1r e)
    (fun e x _ => Yg0 e x)
    (fun _ _ o => Wn o)
    (fun _ _ _ o => Wn o)
    (fun _ _ _ _ o => Wn o)
    (fun t a _ => Z92 t a)
    (fun t a x _ => Z2f t a x)
    (fun _ o => Wn o)
    (fun _ o => Wn o)
    (fun _ o => Wn o)
    (fun op t x y _ _ => Ydq op t x y)
    (fun op _ x _ => xUn op x)
    (fun _ _ _ o => Wn o)
    (fun _ _ o => Wn o)
    (fun _ _ o => Wn o)
    (fun _ _ _ o => Wn o)
    (fun _ _ o => Wn o)
    (fun _ _ o => Wn o)
    (fun _ _ _ o => Wn o)
    (fun t x lo hi mx _ => Z1m t x lo hi mx)
    (fun t x f _ => Zjv t x f)
    (fun t x f _ => Z1x t x f)
    (fun t x i _ => Zi0 t x i)
    (fun t x i _ => Zz5 t x i)
    (fun _ _ _ _ o => Wn o)
    (fun _ _ _ _ o => Wn o)
    (fun _ _ _ o => Wn o)
    (fun _ _ _ _ o => Wn o)
    (fun _ _ o => Wn o)
    (fun _ _ o => Wn o)
    (fun _ o => Wn o)
    (fun _ _ _ _ o => Wn o)
    (fun x i _ => Zqf x i)
    (fun c _ => Yaz c)
    (fun _ o => Wn o)
    (fun _ o => Wn o)
    (fun _ o => Wn o)
    (fun _ _ o => Wn o)
    (fun _ _ _ o => Wn o)
    (fun _ _ o => Wn o) o.op o
def Zpq (E : Env) (H : AHeap) (fr : Tr AV) (o : Oper) : Option ARes := xOp o E H fr
theorem Zsz (a : AV) : K2 a = true ↔ a = .nili := by cases a <;> simp [K2]
theorem Zfl (E : Env) (H : AHeap) (fr : Tr AV) (o : Oper) : Zpq E H fr o = Xc E H fr o := by
  unfold Zpq xOp
  cases hop : o.op <;> (try rfl) <;> unfold Xc <;> rw [hop] <;> dsimp only
  case move x => simp only [Zup, Zdu, Ys]
  case assign x => simp only [Zup, Zdu, Ys]
  case pick c a b =>
    simp only [Yal, Ys]
    cases X5 E fr c with
    | none => rfl
    | some v =>
      cases v <;> try rfl
      rename_i b'
      show bc b' (ob (Xu E fr a) fun v => rv H v) (ob (Xu E fr b) fun v => rv H v) = _
      simp only [Zdu, Ys]
      cases b' <;> rfl
  case load t a =>
    simp only [Z92, Ys, Z3u, Zdu]
    cases X5 E fr a <;> rfl
  case store t a x =>
    simp only [Z2f, Ys, Zxh]
    cases X5 E fr a with
    | none => rfl
    | some p =>
      cases X5 E fr x with
      | none => rfl
      | some v =>
        simp only [Xk]
        cases Qp E H t p v <;> rfl
  case binOp op t x y z =>
    simp only [Ydq, Ys]
    cases X5 E fr x with
    | none => rfl
    | some a =>
      cases X5 E fr y with
      | none => cases a <;> rfl
      | some b =>
        simp only [Xk, Zlc, Zdu, Zgg, Q4]
        by_cases ha : K2 a = true
        · by_cases hb : K2 b = true
          · rw [ha, hb]
            rw [Zsz] at ha hb
            subst ha; subst hb
            rfl
          · have hb' : K2 b = false := by simpa using hb
            rw [ha, hb']
            cases a <;> (try (simp [K2] at ha; done))
            cases b <;> first | rfl | (simp [K2] at hb'; done)
        · have ha' : K2 a = false := by simpa using ha
          rw [ha']
          cases a <;> first | rfl | (simp [K2] at ha'; done)
  case unOp op t x =>
    simp only [xUn, Ys, Zdu]
    cases X5 E fr x <;> rfl
  case fieldAddr t x f =>
    simp only [Zjv, Ys, Zk6, Zdu]
    cases X5 E fr x <;> rfl
  case field t x f =>
    simp only [Z1x, Ys, Zdu]
    cases X5 E fr x <;> rfl
  case indexAddr t x i =>
    simp only [Zi0, Ys, Zk3, Zdu]
    cases X5 E fr x with
    | none => rfl
    | some a => cases X5 E fr i <;> rfl
  case index t x i =>
    simp only [Zz5, Ys, Zxs, Zdu]
    cases X5 E fr x with
    | none => rfl
    | some a => cases X5 E fr i <;> rfl
  case extract x i =>
    simp only [Zqf, Ys]
    cases X5 E fr x with
    | none => rfl
    | some a =>
      cases a <;> try rfl
      rename_i vs
      show (ob (vs.drop i).head? fun v => rv H v) = _
      dsimp only
      cases (vs.drop i).head? <;> rfl
  case call c =>
    unfold Yaz
    cases c.callee with
    | builtin b =>
      simp only [Zbg]
      cases Zb8 E fr c.args.toList <;> rfl
    | value f =>
      simp only [Ys]
      cases X5 E fr f with
      | none => rfl
      | some v =>
        cases v <;> try rfl
        case fn g first cap =>
          show (ob (Zfx E fr c.args.toList) fun l => some (ARes.call g (first ++ (l ++ cap)))) = _
          rw [Zbg]
          cases Zb8 E fr c.args.toList <;> rfl
        case yld id =>
          show (ob (Zfx E fr c.args.toList) fun l => some (ARes.ycall id l)) = _
          rw [Zbg]
          cases Zb8 E fr c.args.toList <;> rfl
    | invoke r n => rfl
  case slice t x lo hi mx =>
    have oe : ∀ y, Zlj E fr y = V0 E fr y := fun y => by
      cases y with
      | none => rfl
      | some y => simp only [Zlj, V0, Ys]; cases X5 E fr y <;> rfl
    simp only [Z1m, Ys, oe, Zdu]
    cases X5 E fr x with
    | none => rfl
    | some a => cases V0 E fr lo with
      | none => rfl
      | some l => cases V0 E fr hi with
        | none => rfl
        | some h => cases V0 E fr mx <;> rfl
  case box e x =>
    simp only [Yg0, Ys]
    cases X5 E fr x with
    | none => rfl
    | some v => simp only [Xk, Yhs, Q4]
  case alloc e =>
    simp only [Z1r]
    cases E.ty e <;> rfl
def Zah (fr : AFr) (d : Option Tmp) (v : AV) : AFr :=
  Option.rec (motive := fun _ => AFr) fr (fun d => bc (Nat.blt d fr.n) ⟨fr.n, fr.t.set d v, fr.df, fr.rd⟩ fr) d
theorem X9 (fr : AFr) (d : Option Tmp) (v : AV) : Zah fr d v = fr.put d v := by
  cases d with
  | none => rfl
  | some d => simp only [Zah, AFr.put, Q4]
def Ygm (v : AV) (want : Bool) : Option Bool := Z5u v (fun b => some (b == want)) (Yeb v (fun _ => some false) none)
def Zif (ops : Array Oper) (fr : Tr AV) (g : Option (Nat × Bool)) : Option Bool :=
  match g with
  | none => some true
  | some (j, want) => match (ops[j]?).bind (·.dst) with
    | none => some false
    | some d => ob (fr.get d) fun v => Ygm v want
theorem Zjh (ops : Array Oper) (fr : Tr AV) (o : Oper) : Zif ops fr o.guard = Xb ops fr o := by
  unfold Zif Xb
  cases o.guard with
  | none => rfl
  | some g =>
    obtain ⟨j, want⟩ := g
    simp only
    cases (ops[j]?).bind (·.dst) with
    | none => rfl
    | some d =>
      simp only
      cases fr.get d with
      | none => rfl
      | some v => cases v <;> rfl
def Zry (ih : Task → Option TRes) (H : AHeap) : ARes → Option ARes
  | .val v H => some (.val v H)
  | .skip H => some (.skip H)
  | r => Y4 ih H r
theorem Zlw (ih : Task → Option TRes) (H : AHeap) (r : ARes) : Zry ih H r = Y4 ih H r := by cases r <;> rfl
def Yf4 (o : Oper) (k : AFr → AHeap → Option TRes) (fr : AFr) : ARes → Option TRes
  | .val v H => k (Zah fr o.dst v) H
  | .skip H => k (Zah fr o.dst Xg) H
  | .panic v H => some (.code (.panic v) fr H)
  | .defer _ _ => none
  | _ => none
def Z4v (o : Oper) (k : AFr → AHeap → Option TRes) (fr : AFr) (H : AHeap) : ARes → Option TRes
  | .defer f args => bif fr.rd then none else k (Zah { fr with df := .call f args :: fr.df } o.dst Xg) H
  | r => Yf4 o k fr r
def Yan (E : Env) (ih : Task → Option TRes) (o : Oper) (k : AFr → AHeap → Option TRes) (fr : AFr) (H : AHeap) : Option TRes :=
  ob (Zpq E H fr.t o) fun r => ob (Zry ih H r) fun r2 => Z4v o k fr H r2
def opK (E : Env) (ih : Task → Option TRes) (all : Array Oper) (o : Oper) (k : AFr → AHeap → Option TRes) : AFr → AHeap → Option TRes := fun fr H =>
  ob (Zif all fr.t o.guard) fun b => bc b (Yan E ih o k fr H) (k (Zah fr o.dst Xg) H)
def Z60 (E : Env) (ih : Task → Option TRes) (all : Array Oper) (l : List Oper) : AFr → AHeap → Option TRes :=
  List.rec (motive := fun _ => AFr → AHeap → Option TRes) (fun fr H => some (.code .normal fr H)) (fun o _ k => opK E ih all o k) l
theorem Zt8 (E : Env) (ih : Task → Option TRes) (all : Array Oper) : ∀ (l : List Oper) (fr : AFr) (H : AHeap), Z60 E ih all l fr H = Ze3 E ih all l fr H
  | [], _, _ => rfl
  | o :: l, fr, H => by
    show opK E ih all o (Z60 E ih all l) fr H = _
    have hk : Z60 E ih all l = Ze3 E ih all l := by funext fr H; exact Zt8 E ih all l fr H
    rw [hk]
    simp only [opK, Yan, Ze3, Zjh, Zfl, Zlw, X9, Q4]
    cases Xb all fr.t o with
    | none => rfl
    | some b =>
      cases b with
      | false => rfl
      | true =>
        simp only [Xk, cond_true]
        cases Xc E H fr.t o with
        | none => rfl
        | some r =>
          simp only [Xk]
          cases Y4 ih H r with
          | none => rfl
          | some r2 => cases r2 <;> simp only [Xk, Z4v, Yf4, X9]
def dK (E : Env) (_ih : Task → Option TRes) (an : Tr Nat) (fr0 : AFr) (all : Array Oper) (rest : List Oper) (o : Oper) (k : Nat → List QRec → List ERec → AFr → AHeap → Option TRes) (i m : Nat) (qs : List QRec) (es : List ERec) (fr : AFr) (H : AHeap) : ARes → Option TRes
  | .val v H' => bc (V9 E H' m qs) (k (i + 1) qs (⟨i, H⟩ :: es) (Zah fr o.dst v) H') none
  | .skip H' => bc (V9 E H' m qs) (k (i + 1) qs (⟨i, H⟩ :: es) (Zah fr o.dst Xg) H') none
  | .panic v H' => bc (Zc9 an i rest (i + 1)) (some (.code (.panic v) { fr0 with t := Zan fr0.t all.toList } H')) none
  | _ => none
def dQ (E : Env) (o : Oper) (k : Nat → List QRec → List ERec → AFr → AHeap → Option TRes) (i m : Nat) (qs : List QRec) (es : List ERec) (fr : AFr) (H : AHeap) : ARes → Option TRes
  | .val v _ => bc (Kc E ⟨i, o, fr.t, v⟩ m es) (k (i + 1) (⟨i, o, fr.t, v⟩ :: qs) es (Zah fr o.dst v) H) none
  | _ => none
def dW (E : Env) (ih : Task → Option TRes) (an : Tr Nat) (fr0 : AFr) (all : Array Oper) (rest : List Oper) (o : Oper) (k : Nat → List QRec → List ERec → AFr → AHeap → Option TRes) (i : Nat) (qs : List QRec) (es : List ERec) (fr : AFr) (H : AHeap) : Option TRes :=
  ob (an.get i) fun m => ob (Zpq E H fr.t o) fun r => bc (Y0 E o.op) (dQ E o k i m qs es fr H r) (ob (Zry ih H r) fun r2 => dK E ih an fr0 all rest o k i m qs es fr H r2)
def dOp (E : Env) (ih : Task → Option TRes) (an : Tr Nat) (fr0 : AFr) (all : Array Oper) (rest : List Oper) (o : Oper) (k : Nat → List QRec → List ERec → AFr → AHeap → Option TRes) : Nat → List QRec → List ERec → AFr → AHeap → Option TRes := fun i qs es fr H =>
  ob (Zif all fr.t o.guard) fun b => bc b (dW E ih an fr0 all rest o k i qs es fr H) (k (i + 1) qs es (Zah fr o.dst Xg) H)
def Zt2 (E : Env) (ih : Task → Option TRes) (all : Array Oper) (an : Tr Nat) (fr0 : AFr) (l : List Oper) : Nat → List QRec → List ERec → AFr → AHeap → Option TRes :=
  List.rec (motive := fun _ => Nat → List QRec → List ERec → AFr → AHeap → Option TRes) (fun _ _ _ fr H => some (.code .normal fr H)) (fun o rest k => dOp E ih an fr0 all rest o k) l
theorem Zpn (E : Env) (ih : Task → Option TRes) (all : Array Oper) (an : Tr Nat) (fr0 : AFr) : ∀ (l : List Oper) (i : Nat) (qs : List QRec) (es : List ERec) (fr : AFr) (H : AHeap), Zt2 E ih all an fr0 l i qs es fr H = Zcx E ih all an fr0 l i qs es fr H
  | [], _, _, _, _, _ => rfl
  | o :: l, i, qs, es, fr, H => by
    show dOp E ih an fr0 all l o (Zt2 E ih all an fr0 l) i qs es fr H = _
    have hk : Zt2 E ih all an fr0 l = Zcx E ih all an fr0 l := by funext i qs es fr H; exact Zpn E ih all an fr0 l i qs es fr H
    rw [hk]
    simp only [dOp, dW, Zcx, Zjh, Zfl, Zlw, X9, Q4]
    cases Xb all fr.t o with
    | none => rfl
    | some b =>
      cases b with
      | false => rfl
      | true =>
        simp only [Xk, cond_true]
        cases an.get i with
        | none => rfl
        | some m =>
          simp only [Xk]
          cases Xc E H fr.t o with
          | none => rfl
          | some r =>
            simp only [Xk]
            cases Y0 E o.op with
            | true => cases r <;> simp only [cond_true, dQ, Q4, X9]
            | false =>
              simp only [cond_false]
              cases Y4 ih H r with
              | none => rfl
              | some r2 => cases r2 <;> simp only [Xk, dK, Q4, X9]
def Ya3 (E : Env) (ih : Task → Option TRes) (ops : Array Oper) (fr : AFr) (H : AHeap) : Option TRes :=
  ob (Zkb ops.toList 0 .nil) fun an => bc (Zkr E an ops.toList && (Nat.ble fr.n 1000000 && Nat.ble ops.size 1000000)) (Zt2 E ih ops an fr ops.toList 0 [] [] fr H) none
def Znk (E : Env) (ih : Task → Option TRes) (ops : Array Oper) (draw : Bool) : AFr → AHeap → Option TRes := fun fr H => bc draw (Ya3 E ih ops fr H) (Z60 E ih ops ops.toList fr H)
theorem Zte (E : Env) (ih : Task → Option TRes) (ops : Array Oper) (draw : Bool) (fr : AFr) (H : AHeap) : Znk E ih ops draw fr H = Zam E ih ops draw fr H := by
  simp only [Znk, Zam, Q4, Zt8, Ya3, Zpn]
  cases draw with
  | false => rfl
  | true =>
    simp only [cond_true]
    cases Zkb ops.toList 0 .nil <;> rfl
abbrev CF := AFr → AHeap → Option TRes
def Ygl (b : CF) : TRes → Option TRes
  | .code e fr H => AExit.rec (motive := fun _ => Option TRes) (b fr H) (fun id => some (.code (.exit id) fr H)) (some (.code .ret fr H)) (fun v => some (.code (.panic v) fr H)) e
  | r => some r
def Yd3 (a b : CF) : CF := fun fr H => ob (a fr H) fun r => Ygl b r
def Ygj (a b : CF) (fr : AFr) (H : AHeap) (v : AV) : Option TRes := Z9b v (fun c => bc c (a fr H) (b fr H)) none
def Z1y (E : Env) (c : Operand) (a b : CF) : CF := fun fr H => ob (Xu E fr.t c) fun v => Ygj a b fr H v
def Z2d (id : Nat) : TRes → Option TRes
  | .code e fr H => AExit.rec (motive := fun _ => Option TRes) (some (.code .normal fr H)) (fun i => bc (Nat.beq i id) (some (.code .normal fr H)) (some (.code (.exit i) fr H))) (some (.code .ret fr H)) (fun v => some (.code (.panic v) fr H)) e
  | r => some r
def Zs6 (id : Nat) (a : CF) : CF := fun fr H => ob (a fr H) fun r => Z2d id r
def Ybc (ih : Task → Option TRes) (c : Code) : TRes → Option TRes
  | .code e fr H => AExit.rec (motive := fun _ => Option TRes) (ih (.code (.loop c) fr H)) (fun i => some (.code (.exit i) fr H)) (some (.code .ret fr H)) (fun v => some (.code (.panic v) fr H)) e
  | r => some r
def Z3l (ih : Task → Option TRes) (c : Code) (a : CF) : CF := fun fr H => ob (a fr H) fun r => Ybc ih c r
def Zc7 (E : Env) (ih : Task → Option TRes) (c : Code) : CF :=
  Code.rec (motive := fun _ => CF) (fun fr H => some (.code .normal fr H)) (fun _ ops draw => Znk E ih ops draw) (fun _ _ a b => Yd3 a b) (fun c _ _ a b => Z1y E c a b) (fun id _ a => Zs6 id a) (fun c a => Z3l ih c a)
    (fun f ps asz b _ _ => Yu E ih (.rangeFunc f ps asz b)) (fun id fr H => some (.code (.exit id) fr H)) (fun c _ => Yu E ih (.scope c)) (fun _ fr H => some (.code .normal fr H)) (fun l => Yu E ih (.goto l)) (fun fr H => some (.code .ret fr H)) (fun w => Yu E ih (.refuse w)) c
theorem Zpw (E : Env) (ih : Task → Option TRes) : ∀ (c : Code) (fr : AFr) (H : AHeap), Zc7 E ih c fr H = Yu E ih c fr H := by
  intro c
  induction c with
  | skip => intro fr H; rfl
  | region id ops draw => intro fr H; exact Zte E ih ops draw fr H
  | seq a b iha ihb =>
    intro fr H
    show Yd3 (Zc7 E ih a) (Zc7 E ih b) fr H = _
    simp only [Yd3, iha, Yu]
    cases Yu E ih a fr H with
    | none => rfl
    | some r =>
      cases r with
      | code e fr1 H1 => cases e <;> simp only [Xk, Ygl, ihb]
      | call r => rfl
      | dcall r => rfl
  | cond c a b iha ihb =>
    intro fr H
    show Z1y E c (Zc7 E ih a) (Zc7 E ih b) fr H = _
    simp only [Z1y, Ys, Yu]
    cases X5 E fr.t c with
    | none => rfl
    | some v =>
      cases v <;> try rfl
      rename_i b'
      show bc b' (Zc7 E ih a fr H) (Zc7 E ih b fr H) = _
      rw [iha, ihb]
      cases b' <;> rfl
  | block id a iha =>
    intro fr H
    show Zs6 id (Zc7 E ih a) fr H = _
    simp only [Zs6, iha, Yu]
    cases Yu E ih a fr H with
    | none => rfl
    | some r =>
      cases r with
      | code e fr1 H1 => cases e <;> simp only [Xk, Z2d, Q4]
      | call r => rfl
      | dcall r => rfl
  | loop a iha =>
    intro fr H
    show Z3l ih a (Zc7 E ih a) fr H = _
    simp only [Z3l, iha, Yu]
    cases Yu E ih a fr H with
    | none => rfl
    | some r =>
      cases r with
      | code e fr1 H1 => cases e <;> simp only [Xk, Ybc]
      | call r => rfl
      | dcall r => rfl
  | rangeFunc f ps asz b _ _ => intro fr H; rfl
  | exit id => intro fr H; rfl
  | scope c _ => intro fr H; rfl
  | label l => intro fr H; rfl
  | goto l => intro fr H; rfl
  | ret => intro fr H; rfl
  | refuse w => intro fr H; rfl
def Zsl (E : Env) (ih : Task → Option TRes) (rs : List ResultVar) (fr : AFr) (p : Option AV) (H : AHeap) : Option TRes := Xy E ih rs fr.t fr.df p H
def Z7k (E : Env) (ih : Task → Option TRes) (rs : List ResultVar) : TRes → Option TRes
  | .code e fr H => AExit.rec (motive := fun _ => Option TRes) (Zsl E ih rs fr none H) (fun _ => none) (Zsl E ih rs fr none H) (fun v => Zsl E ih rs fr (some v) H) e
  | _ => none
def Z1f (E : Env) (ih : Task → Option TRes) (fn : AFunc) (args : List AV) (H : AHeap) : Option TRes := ob (Zc7 E ih fn.body (Z8 fn args) H) fun r => Z7k E ih fn.results r
def smK (E : Env) (f : FuncId) (args : List AV) (H : AHeap) : Option TRes := ob (E.sm f args H) fun r => some (.call (.ret r.1 r.2))
def Ya9 (E : Env) (ih : Task → Option TRes) (f : FuncId) (args : List AV) (H : AHeap) : Option TRes := Option.rec (motive := fun _ => Option TRes) (smK E f args H) (fun fn => Z1f E ih fn args H) (E.fn f)
def Zu2 (E : Env) (ih : Task → Option TRes) : Task → Option TRes
  | .code c fr H => Zc7 E ih c fr H
  | .call f args H => Ya9 E ih f args H
  | t => Vq E ih t
theorem Zzf (E : Env) (ih : Task → Option TRes) (t : Task) : Zu2 E ih t = Vq E ih t := by
  cases t <;> try rfl
  case code c fr H => exact Zpw E ih c fr H
  case call f args H =>
    simp only [Zu2, Ya9, Vq]
    cases E.fn f with
    | none =>
      show smK E f args H = _
      unfold smK
      cases E.sm f args H <;> rfl
    | some fn =>
      show Z1f E ih fn args H = _
      simp only [Z1f, Zpw]
      cases Yu E ih fn.body (Z8 fn args) H with
      | none => rfl
      | some r =>
        cases r with
        | code e fr H => cases e <;> rfl
        | call r => rfl
        | dcall r => rfl
def Yez (E : Env) (n : Nat) : Task → Option TRes := Nat.rec (motive := fun _ => Task → Option TRes) (fun _ => none) (fun _ ih t => Zu2 E ih t) n
theorem Ztj (E : Env) : ∀ n, Yez E n = run E n
  | 0 => rfl
  | n + 1 => by
    funext t
    show Zu2 E (Yez E n) t = Vq E (run E n) t
    rw [Ztj E n, Zzf]
end
end Go.Vai
end
section
namespace Go.Vai
def Qu (i : Nat) : List Nat → Nat → Option Nat
  | [], _ => none
  | j :: r, k => bif Nat.beq i j then some k else Qu i r (k + 1)
theorem Zjn {i : Nat} : ∀ {l : List Nat} {k p : Nat}, Qu i l k = some p → k ≤ p ∧ l[p - k]? = some i := by
  intro l
  induction l with
  | nil => intro k p h; cases h
  | cons j l ih =>
    intro k p h
    simp only [Qu, Bool.cond_eq_ite, Nat.beq_eq] at h
    split at h
    · rename_i e
      simp only [Option.some.injEq] at h; subst h; subst e
      simp
    · obtain ⟨a, b⟩ := ih h
      refine ⟨by omega, ?_⟩
      rw [show p - k = (p - (k + 1)) + 1 by omega]
      simpa using b
mutual
def X0 (b : Nat) (keep : List Nat) : AV → Option AV
  | .ptr i o => match Qu i keep b with | some k => some (.ptr k o) | none => none
  | .sl i o n c => match Qu i keep b with | some k => some (.sl k o n c) | none => none
  | .yld i => match Qu i keep b with | some k => some (.yld k) | none => none
  | .mapv i => match Qu i keep b with | some k => some (.mapv k) | none => none
  | .nilm => some .nilm
  | .opq o => some (.opq o)
  | .ext j k b o n c => some (.ext j k b o n c)
  | .fn f x y => match V7 b keep x, V7 b keep y with | some x, some y => some (.fn f x y) | _, _ => none
  | .iface t x => match X0 b keep x with | some y => some (.iface t y) | none => none
  | .agg l => match V7 b keep l with | some l => some (.agg l) | none => none
  | .tup l => match V7 b keep l with | some l => some (.tup l) | none => none
  | .bool t => some (.bool t)
  | .int k n => some (.int k n)
  | .str s => some (.str s)
  | .nilp => some .nilp
  | .nils => some .nils
  | .sl0 => some .sl0
  | .nilf => some .nilf
  | .nili => some .nili
def V7 (b : Nat) (keep : List Nat) : List AV → Option (List AV)
  | [] => some []
  | v :: vs => match X0 b keep v, V7 b keep vs with | some a, some l => some (a :: l) | _, _ => none
end
def Zon (b : Nat) (keep : List Nat) (M M' : List MEnt) : Prop := ∀ k i : Nat, keep[k]? = some i → M'[b + k]? = M[i]?
theorem Kt {b : Nat} {keep : List Nat} {M M' : List MEnt} (hM : Zon b keep M M') {i k : Nat} (h : Qu i keep b = some k) : M'[k]? = M[i]? := by
  obtain ⟨h1, h2⟩ := Zjn h
  have := hM (k - b) i h2
  rwa [show b + (k - b) = k by omega] at this
mutual
theorem V8 {b : Nat} {keep : List Nat} {M M' : List MEnt} (hM : Zon b keep M M') : ∀ (v : AV) (u : AV) (cv : Value), X0 b keep v = some u → Zj M v cv → Zj M' u cv
  | .ptr i o, u, cv, h, r => by
    simp only [X0] at h
    split at h
    · rename_i k hk
      cases h
      obtain ⟨m, hm, e2⟩ := r
      exact ⟨m, by rw [Kt hM hk]; exact hm, e2⟩
    · cases h
  | .sl i o n c, u, cv, h, r => by
    simp only [X0] at h
    split at h
    · rename_i k hk
      cases h
      obtain ⟨m, cc, hm, e2⟩ := r
      exact ⟨m, cc, by rw [Kt hM hk]; exact hm, e2⟩
    · cases h
  | .yld i, u, cv, h, r => by
    simp only [X0] at h
    split at h
    · rename_i k hk
      cases h
      obtain ⟨m, hm, e2⟩ := r
      exact ⟨m, by rw [Kt hM hk]; exact hm, e2⟩
    · cases h
  | .fn f x y, u, cv, h, r => by
    simp only [X0] at h
    split at h
    · rename_i a' b' ha hb
      cases h
      obtain ⟨fs, cs, e, r1, r2⟩ := r
      exact ⟨fs, cs, e, Zbq hM _ _ _ ha r1, Zbq hM _ _ _ hb r2⟩
    · cases h
  | .iface t x, u, cv, h, r => by
    simp only [X0] at h
    split at h
    · rename_i y hy
      cases h
      obtain ⟨z, e, r1⟩ := r
      exact ⟨z, e, V8 hM _ _ _ hy r1⟩
    · cases h
  | .agg l, u, cv, h, r => by
    simp only [X0] at h
    split at h
    · rename_i l' hl
      cases h
      obtain ⟨vs, e, r1⟩ := r
      exact ⟨vs, e, Zbq hM _ _ _ hl r1⟩
    · cases h
  | .tup l, u, cv, h, r => by
    simp only [X0] at h
    split at h
    · rename_i l' hl
      cases h
      obtain ⟨vs, e, r1⟩ := r
      exact ⟨vs, e, Zbq hM _ _ _ hl r1⟩
    · cases h
  | .mapv i, u, cv, h, r => by
    simp only [X0] at h
    split at h
    · rename_i k hk
      cases h
      obtain ⟨m, hm, e2⟩ := r
      exact ⟨m, by rw [Kt hM hk]; exact hm, e2⟩
    · cases h
  | .nilm, _, _, h, r => by cases h; exact r
  | .opq _, _, _, h, r => by cases h; exact r
  | .ext _ _ _ _ _ _, _, _, h, r => by cases h; exact r
  | .bool _, _, _, h, r => by cases h; exact r
  | .int _ _, _, _, h, r => by cases h; exact r
  | .str _, _, _, h, r => by cases h; exact r
  | .nilp, _, _, h, r => by cases h; exact r
  | .nils, _, _, h, r => by cases h; exact r
  | .sl0, _, _, h, r => by cases h; exact r
  | .nilf, _, _, h, r => by cases h; exact r
  | .nili, _, _, h, r => by cases h; exact r
theorem Zbq {b : Nat} {keep : List Nat} {M M' : List MEnt} (hM : Zon b keep M M') : ∀ (v : List AV) (u : List AV) (cv : List Value), V7 b keep v = some u → Zq M v cv → Zq M' u cv
  | [], _, [], h, r => by cases h; exact r
  | [], _, _ :: _, _, r => r.elim
  | _ :: _, _, [], _, r => r.elim
  | a :: v, u, c :: cv, h, r => by
    simp only [V7] at h
    split at h
    · rename_i a' l' ha hl
      cases h
      exact ⟨V8 hM _ _ _ ha r.1, Zbq hM _ _ _ hl r.2⟩
    · cases h
end
noncomputable def rnT (b : Nat) (keep : List Nat) : Tr AV → Option (Tr AV)
  | .nil => some .nil
  | .node v l r => match rnT b keep l, rnT b keep r with
    | some l', some r' => match v with
      | none => some (.node none l' r')
      | some x => match X0 b keep x with
        | some y => some (.node (some y) l' r')
        | none => none
    | _, _ => none
def Plain (v : AV) : Prop := ∀ b keep, X0 b keep v = some v
def Za4 (t : Tr AV) : Prop := ∀ i v, t.get i = some v → Plain v
def Z8c (b : Nat) (keep : List Nat) : List (AV × AV × Nat) → Option (List (AV × AV × Nat))
  | [] => some []
  | (k, v, c) :: es => match X0 b keep k, X0 b keep v, Z8c b keep es with
    | some k', some v', some es' => some ((k', v', c) :: es')
    | _, _, _ => none
theorem Zou {b : Nat} {keep : List Nat} {M M' : List MEnt} (hM : Zon b keep M M') : ∀ {es es' : List (AV × AV × Nat)} {ces : List MapEntry}, Z8c b keep es = some es' → Y2 M es ces → Y2 M' es' ces
  | [], _, [], h, _ => by cases h; trivial
  | (k, v, c) :: es, es', e :: ces, h, ⟨r1, r2, r3, r4⟩ => by
    simp only [Z8c] at h
    split at h
    · rename_i k' v' l hk hv hl
      cases h
      exact ⟨V8 hM _ _ _ hk r1, V8 hM _ _ _ hv r2, r3, Zou hM hl r4⟩
    · cases h
def Yew (b : Nat) (keep : List Nat) : Option Nat → Option (Option Nat)
  | none => some none
  | some i => match Qu i keep b with | some k => some (some k) | none => none
theorem Z1k {b : Nat} {keep : List Nat} {M M' : List MEnt} (hM : Zon b keep M M') {x y c : Option Nat} (h : Yew b keep x = some y) (r : Zt6 M x c) : Zt6 M' y c := by
  cases x with
  | none => cases h; exact r
  | some i =>
    simp only [Yew] at h
    split at h
    · rename_i k hk
      cases h
      obtain ⟨m, hm, e⟩ := r
      exact ⟨m, by rw [Kt hM hk]; exact hm, e⟩
    · cases h
def We (b : Nat) (keep : List Nat) : AObj → AObj → Prop
  | .cells n t e g fz ro mk, o => ∃ t', o = .cells n t' e g fz ro mk ∧ ∀ i y, t'.get i = some y → ∃ x, t.get i = some x ∧ X0 b keep x = some y
  | .loop st p n t ps asz bo d, o => ∃ t' d', o = .loop st p n t' ps asz bo d' ∧ Qu d keep b = some d' ∧ ∀ i y, t'.get i = some y → ∃ x, t.get i = some x ∧ X0 b keep x = some y
  | .siter s p, o => o = .siter s p
  | .dfr, o => o = .dfr
  | .mp es clock q, o => ∃ es', o = .mp es' clock q ∧ Z8c b keep es = some es'
  | .miter m since seen last, o => ∃ m', o = .miter m' since seen last ∧ Yew b keep m = some m'
theorem We.rel {b : Nat} {keep : List Nat} {M M' : List MEnt} (hM : Zon b keep M M') {m : MEnt} {w : World} {o u : AObj} (h : We b keep o u) (r : Qf M m w o) : Qf M' m w u := by
  cases o with
  | cells n t e g fz ro mk =>
    obtain ⟨t', rfl, ht⟩ := h
    obtain ⟨cur, e', lo, hi, h1, h2, h3, h4, h5, h6, h7⟩ := r
    refine ⟨cur, e', lo, hi, h1, h2, h3, h4, h5, h6, fun i v hv => ?_⟩
    obtain ⟨x, hx, hr⟩ := ht i v hv
    obtain ⟨a, cv, b, c⟩ := h7 i x hx
    exact ⟨a, cv, b, V8 hM _ _ _ hr c⟩
  | loop st p n t ps asz bo d =>
    obtain ⟨t', d', rfl, hd, ht⟩ := h
    obtain ⟨L, h1, h2, h3, h4, h5, h6, h7, h8, dd, h9, h10⟩ := r
    refine ⟨L, h1, h2, h3, h4, h5, h6, h7, fun i v hv => ?_, dd, by rw [Kt hM hd]; exact h9, h10⟩
    obtain ⟨x, hx, hr⟩ := ht i v hv
    obtain ⟨cv, b, c⟩ := h8 i x hx
    exact ⟨cv, b, V8 hM _ _ _ hr c⟩
  | siter s p => obtain rfl := h; exact r
  | dfr => obtain rfl := h; exact r
  | mp es clock =>
    obtain ⟨es', rfl, he⟩ := h
    obtain ⟨ces, h1, h2⟩ := r
    exact ⟨ces, h1, Zou hM he h2⟩
  | miter mi since seen last =>
    obtain ⟨m', rfl, he⟩ := h
    obtain ⟨c, h1, h2, h3⟩ := r
    exact ⟨c, h1, h2, Z1k hM he h3⟩
theorem We.ro {b : Nat} {keep : List Nat} {o u : AObj} (h : We b keep o u) : u.isRo = o.isRo := by
  cases o with
  | cells n t e g fz ro mk => obtain ⟨t', rfl, _⟩ := h; rfl
  | loop => obtain ⟨t', d', rfl, _⟩ := h; rfl
  | siter s p => obtain rfl := h; rfl
  | dfr => obtain rfl := h; rfl
  | mp es clock => obtain ⟨_, rfl, _⟩ := h; rfl
  | miter => obtain ⟨_, rfl, _⟩ := h; rfl
structure Ren (ng : Nat) (keep : List Nat) (fr : AFr) (H : AHeap) (fr' : AFr) (H' : AHeap) : Prop where
  glob : ∀ g, g < ng → keep[g]? = some g
  lt : ∀ i ∈ keep, i < H.next
  nodup : keep.Nodup
  next : H'.next = keep.length
  obj : ∀ k u, H'.get k = some u → ∃ i o, keep[k]? = some i ∧ H.get i = some o ∧ We 0 keep o u
  n : fr'.n = fr.n
  rd : fr'.rd = fr.rd
  df : fr.df = [] ∧ fr'.df = []
  t : ∀ i y, fr'.t.get i = some y → ∃ x, fr.t.get i = some x ∧ X0 0 keep x = some y
def Wk (keep : List Nat) (M : List MEnt) : List MEnt := keep.map fun i => (M[i]?).getD ⟨0, 0, 0, 0⟩
theorem Zdd {keep : List Nat} {M : List MEnt} (h : ∀ i ∈ keep, i < M.length) : Zon 0 keep M (Wk keep M) := by
  intro k i hk
  rw [Nat.zero_add]
  unfold Wk
  rw [List.getElem?_map, hk]
  have := h i (List.mem_of_getElem? hk)
  rw [List.getElem?_eq_getElem this]
  simp [List.getElem?_eq_getElem this]
structure Carried (I : List MEnt → AHeap → World → Prop) : Prop where
  ext : ∀ M H w M' H' w', I M H w → Ext M H w M' H' w' → I M' H' w'
  ren : ∀ M H w M' H', I M H w → HRel M H w → HRel M' H' w → (∀ b, Wr M' H' b → Wr M H b) → I M' H' w
section
variable {E : Env} {P : Program} {I : List MEnt → AHeap → World → Prop} {ih : Task → Option TRes} {ro : Option Nat}
theorem Ren.to (hI : Carried I) {keep : List Nat} {fr fr' : AFr} {H H' : AHeap} (r : Ren E.ng keep fr H fr' H') {M : List MEnt} {w : World} {a : Act} (st : St E I M H w) (hf : FRel ro M fr a) : ∃ M', St E I M' H' w ∧ FRel ro M' fr' a := by
  have hlt : ∀ i ∈ keep, i < M.length := fun i hi => by rw [st.hr.len]; exact r.lt i hi
  have hM := Zdd hlt
  have at_ : ∀ k i, keep[k]? = some i → (Wk keep M)[k]? = M[i]? := fun k i h => by have := hM k i h; rwa [Nat.zero_add] at this
  have inj : ∀ k l i : Nat, keep[k]? = some i → keep[l]? = some i → k = l := fun k l i hk hl => by
    have hk' := (List.getElem?_eq_some_iff.1 hk)
    have hl' := (List.getElem?_eq_some_iff.1 hl)
    exact (List.getElem?_inj hk'.1 r.nodup).1 (hk.trans hl.symm)
  have hr : HRel (Wk keep M) H' w := by
    refine ⟨by simp [Wk, r.next], fun k u hu => ?_, fun k l u v m p hu hv hm hp hkl hb => ?_⟩
    · obtain ⟨i, o, e1, e2, e3⟩ := r.obj k u hu
      obtain ⟨m, hm, ho⟩ := st.hr.obj i o e2
      exact ⟨m, by rw [at_ k i e1]; exact hm, e3.rel hM ho⟩
    · obtain ⟨i, o, e1, e2, e3⟩ := r.obj k u hu
      obtain ⟨j, q, f1, f2, f3⟩ := r.obj l v hv
      rw [at_ k i e1] at hm
      rw [at_ l j f1] at hp
      have hij : i ≠ j := fun e => by subst e; exact hkl (inj k l i e1 f1)
      obtain ⟨z1, z2⟩ := st.hr.inj i j o q m p e2 f2 hm hp hij hb
      exact ⟨by rw [e3.ro]; exact z1, by rw [f3.ro]; exact z2⟩
  refine ⟨Wk keep M, ⟨hr, fun g hg => ?_, hI.ren _ _ _ _ _ st.i st.hr hr fun b hb => ?_⟩, ⟨by rw [r.rd]; exact hf.rd, by rw [r.n]; exact hf.n, fun i y hy => ?_, ?_⟩⟩
  · obtain ⟨m, hm, h2⟩ := st.g g hg
    exact ⟨m, by rw [at_ g g (r.glob g hg)]; exact hm, h2⟩
  · obtain ⟨k, u, m, e, hro, hm, rfl⟩ := hb
    obtain ⟨i, o, e1, e2, e3⟩ := r.obj k u e
    rw [at_ k i e1] at hm
    exact ⟨i, o, m, e2, by rw [← e3.ro]; exact hro, hm, rfl⟩
  · obtain ⟨x, hx, hxy⟩ := r.t i y hy
    obtain ⟨cv, hc, hv⟩ := hf.t i x hx
    exact ⟨cv, hc, V8 hM _ _ _ hxy hv⟩
  · have := hf.df
    rw [r.df.1] at this
    rw [r.df.2]
    generalize a.defers = l at this ⊢
    cases this
    exact .nil
abbrev TQ := AExit → AFr → AHeap → Prop
def Zbc (E : Env) (I : List MEnt → AHeap → World → Prop) (ro : Option Nat) (Q : TQ) (ex : Exit) (a : Act) (w : World) : Prop :=
  ∃ e fr H M, Q e fr H ∧ St E I M H w ∧ Xr M e ex ∧ FRel ro M fr a
def Yk (E : Env) (P : Program) (I : List MEnt → AHeap → World → Prop) (ro : Option Nat) (c : Code) (fr : AFr) (H : AHeap) (Q : TQ) : Prop :=
  ∀ M w a, St E I M H w → FRel ro M fr a → c.wpIn (FF ro) 0 P (Zbc E I ro Q) a w
theorem Yk.mono {c : Code} {fr : AFr} {H : AHeap} {Q Q' : TQ} (h : Yk E P I ro c fr H Q) (hq : ∀ e fr H, Q e fr H → Q' e fr H) : Yk E P I ro c fr H Q' := by
  intro M w a st hf
  refine wpIn_mono (h M w a st hf) ?_
  rintro ex a1 w1 ⟨e, fr1, H1, M1, q, r⟩
  exact ⟨e, fr1, H1, M1, hq _ _ _ q, r⟩
theorem Yk.run (hE : EnvOk E P I) (hs : Sound E P I ih) {c : Code} {fr : AFr} {H : AHeap} {e : AExit} {fr' : AFr} {H' : AHeap} {Q : TQ} (h : Yu E ih c fr H = some (.code e fr' H')) (hq : Q e fr' H') : Yk E P I ro c fr H Q := by
  intro M w a st hf
  refine wpIn_mono (Xd hE hs c fr H e fr' H' M w a h st hf) ?_
  rintro ex a1 w1 ⟨M1, x1, x2, x3, x4⟩
  exact ⟨e, fr', H', M1, hq, st.next hE x1 x2, x3, x4⟩
theorem Yk.ren (hI : Carried I) {c : Code} {keep : List Nat} {fr fr' : AFr} {H H' : AHeap} {Q : TQ} (r : Ren E.ng keep fr H fr' H') (h : Yk E P I ro c fr' H' Q) : Yk E P I ro c fr H Q := by
  intro M w a st hf
  obtain ⟨M', s2, f2⟩ := r.to hI st hf
  exact h M' w a s2 f2
theorem Xr.normal {M : List MEnt} {e : AExit} {x : Exit} (h : Xr M e x) : e = .normal ↔ x = .normal := by
  cases e with
  | normal => simp only [Xr] at h; simp [h]
  | exit i => simp only [Xr] at h; simp [h]
  | ret => simp only [Xr] at h; simp [h]
  | panic v => obtain ⟨cv, rfl, _⟩ := h; simp
theorem Yk.seq {a b : Code} {fr : AFr} {H : AHeap} {Q : TQ} (h : Yk E P I ro a fr H fun e fr' H' => (e = .normal ∧ Yk E P I ro b fr' H' Q) ∨ (e ≠ .normal ∧ Q e fr' H')) : Yk E P I ro (.seq a b) fr H Q := by
  intro M w x st hf
  refine wpIn_seq (wpIn_mono (h M w x st hf) ?_)
  rintro ex a1 w1 ⟨e, fr1, H1, M1, q, s1, er, f1⟩
  rcases q with ⟨rfl, q⟩ | ⟨hne, q⟩
  · simp only [Xr] at er; subst er
    exact q M1 w1 a1 s1 f1
  · have post : Zbc E I ro Q ex a1 w1 := ⟨e, fr1, H1, M1, q, s1, er, f1⟩
    cases e with
    | normal => exact absurd rfl hne
    | exit i => simp only [Xr] at er; subst er; exact post
    | ret => simp only [Xr] at er; subst er; exact post
    | panic v => obtain ⟨cv, rfl, _⟩ := er; exact post
theorem Yk.cond {c : Operand} {a b : Code} {fr : AFr} {H : AHeap} {Q : TQ} {x : Bool} (hc : X5 E fr.t c = some (.bool x)) (h : Yk E P I ro (bif x then a else b) fr H Q) : Yk E P I ro (.cond c a b) fr H Q := by
  intro M w act st hf
  have := Zw st.g hf.t hc
  simp only [Zj] at this
  cases x with
  | true => exact wpIn_cond_true this (h M w act st hf)
  | false => exact wpIn_cond_false this (h M w act st hf)
def Zhz (id : Nat) : AExit → AExit
  | .exit i => bif Nat.beq i id then .normal else .exit i
  | e => e
theorem Yk.block {id : Nat} {c : Code} {fr : AFr} {H : AHeap} {Q : TQ} (h : Yk E P I ro c fr H fun e fr' H' => Q (Zhz id e) fr' H') : Yk E P I ro (.block id c) fr H Q := by
  intro M w x st hf
  refine wpIn_block (wpIn_mono (h M w x st hf) ?_)
  rintro ex a1 w1 ⟨e, fr1, H1, M1, q, s1, er, f1⟩
  cases e with
  | normal => simp only [Xr] at er; subst er; exact ⟨_, fr1, H1, M1, q, s1, rfl, f1⟩
  | ret => simp only [Xr] at er; subst er; exact ⟨_, fr1, H1, M1, q, s1, rfl, f1⟩
  | panic v =>
    have er' := er
    obtain ⟨cv, rfl, _⟩ := er
    exact ⟨_, fr1, H1, M1, q, s1, er', f1⟩
  | exit i =>
    simp only [Xr] at er; subst er
    simp only [Zhz, Bool.cond_eq_ite, Nat.beq_eq] at q
    simp only [Exit.inBlock]
    split
    · rename_i hi
      rw [if_pos hi] at q
      exact ⟨_, fr1, H1, M1, q, s1, rfl, f1⟩
    · rename_i hi
      rw [if_neg hi] at q
      exact ⟨_, fr1, H1, M1, q, s1, rfl, f1⟩
theorem Yk.loop {X : Type} {c : Code} {fr : X → AFr} {H : X → AHeap} {Inv : X → Prop} (meas : X → Nat) {Q : TQ} (hI : Carried I)
    (body : ∀ x, Inv x → Yk E P I ro c (fr x) (H x) fun e fr' H' => (e = .normal ∧ ∃ x' keep, Inv x' ∧ meas x' < meas x ∧ Ren E.ng keep fr' H' (fr x') (H x')) ∨ (e ≠ .normal ∧ Q e fr' H')) :
    ∀ x, Inv x → Yk E P I ro (.loop c) (fr x) (H x) Q := by
  intro x hx M w a st hf
  refine Zap ?_
  have main : ∀ (n : Nat) (x : X), meas x = n → Inv x → ∀ M w a, St E I M (H x) w → FRel ro M (fr x) a → Zc0 (FF ro) P c (Zbc E I ro Q) a w := by
    intro n
    induction n using Nat.strongRecOn with
    | _ n ihn =>
      intro x hn hx M w a st hf
      refine Zbn (wpIn_mono (body x hx M w a st hf) ?_)
      rintro ex a1 w1 ⟨e, fr1, H1, M1, q, s1, er, f1⟩
      rcases q with ⟨rfl, x', keep, i', hm, hr⟩ | ⟨hne, q⟩
      · simp only [Xr] at er; subst er
        obtain ⟨M2, s2, f2⟩ := hr.to hI s1 f1
        exact ihn (meas x') (by omega) x' rfl i' M2 w1 a1 s2 f2
      · have post : Zbc E I ro Q ex a1 w1 := ⟨e, fr1, H1, M1, q, s1, er, f1⟩
        cases e with
        | normal => exact absurd rfl hne
        | exit i => simp only [Xr] at er; subst er; exact post
        | ret => simp only [Xr] at er; subst er; exact post
        | panic v => obtain ⟨cv, rfl, _⟩ := er; exact post
  exact main _ x rfl hx M w a st hf
end
end Go.Vai
end
section
namespace Go.Vai
noncomputable section
theorem Y8 {α : Type} (x y : α) : bc true x y = x := rfl
theorem Xo {α : Type} (x y : α) : bc false x y = y := rfl
def isB : Option AV → Bool
  | some (.bool _) => true
  | _ => false
def asB : Option AV → Bool
  | some (.bool b) => b
  | _ => false
def isI (k : IntKind) : Option AV → Bool
  | some (.int j _) => sameKind j k
  | _ => false
def Ka : Option AV → Int
  | some (.int _ n) => n
  | _ => 0
def isS : Option AV → Bool
  | some (.str _) => true
  | _ => false
def K5 : Option AV → List UInt8
  | some (.str s) => s
  | _ => []
def isN : Option AV → Bool
  | some .nils => true
  | _ => false
def isZ : Option AV → Bool
  | some .sl0 => true
  | _ => false
def Za9 : Option AV → Bool
  | some (.sl _ _ _ _) => true
  | _ => false
def slI : Option AV → Nat
  | some (.sl i _ _ _) => i
  | _ => 0
def slO : Option AV → Nat
  | some (.sl _ o _ _) => o
  | _ => 0
def slN : Option AV → Nat
  | some (.sl _ _ n _) => n
  | _ => 0
def slC : Option AV → Option Nat
  | some (.sl _ _ _ c) => c
  | _ => none
section
variable {α : Type}
def ldK : AV → Option AV → (AV → Option α) → Option α
  | .bool _ => fun x k => bc (isB x) (k (.bool (asB x))) none
  | .int kd _ => fun x k => bc (isI kd x) (k (.int kd (Ka x))) none
  | .str _ => fun x k => bc (isS x) (k (.str (K5 x))) none
  | .nils => fun x k => bc (Za9 x) (k (.sl (slI x) (slO x) (slN x) (slC x))) (bc (isN x) (k .nils) (bc (isZ x) (k .sl0) none))
  | _ => fun x k => ob x k
theorem Yq {b : Bool} {x y : Option α} {r : α} (h : bc b x y = some r) : (b = true ∧ x = some r) ∨ (b = false ∧ y = some r) := by
  cases b
  · exact .inr ⟨rfl, h⟩
  · exact .inl ⟨rfl, h⟩
theorem Zr {b : Bool} {x : Option α} {r : α} (h : bc b x none = some r) : b = true ∧ x = some r := by
  rcases Yq h with h | ⟨_, h⟩
  · exact h
  · cases h
theorem Zp {β : Type} {x : Option β} {f : β → Option α} {r : α} (h : ob x f = some r) : ∃ v, x = some v ∧ f v = some r := by
  cases x with
  | none => cases h
  | some v => exact ⟨v, rfl, h⟩
theorem Zp6 {z : AV} {x : Option AV} {k : AV → Option α} {r : α} (h : ldK z x k = some r) : ∃ v, x = some v ∧ k v = some r := by
  unfold ldK at h
  split at h
  · obtain ⟨h1, h2⟩ := Zr h
    unfold isB at h1
    split at h1
    · rename_i b; exact ⟨.bool b, rfl, h2⟩
    · cases h1
  · rename_i kd _
    obtain ⟨h1, h2⟩ := Zr h
    unfold isI at h1
    split at h1
    · rename_i j n
      rw [Vw] at h1
      subst h1
      exact ⟨.int j n, rfl, h2⟩
    · cases h1
  · obtain ⟨h1, h2⟩ := Zr h
    unfold isS at h1
    split at h1
    · rename_i s; exact ⟨.str s, rfl, h2⟩
    · cases h1
  · rcases Yq h with ⟨h1, h2⟩ | ⟨_, h⟩
    · unfold Za9 at h1
      split at h1
      · rename_i i o n c; exact ⟨.sl i o n c, rfl, h2⟩
      · cases h1
    · rcases Yq h with ⟨h1, h2⟩ | ⟨_, h⟩
      · unfold isN at h1
        split at h1
        · exact ⟨.nils, rfl, h2⟩
        · cases h1
      · obtain ⟨h1, h2⟩ := Zr h
        unfold isZ at h1
        split at h1
        · exact ⟨.sl0, rfl, h2⟩
        · cases h1
  · exact Zp h
def Ybd (c : Tr AV) (zs : List AV) : Nat → (List AV → Option α) → Option α :=
  List.rec (motive := fun _ => Nat → (List AV → Option α) → Option α) (fun _ k => k []) (fun z _ ih off k => ldK z (c.get off) fun v => ih (Nat.succ off) fun vs => k (v :: vs)) zs
theorem Zvm {c : Tr AV} : ∀ {zs : List AV} {off : Nat} {k : List AV → Option α} {r : α}, Ybd c zs off k = some r → ∃ vs, c.getAll off zs.length = some vs ∧ k vs = some r := by
  intro zs
  induction zs with
  | nil => intro off k r h; exact ⟨[], rfl, h⟩
  | cons z zs ih =>
    intro off k r h
    have h' : (ldK z (c.get off) fun v => Ybd c zs (off + 1) fun vs => k (v :: vs)) = some r := h
    obtain ⟨v, hv, h2⟩ := Zp6 h'
    obtain ⟨vs, hvs, h3⟩ := ih h2
    refine ⟨v :: vs, ?_, h3⟩
    rw [List.length_cons, Tr.getAll_succ, hv]
    simp only [hvs]
def Z70 (o : Option AObj) (k : Tr AV → Option α) : Option α :=
  match o with
  | some (.cells _ c _ _ _ _ _) => k c
  | _ => none
def loadT (ti : ATy) (off : Nat) (k : AV → Option α) (c : Tr AV) : Option α :=
  bc ti.agg (bc (Nat.beq ti.zero.length ti.size) (Ybd c ti.zero off fun l => k (.agg l)) none) (match ti.zero with | [z] => ldK z (c.get off) k | _ => ob (c.get off) k)
def Zkp (E : Env) (H : AHeap) (t : TypeId) (k : AV → Option α) : AV → Option α
  | .ptr id off => ob (E.ty t) fun ti => Z70 (H.get id) (loadT ti off k)
  | _ => none
theorem Zho {E : Env} {H : AHeap} {t : TypeId} {k : AV → Option α} {p : AV} {r : α} (h : Zkp E H t k p = some r) : ∃ v, Q6 E H t p = some v ∧ k v = some r := by
  cases p <;> try (cases h; done)
  rename_i id off
  simp only [Zkp] at h
  replace h := Zp h
  obtain ⟨ti, ht, h⟩ := h
  unfold Z70 at h
  split at h
  case h_2 => cases h
  rename_i n c e g fz ro mk hget
  simp only [Q6, ht, hget]
  unfold loadT at h
  rcases Yq h with ⟨h1, h⟩ | ⟨h1, h⟩
  · obtain ⟨hb, h⟩ := Zr h
    rw [Nat.beq_eq] at hb
    obtain ⟨vs, hvs, h2⟩ := Zvm h
    rw [hb] at hvs
    exact ⟨.agg vs, by rw [h1]; simp [hvs], h2⟩
  · have hx : ∃ v, c.get off = some v ∧ k v = some r := by
      split at h
      · exact Zp6 h
      · exact Zp h
    obtain ⟨v, hv, h2⟩ := hx
    exact ⟨v, by rw [h1]; simp [hv], h2⟩
abbrev KF (α : Type) := Env → AHeap → Tr AV → (ARes → Option α) → Option α
def Ya0 (c a b : Operand) : KF α := fun E H fr k => ob (Xu E fr c) fun v => match v with
  | .bool t => bc t (ob (Xu E fr a) fun v => k (.val v H)) (ob (Xu E fr b) fun v => k (.val v H))
  | _ => none
def Yaa (t : TypeId) (a : Operand) : KF α := fun E H fr k => ob (Xu E fr a) fun p => Zkp E H t (fun v => k (.val v H)) p
def stK (H : AHeap) (ti : ATy) (id off : Nat) (vs : List AV) (k : ARes → Option α) : Option AObj → Option α
  | some (.cells n c e g fz ro mk) => bc (Nat.beq vs.length ti.size && vs.all AV.one) (bc (Nat.ble (off + ti.size) n) (bc (Nat.ble fz off && !ro) (k (.skip (H.put id (.cells n (c.putAll off vs) e g fz ro mk)))) none) none) none
  | _ => none
def Z1o (t : TypeId) (a x : Operand) : KF α := fun E H fr k => ob (Xu E fr a) fun p => ob (Xu E fr x) fun v => match p with
  | .ptr id off => ob (E.ty t) fun ti => stK H ti id off v.cells k (H.get id)
  | _ => none
def Zqe (ei : ATy) (id off len : Nat) (i : Int) (H : AHeap) (k : ARes → Option α) : Option α :=
  bc (Yc i 0) none (bc (Nat.blt i.toNat len) (k (.val (.ptr id (Nat.add off (Nat.mul i.toNat ei.size))) H)) none)
def Zkv (t : TypeId) (x i : Operand) : KF α := fun E H fr k => ob (Xu E fr x) fun a => ob (Xu E fr i) fun b => ob (E.ty t) fun ti => match ti.d, a, b with
  | .array n e, .ptr id off, .int _ i => ob (E.ty e) fun ei => Zqe ei id off n i H k
  | .slice e, .sl id off len _, .int _ i => ob (E.ty e) fun ei => Zqe ei id off len i H k
  | _, _, _ => none
def Za (s : List UInt8) (i : Nat) : UInt8 := (nth s i).getD 0
def Zzb (t : TypeId) (x i : Operand) : KF α := fun E H fr k => ob (Xu E fr x) fun a => ob (Xu E fr i) fun b => ob (E.ty t) fun ti => match ti.d, a, b with
  | .str, .str s, .int _ i => bc (Yc i 0) none (bc (Nat.blt i.toNat (Zb s)) (k (.val (Yp (Za s i.toNat)) H)) none)
  | _, _, _ => ob (Kv E t a b) fun v => k (.val v H)
def Zyl (top : Nat) (k : Nat → Option α) : AV → Option α
  | .int _ i => bc (Yc i 0) none (bc (Nat.ble i.toNat top) (k i.toNat) none)
  | _ => none
def loK (h : Nat) (k : Nat → Option α) : Option AV → Option α
  | some v => Zyl h k v
  | none => k 0
def hiK (len top : Nat) (k : Nat → Option α) : Option AV → Option α
  | some v => Zyl top k v
  | none => k len
def cn (b : Bool) (x y : Nat) : Nat := Bool.rec (motive := fun _ => Nat) y x b
def Ycn (id off size h l c : Nat) (H : AHeap) (k : ARes → Option α) : Option α :=
  k (.val (.sl id (cn (Nat.beq c l) off (Nat.add off (Nat.mul l size))) (Nat.sub h l) (some (Nat.sub c l))) H)
def Zu0 (ei : ATy) (id off len : Nat) (hi lo : Option AV) (H : AHeap) (k : ARes → Option α) : Option AObj → Option α
  | some (.cells n _ _ (some gs) _ _ _) => bc (Nat.beq gs ei.size && !(Nat.beq gs 0)) (bc (Nat.ble (Nat.add off (Nat.mul len gs)) n) (hiK len (Nat.div (Nat.sub n off) gs) (fun h => loK h (fun l => bc (Nat.blt (Nat.add off (Nat.mul l gs)) n || Nat.beq l 0) (k (.val (.sl id (Nat.add off (Nat.mul l gs)) (Nat.sub h l) none) H)) (k (.val .sl0 H))) lo) hi) none) none
  | _ => none
def Z12 (t : TypeId) (x : Operand) (lo hi mx : Option Operand) : KF α := fun E H fr k => ob (Xu E fr x) fun a => ob (Zlj E fr lo) fun l => ob (Zlj E fr hi) fun h => ob (Zlj E fr mx) fun m => ob (E.ty t) fun ti => match ti.d, a, m with
  | .str, .str s, none => (match h with
      | none => loK (Zb s) (fun l => k (.val (.str (s.drop l)) H)) l
      | some hv => Zyl (Zb s) (fun h => loK h (fun l => k (.val (.str ((s.drop l).take (Nat.sub h l))) H)) l) hv)
  | .slice e, .sl id off len (some c), none => ob (E.ty e) fun ei => hiK len c (fun h => loK h (fun l => Ycn id off ei.size h l c H k) l) h
  | .slice e, .sl id off len none, none => ob (E.ty e) fun ei => Zu0 ei id off len h l H k (H.get id)
  | _, _, _ => ob (Za8 E H t a l h m) fun v => k (.val v H)
def Yaf (t : TypeId) (l c : Operand) : KF α := fun E H fr k => ob (Xu E fr l) fun a => ob (Xu E fr c) fun b => ob (E.ty t) fun ti => match ti.d, a, b with
  | .slice e, .int _ l, .int _ c => ob (E.ty e) fun ei => bc (Yc l 0) none (bc (Yc c l) none (bc (Zz c.toNat (ei.bytes + ei.size)) (k (.val (.sl H.next 0 l.toNat (some c.toNat)) (Xx H e (rep ei.zero c.toNat)))) none))
  | _, _, _ => none
def Ygg : BinOp → Bool
  | .add => true
  | _ => false
def Zww (a : Int) (n : Nat) : Int := Int.mul a (Int.ofNat (Nat.pow 2 n))
def Zw4 (a : Int) (n : Nat) : Int := Int.fdiv a (Int.ofNat (Nat.pow 2 n))
def Yfy (kd : IntKind) (a b : Int) : Int := Int.ofNat (Nat.land (bitsOf kd a) (bitsOf kd b))
def orI (kd : IntKind) (a b : Int) : Int := Int.ofNat (Nat.lor (bitsOf kd a) (bitsOf kd b))
def Yhm (kd : IntKind) (a b : Int) : Int := Int.ofNat (Nat.xor (bitsOf kd a) (bitsOf kd b))
def Zuk (kd : IntKind) (a b : Int) : Int := Int.ofNat (Nat.land (bitsOf kd a) (Nat.xor (2 ^ kd.bits - 1) (bitsOf kd b)))
def Z0f (op : BinOp) (kd kd' : IntKind) (a b : Int) (k : AV → Option α) : Option α :=
  match op with
  | .shl => bc (Yc b 0) none (k (.int kd (Zf kd (Zww a (Nat.min b.toNat kd.bits)))))
  | .shr => bc (Yc b 0) none (k (.int kd (Zw4 a (Nat.min b.toNat kd.bits))))
  | .quo => bc (sameKind kd kd') (bc (Xz b 0) none (k (.int kd (Zf kd (Int.tdiv a b))))) none
  | .rem => bc (sameKind kd kd') (bc (Xz b 0) none (k (.int kd (Int.tmod a b)))) none
  | .and => bc (sameKind kd kd') (k (.int kd (Zf kd (Yfy kd a b)))) none
  | .or => bc (sameKind kd kd') (k (.int kd (Zf kd (orI kd a b)))) none
  | .xor => bc (sameKind kd kd') (k (.int kd (Zf kd (Yhm kd a b)))) none
  | .andNot => bc (sameKind kd kd') (k (.int kd (Zf kd (Zuk kd a b)))) none
  | op => bc (sameKind kd kd') (ob (Zu4 op kd a b) k) none
theorem Zu6 (n : Nat) : (2 : Int) ^ n = Int.ofNat (Nat.pow 2 n) := by
  show _ = ((2 ^ n : Nat) : Int)
  rw [Int.natCast_pow]; rfl
theorem Zrm {op : BinOp} {kd kd' : IntKind} {a b : Int} {k : AV → Option α} {r : α} (E : Env) (t : TypeId) (h : Z0f op kd kd' a b k = some r) : ∃ v, Kb E op t (.int kd a) (.int kd' b) = some v ∧ k v = some r := by
  have same : ∀ {x : Option α}, bc (sameKind kd kd') x none = some r → kd = kd' ∧ x = some r := fun h => by
    obtain ⟨h1, h2⟩ := Zr h
    exact ⟨(Vw _ _).1 h1, h2⟩
  have sk : ∀ k : IntKind, sameKind k k = true := fun k => (Vw _ _).2 rfl
  cases op <;> simp only [Z0f] at h
  case shl =>
    rcases Yq h with ⟨_, h⟩ | ⟨h1, h⟩
    · cases h
    · refine ⟨_, ?_, h⟩
      simp only [Kb, Zbj, h1, cond_false, Qx, Zww]
      rw [Zu6]; rfl
  case shr =>
    rcases Yq h with ⟨_, h⟩ | ⟨h1, h⟩
    · cases h
    · refine ⟨_, ?_, h⟩
      simp only [Kb, Zbj, h1, cond_false, Zw4]
      rw [Zu6]
  case quo =>
    obtain ⟨e, h2⟩ := same h; clear h; subst e
    rcases Yq h2 with ⟨_, h⟩ | ⟨h1, h⟩
    · cases h
    · exact ⟨_, by simp only [Kb, sk, cond_true, W9, h1, cond_false, Qx], h⟩
  case rem =>
    obtain ⟨e, h2⟩ := same h; clear h; subst e
    rcases Yq h2 with ⟨_, h⟩ | ⟨h1, h⟩
    · cases h
    · exact ⟨_, by simp only [Kb, sk, cond_true, W9, h1, cond_false], h⟩
  case and => obtain ⟨e, h2⟩ := same h; clear h; subst e; exact ⟨_, by simp only [Kb, sk, cond_true, W9, Qx, Yfy]; rfl, h2⟩
  case or => obtain ⟨e, h2⟩ := same h; clear h; subst e; exact ⟨_, by simp only [Kb, sk, cond_true, W9, Qx, orI]; rfl, h2⟩
  case xor => obtain ⟨e, h2⟩ := same h; clear h; subst e; exact ⟨_, by simp only [Kb, sk, cond_true, W9, Qx, Yhm]; rfl, h2⟩
  case andNot => obtain ⟨e, h2⟩ := same h; clear h; subst e; exact ⟨_, by simp only [Kb, sk, cond_true, W9, Qx, Zuk]; rfl, h2⟩
  all_goals
    obtain ⟨e, h2⟩ := same h; clear h; subst e
    obtain ⟨v, hv, h⟩ := Zp h2
    rw [Zqp] at hv
    exact ⟨v, by simp only [Kb, sk, cond_true]; exact hv, h⟩
def Ztw (E : Env) (asz bs : List AV) : List (Nat × Nat) → Option Bool
  | [] => some true
  | (o, ft) :: fs => match Je E ft asz o, Je E ft bs o with
    | some x, some y => (match eqv E 5 ft x y, Ztw E asz bs fs with
      | some b, some c => some (b && c)
      | some b, none => bif b then none else some false
      | none, _ => none)
    | _, _ => none
theorem Zqr (E : Env) (asz bs : List AV) : ∀ l : List (Nat × Nat), Ztw E asz bs l = Zro E (eqv E 5) asz bs l
  | [] => rfl
  | (o, ft) :: fs => by
    simp only [Ztw, Zro]
    rw [Zqr E asz bs fs]
    cases Je E ft asz o with
    | none => rfl
    | some x =>
      cases Je E ft bs o with
      | none => rfl
      | some y =>
        simp only
        cases eqv E 5 ft x y with
        | none => rfl
        | some b => cases b <;> cases Zro E (eqv E 5) asz bs fs <;> rfl
def isEq : BinOp → Bool
  | .eql => true
  | _ => false
def isNe : BinOp → Bool
  | .neq => true
  | _ => false
def Zzn (E : Env) (H : AHeap) (op : BinOp) (t : TypeId) (k : ARes → Option α) (asz bs : List AV) : Option α := ob (E.ty t) fun ti => match ti.d with
  | .struct fs eqok => bc eqok (ob (Ztw E asz bs fs) fun e => bc (isEq op) (k (.val (.bool e) H)) (bc (isNe op) (k (.val (.bool (!e)) H)) none)) none
  | _ => none
theorem Zrp {E : Env} {H : AHeap} {op : BinOp} {t : TypeId} {x y : Operand} {k : ARes → Option α} {asz bs : List AV} {r : α} (h : Zzn E H op t k asz bs = some r) : ob (Zlc E H op t x y (.agg asz) (.agg bs)) k = some r := by
  unfold Zzn at h
  obtain ⟨ti, ht, h⟩ := Zp h
  split at h
  case h_2 => cases h
  rename_i fs eqok hd
  obtain ⟨h1, h⟩ := Zr h
  obtain ⟨e, he, h⟩ := Zp h
  rw [Zqr] at he
  have hv : eqv E 6 t (.agg asz) (.agg bs) = some e := by
    simp only [eqv, ht, hd, h1, cond_true]
    exact he
  rcases Yq h with ⟨ho, h2⟩ | ⟨_, h2⟩
  · obtain rfl : op = .eql := by cases op <;> first | rfl | cases ho
    have e2 : Zlc E H .eql t x y (.agg asz) (.agg bs) = some (.val (.bool e) H) := by
      show (ob (Zvv E .eql t (.agg asz) (.agg bs)) fun v => rv H v) = _
      rw [Zgg]
      simp only [Kb, hv]
      rfl
    rw [e2]; exact h2
  · obtain ⟨ho, h3⟩ := Zr h2
    obtain rfl : op = .neq := by cases op <;> first | rfl | cases ho
    have e2 : Zlc E H .neq t x y (.agg asz) (.agg bs) = some (.val (.bool (!e)) H) := by
      show (ob (Zvv E .neq t (.agg asz) (.agg bs)) fun v => rv H v) = _
      rw [Zgg]
      simp only [Kb, hv]
      rfl
    rw [e2]; exact h3
def Z2c (E : Env) (H : AHeap) (op : BinOp) (t : TypeId) (x y : Operand) (k : ARes → Option α) : AV → AV → Option α
  | .str a, .str b => bc (Ygg op) (bc (Nat.ble (Nat.add (Zb a) (Zb b)) 1099511627776) (k (.val (.str (a ++ b)) H)) none) (ob (Zlc E H op t x y (.str a) (.str b)) k)
  | .int kd a, .int kd' b => Z0f op kd kd' a b fun v => k (.val v H)
  | .agg asz, .agg bs => Zzn E H op t k asz bs
  | a, b => ob (Zlc E H op t x y a b) k
theorem Zsk {E : Env} {H : AHeap} {op : BinOp} {t : TypeId} {x y : Operand} {k : ARes → Option α} {a b : AV} {r : α} (h : Z2c E H op t x y k a b = some r) : ob (Zlc E H op t x y a b) k = some r := by
  unfold Z2c at h
  split at h
  · rename_i a b
    rcases Yq h with ⟨ho, h2⟩ | ⟨_, h2⟩
    · obtain ⟨h1, h3⟩ := Zr h2
      obtain rfl : op = .add := by cases op <;> first | rfl | cases ho
      have h1' : Nat.ble (Zb a + Zb b) 1099511627776 = true := h1
      have e : Zlc E H .add t x y (.str a) (.str b) = some (.val (.str (a ++ b)) H) := by
        show (ob (Zvv E .add t (.str a) (.str b)) fun v => rv H v) = _
        rw [Zgg]
        simp only [Kb, Zn1, h1', cond_true]
        rfl
      rw [e]; exact h3
    · exact h2
  · rename_i kd a kd' b
    obtain ⟨v, hv, h2⟩ := Zrm E t h
    have e : Zlc E H op t x y (.int kd a) (.int kd' b) = some (.val v H) := by
      show (ob (Zvv E op t (.int kd a) (.int kd' b)) fun v => rv H v) = _
      rw [Zgg, hv]; rfl
    rw [e]; exact h2
  · exact Zrp h
  · exact h
def kBin (op : BinOp) (t : TypeId) (x y : Operand) : KF α := fun E H fr k => ob (Xu E fr x) fun a => ob (Xu E fr y) fun b => Z2c E H op t x y k a b
def Vl (c : Tr AV) (off n : Nat) : Bool := (c.getAll off n).isSome
def Wo (c : Tr AV) (off n : Nat) : List AV := (c.getAll off n).getD []
theorem Ztp {c : Tr AV} {off n : Nat} (h : Vl c off n = true) : c.getAll off n = some (Wo c off n) := by
  unfold Vl at h; unfold Wo
  cases e : c.getAll off n with
  | none => rw [e] at h; cases h
  | some l => rfl
def Zoh (l : List AV) : Bool := (Qn l).isSome
def Zn0 (l : List AV) : List UInt8 := (Qn l).getD []
theorem Z8b {l : List AV} (h : Zoh l = true) : Qn l = some (Zn0 l) := by
  unfold Zoh at h; unfold Zn0
  cases e : Qn l with
  | none => rw [e] at h; cases h
  | some l => rfl
def Zzv (l : List AV) : Bool := l.all AV.one
def Zgm (H : AHeap) (es n : Nat) (k : List AV → Option α) : AV → Option α
  | .nils => k []
  | .sl0 => bc (Nat.beq n 0) (k []) none
  | .sl id off _ _ => Z70 (H.get id) fun c => bc (Vl c off (Nat.mul n es)) (k (Wo c off (Nat.mul n es))) none
  | .str s => bc (Nat.beq es 1) (k (s.map Yp)) none
  | _ => none
theorem Zao {H : AHeap} {es n : Nat} {k : List AV → Option α} {x : AV} {r : α} (h : Zgm H es n k x = some r) (hn : ∀ s, x = .str s → n = Zb s) : ∃ l, Y5 H es n x = some l ∧ k l = some r := by
  cases x <;> try (cases h; done)
  case nils => exact ⟨[], rfl, h⟩
  case sl0 =>
    obtain ⟨h1, h2⟩ := Zr h
    exact ⟨[], by simp only [Y5, h1, cond_true], h2⟩
  case sl id off len cap =>
    simp only [Zgm, Z70] at h
    split at h
    case h_2 => cases h
    rename_i c _ _ _ _ _ hget
    obtain ⟨h1, h2⟩ := Zr h
    exact ⟨_, by simp only [Y5, hget]; exact Ztp h1, h2⟩
  case str s =>
    obtain ⟨h1, h2⟩ := Zr h
    refine ⟨s.map Yp, ?_, h2⟩
    have := hn s rfl
    simp only [Y5, h1, cond_true, this, Zb, List.take_length]
def Z05 (k : Nat → Option α) : AV → Option α
  | .nils => k 0
  | .sl0 => k 0
  | .sl _ _ n _ => k n
  | .str s => k (Zb s)
  | _ => none
theorem Zd4 {k : Nat → Option α} {x : AV} {r : α} (h : Z05 k x = some r) : ∃ n, Zdr x = some n ∧ k n = some r := by
  cases x <;> first | (cases h; done) | exact ⟨_, rfl, h⟩
def Yhl (k : AV → AHeap → Option α) (H : AHeap) (id off len c m es : Nat) (news : List AV) : Option AObj → Option α
  | some (.cells n cs e' g fz ro mk) => bc (Nat.ble (Nat.add off (Nat.mul (Nat.add len m) es)) n) (bc (Nat.ble fz (Nat.add off (Nat.mul len es)) && !ro) (bc (Zzv news) (k (.sl id off (Nat.add len m) (some c)) (H.put id (.cells n (cs.putAll (Nat.add off (Nat.mul len es)) news) e' g fz ro mk))) none) none) none
  | _ => none
def Z9n (k : AV → AHeap → Option α) (H : AHeap) (id off len e m es eb : Nat) (news : List AV) : Option AObj → Option α
  | some (.cells n cs e' (some gs) fz false mk) => bc (Nat.beq off 0 && (Nat.beq gs es && Nat.beq e e')) (bc (Nat.beq n (Nat.mul len es)) (bc (Nat.ble fz n) (bc (Zz (Nat.add len m) eb) (bc (Zzv news) (k (.sl H.next 0 (Nat.add len m) none) ((H.kill id).new (.cells (Nat.add n (Nat.mul m es)) (cs.putAll n news) e (some gs) fz false mk))) none) none) none) none) none
  | _ => none
def Zvh (H : AHeap) (e es eb m : Nat) (news : List AV) (k : AV → AHeap → Option α) : AV → Option α
  | .nils => bc (Nat.beq m 0) (k .nils H) (bc (Zz m eb) (k (.sl H.next 0 m none) (H.new (.cells (Nat.mul m es) (Tr.nil.putAll 0 news) e (some es) 0 false false))) none)
  | .sl id off len (some c) => bc (Nat.ble (Nat.add len m) c) (bc (Nat.beq m 0) (k (.sl id off (Nat.add len m) (some c)) H) (Yhl k H id off len c m es news (H.get id)))
      (bc (Zz (Nat.add len m) eb) (Zgm H es len (fun olds => k (.sl H.next 0 (Nat.add len m) none) (H.new (.cells (Nat.mul (Nat.add len m) es) (Tr.nil.putAll 0 (olds ++ news)) e (some es) 0 false false))) (.sl id off len (some c))) none)
  | .sl id off len none => bc (Nat.beq m 0) (k (.sl id off len none) H) (Z9n k H id off len e m es eb news (H.get id))
  | _ => none
theorem Zmc {H : AHeap} {e es eb m : Nat} {news : List AV} {k : AV → AHeap → Option α} {s : AV} {r : α} (h : Zvh H e es eb m news k s = some r) : ∃ v H', Xe H e es eb m news s = some (v, H') ∧ k v H' = some r := by
  cases s <;> try (cases h; done)
  case nils =>
    simp only [Zvh] at h
    rcases Yq h with ⟨h1, h⟩ | ⟨h1, h⟩
    · exact ⟨_, _, by simp only [Xe, h1, cond_true], h⟩
    · obtain ⟨h2, h⟩ := Zr h
      exact ⟨_, _, by simp only [Xe, h1, h2, cond_true, cond_false]; rfl, h⟩
  case sl id off len cap =>
    cases cap with
    | some c =>
      simp only [Zvh] at h
      rcases Yq h with ⟨h1, h⟩ | ⟨h1, h⟩
      · have h1' : Nat.ble (len + m) c = true := h1
        rcases Yq h with ⟨h2, h⟩ | ⟨h2, h⟩
        · exact ⟨_, _, by simp only [Xe, h1', h2, cond_true]; rfl, h⟩
        · unfold Yhl at h
          split at h
          case h_2 => cases h
          rename_i n cs e' g fz ro mk hget
          obtain ⟨h3, h⟩ := Zr h
          obtain ⟨h4, h⟩ := Zr h
          obtain ⟨h5, h⟩ := Zr h
          rw [Bool.and_eq_true] at h4
          have h3' : Nat.ble (off + (len + m) * es) n = true := h3
          have h4' : Nat.ble fz (off + len * es) = true := h4.1
          have h5' : news.all AV.one = true := h5
          exact ⟨_, _, by simp only [Xe, h1', h2, cond_true, cond_false, hget, h3', h4', h4.2, h5', Bool.and_self]; rfl, h⟩
      · have h1' : Nat.ble (len + m) c = false := h1
        obtain ⟨h2, h⟩ := Zr h
        have h2' : Zz (len + m) eb = true := h2
        obtain ⟨l, hl, h⟩ := Zao h (fun s e => by cases e)
        exact ⟨_, _, by simp only [Xe, h1', h2', cond_true, cond_false, hl]; rfl, h⟩
    | none =>
      simp only [Zvh] at h
      rcases Yq h with ⟨h1, h⟩ | ⟨h1, h⟩
      · exact ⟨_, _, by simp only [Xe, h1, cond_true], h⟩
      · unfold Z9n at h
        split at h
        case h_2 => cases h
        rename_i n cs e' gs fz mk hget
        obtain ⟨h3, h⟩ := Zr h
        obtain ⟨h4, h⟩ := Zr h
        obtain ⟨h5, h⟩ := Zr h
        obtain ⟨h6, h⟩ := Zr h
        obtain ⟨h7, h⟩ := Zr h
        simp only [Bool.and_eq_true] at h3
        have h4' : Nat.beq n (len * es) = true := h4
        have h6' : Zz (len + m) eb = true := h6
        have h7' : news.all AV.one = true := h7
        refine ⟨_, _, ?_, h⟩
        simp only [Xe, h1, cond_false, hget, h3.1, h3.2.1, h3.2.2, h4', h5, h6', h7', Bool.and_self, cond_true]
        rfl
def Ztl (E : Env) (H : AHeap) (t : TypeId) (s : AV) (k : AHeap → Option α) : Option α :=
  match s with
  | .sl id 0 len none => match E.ty t with
    | some ti => match ti.d with
      | .slice e => match E.ty e, H.get id with
        | some ei, some (.cells n c e' g fz false mk) => bc (Nat.blt (Nat.mul len ei.size) n) (bc (Nat.ble fz (Nat.mul len ei.size)) (bc (Vl c 0 (Nat.mul len ei.size)) (k (H.put id (.cells (Nat.mul len ei.size) (Tr.nil.putAll 0 (Wo c 0 (Nat.mul len ei.size))) e' g fz false mk))) none) none) (k H)
        | _, _ => k H
      | _ => k H
    | none => k H
  | _ => k H
theorem Zku {E : Env} {H : AHeap} {t : TypeId} {s : AV} {k : AHeap → Option α} {r : α} (h : Ztl E H t s k = some r) : k (trimS E H t s) = some r := by
  unfold Ztl at h
  unfold trimS
  split at h
  · rename_i id len
    cases ht : E.ty t with
    | none => rw [ht] at h; exact h
    | some ti =>
      rw [ht] at h
      dsimp only at h ⊢
      cases hd : ti.d <;> rw [hd] at h <;> try exact h
      rename_i e
      dsimp only at h ⊢
      split at h
      · rename_i ei n c e' g fz mk he hget
        simp only [he, hget]
        rcases Yq h with ⟨h1, h⟩ | ⟨h1, h⟩
        · obtain ⟨h2, h⟩ := Zr h
          obtain ⟨h3, h⟩ := Zr h
          have h1' : Nat.blt (len * ei.size) n = true := h1
          have h2' : Nat.ble fz (len * ei.size) = true := h2
          have h3' := Ztp h3
          have h3'' : c.getAll 0 (len * ei.size) = some (Wo c 0 (len * ei.size)) := h3'
          simp only [h1', h2', Bool.and_self, cond_true, h3'']
          exact h
        · have h1' : Nat.blt (len * ei.size) n = false := h1
          simp only [h1', Bool.false_and, cond_false]
          exact h
      · rename_i hno
        simp only []
        exact h
  · rename_i hno
    split
    · exact absurd rfl (hno _ _)
    · exact h
def Zu8 (ts : List TypeId) (args : List Operand) : KF α := fun E H fr k => match ts with
  | t :: u :: _ => ob (Zfx E fr args) fun l => match l with
    | [s, x] => ob (E.ty t) fun ti => match ti.d with
      | .slice e => ob (E.ty e) fun ei => bc (Z3g E u && !(Nat.beq ei.size 0)) (Ztl E H t s fun H => Z05 (fun m => Zgm H ei.size m (fun news => Zvh H e ei.size ei.bytes m news (fun v H => k (.val v H)) s) x) x)
          (bc (Zyx E u && !(Nat.beq ei.size 0)) (match x with | .int _ n => bc ((!(Yc n 0)) && Zz n.toNat (ei.bytes + ei.size)) (Ztl E H t s fun H => Zvh H e ei.size ei.bytes n.toNat (rep ei.zero n.toNat) (fun v H => k (.val v H)) s) none | _ => none) none)
      | _ => none
    | _ => none
  | _ => none
def isPU : AD → Bool
  | .ptr _ => true
  | .uptr => true
  | _ => false
def Yay : Callee → Bool
  | .builtin .append => true
  | _ => false
def Z1l (H : AHeap) (es n : Nat) (k : List AV → Option α) (x : AV) : Option α := match x with
  | .str s => bc (Nat.beq es 1) (k ((s.take n).map Yp)) none
  | x => Zgm H es n k x
def Zz3 (H : AHeap) (id off n es : Nat) (news : List AV) (k : AV → AHeap → Option α) : Option AObj → Option α
  | some (.cells m c e' g fz ro mk) => bc (Nat.ble (Nat.add off (Nat.mul n es)) m) (bc (Nat.ble fz off && !ro) (bc (Zzv news) (k (.int .i64 (Int.ofNat n)) (H.put id (.cells m (c.putAll off news) e' g fz ro mk))) none) none) none
  | _ => none
def Zr2 (H : AHeap) (es n : Nat) (news : List AV) (k : AV → AHeap → Option α) : AV → Option α
  | .nils => k (.int .i64 0) H
  | .sl0 => k (.int .i64 0) H
  | .sl id off _ _ => bc (Nat.beq n 0) (k (.int .i64 0) H) (Zz3 H id off n es news k (H.get id))
  | _ => none
def cpK (H : AHeap) (es n : Nat) (d s : AV) (k : AV → AHeap → Option α) : Option α := Z1l H es n (fun news => Zr2 H es n news k d) s
theorem Z4h {E : Env} {H : AHeap} {t e : TypeId} {ti ei : ATy} {dn sn n : Nat} {d s : AV} {k : AV → AHeap → Option α} {r : α} (ht : E.ty t = some ti) (hd : ti.d = .slice e) (he : E.ty e = some ei) (h1 : Zdr d = some dn) (h2 : Zdr s = some sn) (hn : min sn dn = n) (h : cpK H ei.size n d s k = some r) :
    ∃ v H', Zmw E H t d s = some (v, H') ∧ k v H' = some r := by
  have src : ∃ l, Y5 H ei.size n s = some l ∧ Zr2 H ei.size n l k d = some r := by
    unfold cpK Z1l at h
    split at h
    · obtain ⟨h3, h⟩ := Zr h
      exact ⟨_, by simp only [Y5, h3, cond_true], h⟩
    · rename_i hs
      exact Zao h (fun s' e => absurd e (hs s'))
  clear h
  obtain ⟨l, hl, h⟩ := src
  unfold Zmw
  simp only [ht, h1, h2, hd, he, hn, hl]
  cases d <;> try (cases h; done)
  case nils => exact ⟨_, _, rfl, h⟩
  case sl0 => exact ⟨_, _, rfl, h⟩
  case sl id off len cap =>
    simp only [Zr2] at h
    rcases Yq h with ⟨h3, h⟩ | ⟨h3, h⟩
    · exact ⟨_, _, by simp only [h3, cond_true], h⟩
    · unfold Zz3 at h
      split at h
      case h_2 => cases h
      rename_i m c e' g fz ro mk hget
      obtain ⟨h4, h⟩ := Zr h
      obtain ⟨h5, h⟩ := Zr h
      obtain ⟨h6, h⟩ := Zr h
      rw [Bool.and_eq_true] at h5
      have h4' : Nat.ble (off + n * ei.size) m = true := h4
      have h6' : l.all AV.one = true := h6
      exact ⟨_, _, by simp only [h3, cond_false, hget, h4', h5.1, h5.2, h6', Bool.and_self, cond_true], h⟩
def Z4w : Callee → Bool
  | .builtin .copy => true
  | _ => false
def Z94 (ts : List TypeId) (args : List Operand) : KF α := fun E H fr k => match ts with
  | t :: _ => ob (Zfx E fr args) fun l => match l with
    | [d, s] => ob (E.ty t) fun ti => match ti.d with
      | .slice e => ob (E.ty e) fun ei => Z05 (fun dn => Z05 (fun sn => bc (Nat.ble sn dn) (cpK H ei.size sn d s fun v H => k (.val v H)) none) s) d
      | _ => none
    | _ => none
  | _ => none
def Yba (c : Call) (o : Oper) : KF α := bc (Yay c.callee) (Zu8 c.argTypes.toList c.args.toList) (bc (Z4w c.callee) (Z94 c.argTypes.toList c.args.toList) (fun E H fr k => ob (xOp o E H fr) k))
def Yax (s d : TypeId) (x : Operand) (o : Oper) : KF α := fun E H fr k => ob (Xu E fr x) fun a => ob (E.ty s) fun si => ob (E.ty d) fun di => match di.d, a with
  | .int kd, .int _ n => k (.val (.int kd (Zf kd n)) H)
  | .str, .int _ n => bc ((!(Yc n 0)) && Yc n 128) (k (.val (.str [UInt8.ofNat n.toNat]) H)) none
  | .str, .str s => k (.val (.str s) H)
  | .str, a => (match si.d with
    | .slice e => ob (E.ty e) fun ei => (match ei.d with
      | .int .u8 => Z05 (fun n => Zgm H 1 n (fun cs => bc (Zoh cs) (k (.val (.str (Zn0 cs)) H)) none) a) a
      | _ => none)
    | _ => none)
  | .slice e, .str s => (match si.d with
    | .str => ob (E.ty e) fun ei => (match ei.d with
      | .int .u8 => bc (Zz (Zb s) 1) (k (.val (.sl H.next 0 (Zb s) none) (H.new (.cells (Zb s) (Tr.nil.putAll 0 (s.map Yp)) e (some 1) 0 false true)))) none
      | _ => none)
    | _ => none)
  | _, _ => ob (xOp o E H fr) k
def Z9z (x : Operand) : KF α := fun E H fr k => ob (Xu E fr x) fun a => match a with
  | .ptr id 0 => (match H.get id with
    | some (.siter s pos) => bc (Nat.blt pos (Zb s)) (bc (Nat.blt (Za s pos).toNat 128) (k (.val (.tup [.bool true, .int .i64 (Int.ofNat pos), .int .i32 (Int.ofNat (Za s pos).toNat)]) (H.put id (.siter s (Nat.succ pos))))) none) (k (.val (.tup [.bool false]) H))
    | _ => none)
  | _ => none
def kOp (o : Oper) : KF α :=
  match o.op with
  | .call c => Yba c o
  | .convert s d x => Yax s d x o
  | .next x b => bc b (Z9z x) (fun E H fr k => ob (xOp o E H fr) k)
  | .pick c a b => Ya0 c a b
  | .load t a => Yaa t a
  | .store t a x => Z1o t a x
  | .indexAddr t x i => Zkv t x i
  | .index t x i => Zzb t x i
  | .slice t x lo hi mx => Z12 t x lo hi mx
  | .makeSlice t l c => Yaf t l c
  | .binOp op t x y _ => kBin op t x y
  | _ => fun E H fr k => ob (xOp o E H fr) k
theorem Zyq : ∀ {s : List UInt8} {i : Nat}, i < Zb s → ∃ b, nth s i = some b ∧ Za s i = b := by
  intro s
  induction s with
  | nil => intro i h; simp [Zb] at h
  | cons a s ih =>
    intro i h
    cases i with
    | zero => exact ⟨a, rfl, rfl⟩
    | succ i =>
      obtain ⟨b, h1, h2⟩ := ih (i := i) (by simpa [Zb] using h)
      exact ⟨b, h1, h2⟩
theorem Zdx {top : Nat} {k : Nat → Option α} {v : AV} {r : α} (h : Zyl top k v = some r) : ∃ n, Qg v top = some n ∧ k n = some r := by
  cases v <;> try (cases h; done)
  rename_i kd i
  simp only [Zyl] at h
  rcases Yq h with ⟨_, h⟩ | ⟨h1, h⟩
  · cases h
  · obtain ⟨h2, h⟩ := Zr h
    exact ⟨i.toNat, by simp [Qg, h1, h2], h⟩
def loB (h : Nat) : Option AV → Option Nat
  | some v => Qg v h
  | none => some 0
theorem Zxp (n : Nat) (lo : Option AV) {l : Nat} (h : loB n lo = some l) : Ze4 n n lo none none = some (l, n, n) := by
  unfold Ze4
  cases lo with
  | none => cases h; rfl
  | some v =>
    have h : Qg v n = some l := h
    dsimp only
    rw [h]
theorem Zx0 (n c : Nat) (v : AV) (lo : Option AV) {m l : Nat} (hm : Qg v c = some m) (h : loB m lo = some l) : Ze4 n c lo (some v) none = some (l, m, c) := by
  unfold Ze4
  dsimp only
  rw [hm]
  cases lo with
  | none => cases h; rfl
  | some u =>
    have h : Qg u m = some l := h
    dsimp only
    rw [h]
theorem Zpb {len top : Nat} {k : Nat → Option α} {hi : Option AV} {r : α} (h : hiK len top k hi = some r) : ∃ n, (match hi with | some v => Qg v top | none => some len) = some n ∧ k n = some r := by
  cases hi with
  | none => exact ⟨len, rfl, h⟩
  | some v => exact Zdx h
theorem Zpd {top : Nat} {f : Nat → Option α} {l : Option AV} {r : α} (h : loK top f l = some r) : ∃ n, loB top l = some n ∧ f n = some r := by
  cases l with
  | none => exact ⟨0, rfl, h⟩
  | some v => exact Zdx h
theorem Zu1 (len c : Nat) (hi lo : Option AV) {m l : Nat} (hm : (match hi with | some v => Qg v c | none => some len) = some m) (h : loB m lo = some l) : Ze4 len c lo hi none = some (l, m, c) := by
  have low : (match (match lo with | some v => Qg v m | none => some 0) with | none => none | some l => some (l, m, c)) = some (l, m, c) := by
    cases lo with
    | none => cases h; rfl
    | some u =>
      have h : Qg u m = some l := h
      dsimp only
      rw [h]
  unfold Ze4
  cases hi with
  | none =>
    have hm : some len = some m := hm
    cases hm
    exact low
  | some v =>
    have hm : Qg v c = some m := hm
    dsimp only
    rw [hm]
    exact low
theorem Zj1 {β : Type} {b : Bool} {x y : KF β} {E : Env} {H : AHeap} {fr : Tr AV} {k : ARes → Option β} {r : β} (h : bc b x y E H fr k = some r) : (b = true ∧ x E H fr k = some r) ∨ (b = false ∧ y E H fr k = some r) := by
  cases b
  · exact .inr ⟨rfl, h⟩
  · exact .inl ⟨rfl, h⟩
theorem Zdg {E : Env} {H : AHeap} {fr : Tr AV} {o : Oper} {k : ARes → Option α} {r : α} (h : kOp o E H fr k = some r) : ∃ x, Xc E H fr o = some x ∧ k x = some r := by
  have fall : ob (xOp o E H fr) k = some r → ∃ x, Xc E H fr o = some x ∧ k x = some r := fun h => by
    obtain ⟨x, hx, h2⟩ := Zp h
    exact ⟨x, by rw [← Zfl]; exact hx, h2⟩
  unfold kOp at h
  cases hop : o.op <;> simp only [hop] at h <;> first | exact fall h | skip
  case call c =>
    unfold Yba at h
    rcases Zj1 h with ⟨h1, h⟩ | ⟨_, h⟩
    · unfold Xc; rw [hop]; dsimp only
      have hc : c.callee = .builtin .append := by
        unfold Yay at h1
        split at h1
        · assumption
        · cases h1
      rw [hc]; dsimp only
      unfold Zu8 at h
      split at h
      case h_2 => cases h
      rename_i t u ts hts
      rw [Zbg] at h
      replace h := Zp h
      obtain ⟨l, hl, h⟩ := h
      split at h
      case h_2 => cases h
      rename_i s x
      replace h := Zp h
      obtain ⟨ti, ht, h⟩ := h
      split at h
      case h_2 => cases h
      rename_i e hd
      replace h := Zp h
      obtain ⟨ei, he, h⟩ := h
      rcases Yq h with ⟨h2, h⟩ | ⟨h2, h⟩
      · replace h := Zku h
        replace h := Zd4 h
        obtain ⟨m, hm, h⟩ := h
        obtain ⟨news, hn, h⟩ := Zao h (fun s e => by subst e; simp only [Zdr, Option.some.injEq] at hm; exact hm.symm)
        replace h := Zmc h
        obtain ⟨v, H', ha, h⟩ := h
        refine ⟨_, ?_, h⟩
        rw [hl, hts]
        simp only [Ju, Zf1, ht, hd, he, h2, cond_true, hm, hn, ha, vhh]
      · replace h := Zr h
        obtain ⟨h3, h⟩ := h
        split at h
        case h_2 => cases h
        rename_i kx n
        replace h := Zr h
        obtain ⟨h4, h⟩ := h
        replace h := Zku h
        replace h := Zmc h
        obtain ⟨v, H', ha, h⟩ := h
        refine ⟨_, ?_, h⟩
        rw [hl, hts]
        simp only [Ju, Zf1, ht, hd, he, h2, h3, h4, cond_true, cond_false, ha, vhh]
    rcases Zj1 h with ⟨h1, h⟩ | ⟨_, h⟩
    · unfold Xc; rw [hop]; dsimp only
      have hc : c.callee = .builtin .copy := by
        unfold Z4w at h1
        split at h1
        · assumption
        · cases h1
      rw [hc]; dsimp only
      unfold Z94 at h
      split at h
      case h_2 => cases h
      rename_i t ts hts
      rw [Zbg] at h
      replace h := Zp h
      obtain ⟨l, hl, h⟩ := h
      split at h
      case h_2 => cases h
      rename_i d s
      replace h := Zp h
      obtain ⟨ti, ht, h⟩ := h
      split at h
      case h_2 => cases h
      rename_i e hd
      replace h := Zp h
      obtain ⟨ei, he, h⟩ := h
      replace h := Zd4 h
      obtain ⟨dn, hdn, h⟩ := h
      replace h := Zd4 h
      obtain ⟨sn, hsn, h⟩ := h
      have key : ∃ v H', Zmw E H t d s = some (v, H') ∧ k (.val v H') = some r := by
        obtain ⟨h2, h⟩ := Zr h
        rw [Nat.ble_eq] at h2
        exact Z4h ht hd he hdn hsn (Nat.min_eq_left h2) h
      obtain ⟨v, H', ha, h⟩ := key
      refine ⟨_, ?_, h⟩
      rw [hl, hts]
      simp only [Ju, ha, vhh]
    · exact fall h
  case convert s d x =>
    unfold Yax at h
    rw [Ys] at h
    replace h := Zp h
    obtain ⟨a, ha, h⟩ := h
    replace h := Zp h
    obtain ⟨si, hsi, h⟩ := h
    replace h := Zp h
    obtain ⟨di, hdi, h⟩ := h
    have noU : isPU di.d = false → Zbv E H s d a = none := fun h1 => by
      unfold Zbv
      simp only [hsi, hdi]
      cases hd : di.d <;> rw [hd] at h1 <;> first | (cases h1; done) | (cases si.d <;> rfl)
    have fin : ∀ {v : AV} {H' : AHeap}, Zbv E H s d a = none → V6 E H s d a = some (v, H') → Xc E H fr o = some (.val v H') := fun h1 h2 => by
      unfold Xc; rw [hop]; dsimp only
      simp only [ha, h1, h2, vhh]
    split at h
    · rename_i kd kn n hd
      refine ⟨_, fin (noU (by rw [hd]; rfl)) ?_, h⟩
      simp only [V6, hsi, hdi, hd, Qx]
    · rename_i kn n hd
      replace h := Zr h
      obtain ⟨h1, h⟩ := h
      refine ⟨_, fin (noU (by rw [hd]; rfl)) ?_, h⟩
      simp only [V6, hsi, hdi, hd, h1, cond_true]
    · rename_i str hd
      refine ⟨_, fin (noU (by rw [hd]; rfl)) ?_, h⟩
      simp only [V6, hsi, hdi, hd]
    · rename_i a _ _ hd hni hns
      split at h
      case h_2 => cases h
      rename_i e hs
      replace h := Zp h
      obtain ⟨ei, he, h⟩ := h
      split at h
      case h_2 => cases h
      rename_i hei
      replace h := Zd4 h
      obtain ⟨n, hn, h⟩ := h
      obtain ⟨cs, hcs, h⟩ := Zao h (fun s e => absurd e (hns s))
      replace h := Zr h
      obtain ⟨h1, h⟩ := h
      refine ⟨_, fin (noU (by rw [hd]; rfl)) ?_, h⟩
      clear fin noU fall ha
      cases a <;> first | (cases hn; done) | exact absurd rfl (hns _) | exact absurd rfl (hni _ _) | simp only [V6, hsi, hdi, hd, hs, he, hei, hn, hcs, Z8b h1]
    · rename_i e str hd
      split at h
      case h_2 => cases h
      rename_i hs
      replace h := Zp h
      obtain ⟨ei, he, h⟩ := h
      split at h
      case h_2 => cases h
      rename_i hei
      replace h := Zr h
      obtain ⟨h1, h⟩ := h
      refine ⟨_, fin (noU (by rw [hd]; rfl)) ?_, h⟩
      simp only [V6, hsi, hdi, hd, he, hei, hs, h1, cond_true]
    · exact fall h
  case next x b =>
    rcases Zj1 h with ⟨h1, h2⟩ | ⟨_, h⟩
    · subst h1
      clear h
      have h := h2
      clear h2
      unfold Xc; rw [hop]; dsimp only
      unfold Z9z at h
      rw [Ys] at h
      replace h := Zp h
      obtain ⟨a, ha, h⟩ := h
      split at h
      case h_2 => cases h
      rename_i id
      split at h
      case h_2 => cases h
      rename_i str pos hget
      simp only [ha, hget]
      rcases Yq h with ⟨h1, h⟩ | ⟨h1, h⟩
      · replace h := Zr h
        obtain ⟨h2, h⟩ := h
        rw [Nat.blt_eq] at h1
        obtain ⟨c, hc1, hc2⟩ := Zyq h1
        rw [hc2] at h h2
        exact ⟨_, by simp only [hc1, h2, cond_true], h⟩
      · have h1' : ¬ pos < Zb str := fun hlt => by rw [← Nat.blt_eq, h1] at hlt; cases hlt
        have : nth str pos = none := by rw [Zkn, List.getElem?_eq_none_iff]; simpa [Zb] using h1'
        exact ⟨_, by simp only [this], h⟩
    · exact fall h
  case pick c a b =>
    unfold Xc; rw [hop]; dsimp only
    simp only [Ya0, Ys] at h
    replace h := Zp h
    obtain ⟨v, hv, h⟩ := h
    rw [hv]
    cases v <;> try (cases h; done)
    rename_i t
    rcases Yq h with ⟨rfl, h⟩ | ⟨rfl, h⟩
    · replace h := Zp h
      obtain ⟨u, hu, h⟩ := h
      exact ⟨_, by simp [hu, vh], h⟩
    · replace h := Zp h
      obtain ⟨u, hu, h⟩ := h
      exact ⟨_, by simp [hu, vh], h⟩
  case load t a =>
    unfold Xc; rw [hop]; dsimp only
    simp only [Yaa, Ys] at h
    replace h := Zp h
    obtain ⟨p, hp, h⟩ := h
    obtain ⟨v, hv, h⟩ := Zho h
    exact ⟨_, by simp [hp, hv, vh], h⟩
  case store t a x =>
    unfold Xc; rw [hop]; dsimp only
    simp only [Z1o, Ys] at h
    replace h := Zp h
    obtain ⟨p, hp, h⟩ := h
    replace h := Zp h
    obtain ⟨v, hv, h⟩ := h
    cases p <;> try (cases h; done)
    rename_i id off
    replace h := Zp h
    obtain ⟨ti, ht, h⟩ := h
    unfold stK at h
    split at h
    case h_2 => cases h
    rename_i n c e g fz ro mk hget
    obtain ⟨h1, h⟩ := Zr h
    obtain ⟨h2, h⟩ := Zr h
    obtain ⟨h3, h⟩ := Zr h
    simp only [Bool.and_eq_true] at h1 h3
    refine ⟨_, ?_, h⟩
    simp [hp, hv, Qp, ht, hget, h1.1, h1.2, h2, h3.1, h3.2]
  case indexAddr t x i =>
    unfold Xc; rw [hop]; dsimp only
    simp only [Zkv, Ys] at h
    replace h := Zp h
    obtain ⟨a, ha, h⟩ := h
    replace h := Zp h
    obtain ⟨b, hb, h⟩ := h
    replace h := Zp h
    obtain ⟨ti, ht, h⟩ := h
    have go : ∀ {ei : ATy} {id off len : Nat} {i : Int}, Zqe ei id off len i H k = some r → (Yc i 0 = false ∧ Nat.blt i.toNat len = true) ∧ k (.val (.ptr id (off + i.toNat * ei.size)) H) = some r := by
      intro ei id off len i h
      unfold Zqe at h
      rcases Yq h with ⟨_, h⟩ | ⟨h1, h⟩
      · cases h
      · obtain ⟨h2, h⟩ := Zr h
        exact ⟨⟨h1, h2⟩, h⟩
    split at h
    · rename_i n e id off kd i hd
      replace h := Zp h
      obtain ⟨ei, he, h⟩ := h
      obtain ⟨⟨h1, h2⟩, h⟩ := go h
      exact ⟨_, by simp [ha, hb, Qi, ht, hd, he, h1, h2, vh], h⟩
    · rename_i e id off len cap kd i hd
      replace h := Zp h
      obtain ⟨ei, he, h⟩ := h
      obtain ⟨⟨h1, h2⟩, h⟩ := go h
      exact ⟨_, by simp [ha, hb, Qi, ht, hd, he, h1, h2, vh], h⟩
    · cases h
  case index t x i =>
    unfold Xc; rw [hop]; dsimp only
    simp only [Zzb, Ys] at h
    replace h := Zp h
    obtain ⟨a, ha, h⟩ := h
    replace h := Zp h
    obtain ⟨b, hb, h⟩ := h
    replace h := Zp h
    obtain ⟨ti, ht, h⟩ := h
    split at h
    · rename_i s kd i hd
      rcases Yq h with ⟨_, h⟩ | ⟨h1, h⟩
      · cases h
      · obtain ⟨h2, h⟩ := Zr h
        rw [Nat.blt_eq] at h2
        obtain ⟨c, hc1, hc2⟩ := Zyq h2
        refine ⟨_, ?_, h⟩
        simp [ha, hb, Kv, ht, hd, h1, hc1, hc2, vh]
    · replace h := Zp h
      obtain ⟨v, hv, h⟩ := h
      exact ⟨_, by simp [ha, hb, hv, vh], h⟩
  case slice t x lo hi mx =>
    unfold Xc; rw [hop]; dsimp only
    have oe : ∀ y, Zlj E fr y = V0 E fr y := fun y => by
      cases y with
      | none => rfl
      | some y => simp only [Zlj, V0, Ys]; cases X5 E fr y <;> rfl
    simp only [Z12, Ys, oe] at h
    replace h := Zp h
    obtain ⟨a, ha, h⟩ := h
    replace h := Zp h
    obtain ⟨l, hl, h⟩ := h
    replace h := Zp h
    obtain ⟨hh, hhh, h⟩ := h
    replace h := Zp h
    obtain ⟨m, hm, h⟩ := h
    replace h := Zp h
    obtain ⟨ti, ht, h⟩ := h
    have lo_some : ∀ {top : Nat} {f : Nat → Option α} {l : Option AV}, loK top f l = some r → ∃ n, loB top l = some n ∧ f n = some r := by
      intro top f l h
      cases l with
      | none => exact ⟨0, rfl, h⟩
      | some v => exact Zdx h
    split at h
    · rename_i s hd
      split at h
      · obtain ⟨n, hn, h⟩ := lo_some h
        refine ⟨_, ?_, h⟩
        simp only [ha, hl, hhh, hm, Za8, ht, hd, Zxp _ _ hn, vh]
      · rename_i hv
        obtain ⟨n1, hn1, h⟩ := Zdx h
        obtain ⟨n, hn, h⟩ := lo_some h
        refine ⟨_, ?_, h⟩
        simp only [ha, hl, hhh, hm, Za8, ht, hd, Zx0 _ _ _ _ hn1 hn, vh]
        rfl
    · rename_i e id off len c hd
      replace h := Zp h
      obtain ⟨ei, he, h⟩ := h
      replace h := Zpb h
      obtain ⟨n1, hn1, h⟩ := h
      replace h := Zpd h
      obtain ⟨n, hn, h⟩ := h
      have e1 := Zu1 len c hh l hn1 hn
      refine ⟨_, ?_, h⟩
      simp only [ha, hl, hhh, hm, Za8, ht, hd, he, e1, vh]
      cases h1 : Nat.beq c n <;> simp only [cn] <;> rfl
    · rename_i e id off len hd
      replace h := Zp h
      obtain ⟨ei, he, h⟩ := h
      unfold Zu0 at h
      split at h
      case h_2 => cases h
      rename_i nn cc ee gs fz ro mk hget
      replace h := Zr h
      obtain ⟨h1, h⟩ := h
      replace h := Zr h
      obtain ⟨h2, h⟩ := h
      replace h := Zpb h
      obtain ⟨n1, hn1, h⟩ := h
      replace h := Zpd h
      obtain ⟨n, hn, h⟩ := h
      have e1 : Ze4 len ((nn - off) / gs) l hh none = some (n, n1, (nn - off) / gs) := Zu1 len _ hh l hn1 hn
      rw [Bool.and_eq_true] at h1
      have h2' : Nat.ble (off + len * gs) nn = true := h2
      rcases Yq h with ⟨h3, h⟩ | ⟨h3, h⟩
      · have h3' : (Nat.blt (off + n * gs) nn || Nat.beq n 0) = true := h3
        exact ⟨_, by simp only [ha, hl, hhh, hm, Za8, ht, hd, he, hget, h1.1, h1.2, h2', e1, h3', Bool.and_self, cond_true, vh]; rfl, h⟩
      · have h3' : (Nat.blt (off + n * gs) nn || Nat.beq n 0) = false := h3
        exact ⟨_, by simp only [ha, hl, hhh, hm, Za8, ht, hd, he, hget, h1.1, h1.2, h2', e1, h3', Bool.and_self, cond_true, cond_false, vh], h⟩
    · replace h := Zp h
      obtain ⟨v, hv, h⟩ := h
      exact ⟨_, by simp [ha, hl, hhh, hm, hv, vh], h⟩
  case makeSlice t l c =>
    unfold Xc; rw [hop]; dsimp only
    simp only [Yaf, Ys] at h
    replace h := Zp h
    obtain ⟨a, ha, h⟩ := h
    replace h := Zp h
    obtain ⟨b, hb, h⟩ := h
    replace h := Zp h
    obtain ⟨ti, ht, h⟩ := h
    split at h
    · rename_i e kd li kd2 ci hd
      replace h := Zp h
      obtain ⟨ei, he, h⟩ := h
      rcases Yq h with ⟨_, h⟩ | ⟨h1, h⟩
      · cases h
      · rcases Yq h with ⟨_, h⟩ | ⟨h2, h⟩
        · cases h
        · obtain ⟨h3, h⟩ := Zr h
          exact ⟨_, by simp [ha, hb, ht, hd, he, h1, h2, h3], h⟩
    · cases h
  case binOp op t x y z =>
    replace h := Zp h
    obtain ⟨a, ha, h⟩ := h
    replace h := Zp h
    obtain ⟨b, hb, h⟩ := h
    replace h := Zp (Zsk h)
    obtain ⟨v, hv, h⟩ := h
    have he := Zfl E H fr o
    unfold Zpq xOp at he
    rw [hop] at he
    simp only [Ydq, ha, hb, Xk, hv] at he
    exact ⟨v, he.symm, h⟩
end
end
end Go.Vai
end
