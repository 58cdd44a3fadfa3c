/- A data-level interpreter of the model's code: values, memory by names of its own, one function for a call. (Definitions alone.)
Plain facts about the interpreter's tries, numbers and strings.
How the interpreter's values and memory stand for the model's; what becomes of that when memory grows or a row is written. -/
import GoSem.Core.View
import GoSem.Dispatch
import Derived.Laws.AppendOwn
section
namespace Go.Vai
noncomputable section
inductive Tr (α : Type) where
  | nil
  | node (v : Option α) (l r : Tr α)
  deriving Inhabited
namespace Tr
variable {α : Type}
def get (t : Tr α) : Nat → Option α :=
  Tr.rec (motive := fun _ => Nat → Option α) (fun _ => none) (fun v _ _ gl gr i => Nat.rec (motive := fun _ => Option α) v (fun j _ => Bool.rec (motive := fun _ => Option α) (gr (Nat.div j 2)) (gl (Nat.div j 2)) (Nat.beq (Nat.mod j 2) 0)) i) t
def setF (n : Nat) : Tr α → Nat → Option α → Tr α :=
  Nat.rec (motive := fun _ => Tr α → Nat → Option α → Tr α) (fun _ _ _ => .nil) (fun _ ih t i v => Tr.rec (motive := fun _ => Tr α)
    (Nat.rec (motive := fun _ => Tr α) (.node v .nil .nil) (fun j _ => Bool.rec (motive := fun _ => Tr α) (.node none .nil (ih .nil (Nat.div j 2) v)) (.node none (ih .nil (Nat.div j 2) v) .nil) (Nat.beq (Nat.mod j 2) 0)) i)
    (fun x l r _ _ => Nat.rec (motive := fun _ => Tr α) (.node v l r) (fun j _ => Bool.rec (motive := fun _ => Tr α) (.node x l (ih r (Nat.div j 2) v)) (.node x (ih l (Nat.div j 2) v) r) (Nat.beq (Nat.mod j 2) 0)) i) t) n
def set (t : Tr α) (i : Nat) (v : α) : Tr α := setF 48 t i (some v)
def del (t : Tr α) (i : Nat) : Tr α := setF 48 t i none
def putAll (t : Tr α) (k : Nat) (vs : List α) : Tr α :=
  List.rec (motive := fun _ => Tr α → Nat → Tr α) (fun t _ => t) (fun v _ ih t k => ih (t.set k v) (Nat.succ k)) vs t k
def getAll (t : Tr α) (k n : Nat) : Option (List α) :=
  Nat.rec (motive := fun _ => Nat → Option (List α)) (fun _ => some []) (fun _ ih k => Option.rec (motive := fun _ => Option (List α)) none (fun v => Option.rec (motive := fun _ => Option (List α)) none (fun vs => some (v :: vs)) (ih (Nat.succ k))) (t.get k)) n k
end Tr
inductive AV where
  | bool (b : Bool)
  | int (k : IntKind) (n : Int)
  | str (s : List UInt8)
  | nilp
  | ptr (id off : Nat)
  | nils
  | sl (id off len : Nat) (cap : Option Nat)
  | sl0
  | nilf
  | fn (f : FuncId) (first cap : List AV)
  | yld (id : Nat)
  | nili
  | iface (t : TypeId) (v : AV)
  | agg (cs : List AV)
  | tup (vs : List AV)
  | nilm
  | mapv (id : Nat)
  | opq (k : Option IntKind)
  | ext (j k b o n c : Nat)
  deriving Inhabited
abbrev undefA : AV := .tup []
inductive AExit where
  | normal
  | exit (id : Nat)
  | ret
  | panic (v : AV)
  deriving Inhabited
inductive LSt where
  | ready | busy | done | exhausted
  deriving DecidableEq, Inhabited
inductive AObj where
  | cells (n : Nat) (t : Tr AV) (e : TypeId) (grow : Option Nat) (fz : Nat) (ro mk : Bool)
  | loop (st : LSt) (pend : Option AExit) (n : Nat) (tmps : Tr AV) (params : List Nat) (assign body : Code) (blk : Nat)
  | siter (s : List UInt8) (pos : Nat)
  | dfr
  | mp (es : List (AV × AV × Nat)) (clock : Nat) (ro : Bool)
  | miter (m : Option Nat) (since : Nat) (seen : List Nat) (last : Nat)
  deriving Inhabited
inductive ADf where
  | mark (id : Nat)
  | call (f : FuncId) (args : List AV)
  deriving Inhabited
structure AFr where
  n : Nat
  t : Tr AV
  df : List ADf
  rd : Bool
  deriving Inhabited
structure AHeap where
  objs : Tr AObj
  next : Nat
  deriving Inhabited
def AHeap.get (H : AHeap) (id : Nat) : Option AObj := H.objs.get id
def AHeap.put (H : AHeap) (id : Nat) (o : AObj) : AHeap := { H with objs := H.objs.set id o }
def AHeap.kill (H : AHeap) (id : Nat) : AHeap := { H with objs := H.objs.del id }
def AHeap.new (H : AHeap) (o : AObj) : AHeap := { objs := H.objs.set H.next o, next := H.next + 1 }
inductive AD where
  | int (k : IntKind) | bool | str | ptr (e : Nat) | slice (e : Nat) | array (n e : Nat) | struct (fs : List (Nat × Nat)) (eqok : Bool) | func | iface | uptr | other | map (k e : Nat)
  deriving Inhabited
structure ATy where
  d : AD
  size : Nat
  bytes : Nat
  zero : List AV
  agg : Bool
  cmp : Bool
  deriving Inhabited
structure AFunc where
  ntmps : Nat
  body : Code
  results : List ResultVar
  deriving Inhabited
structure Env where
  ng : Nat
  ra : Nat → Nat → Nat → Nat → Nat → Bool
  ty : Nat → Option ATy
  fn : Nat → Option AFunc
  sm : Nat → List AV → AHeap → Option (AV × AHeap)
def ieq : Int → Int → Bool
  | .ofNat a, .ofNat b => Nat.beq a b
  | .negSucc a, .negSucc b => Nat.beq a b
  | _, _ => false
def ilt : Int → Int → Bool
  | .ofNat a, .ofNat b => Nat.blt a b
  | .ofNat _, .negSucc _ => false
  | .negSucc _, .ofNat _ => true
  | .negSucc a, .negSucc b => Nat.blt b a
def leq : List UInt8 → List UInt8 → Bool
  | [], [] => true
  | a :: asz, b :: bs => bif Nat.beq a.toNat b.toNat then leq asz bs else false
  | _, _ => false
def llt : List UInt8 → List UInt8 → Bool
  | _, [] => false
  | [], _ :: _ => true
  | a :: asz, b :: bs => bif Nat.blt a.toNat b.toNat then true else bif Nat.beq a.toNat b.toNat then llt asz bs else false
def nth : List UInt8 → Nat → Option UInt8
  | [], _ => none
  | a :: _, 0 => some a
  | _ :: asz, i + 1 => nth asz i
def lenU (l : List UInt8) : Nat := l.length
def bitsOf (k : IntKind) (x : Int) : Nat := (x % (2 ^ k.bits : Int)).toNat
def intBin (op : BinOp) (k : IntKind) (x y : Int) : Option AV :=
  match op with
  | .add => some (.int k (k.wrap (x + y)))
  | .sub => some (.int k (k.wrap (x - y)))
  | .mul => some (.int k (k.wrap (x * y)))
  | .quo => bif ieq y 0 then none else some (.int k (k.wrap (x.tdiv y)))
  | .rem => bif ieq y 0 then none else some (.int k (x.tmod y))
  | .and => some (.int k (k.wrap (Nat.land (bitsOf k x) (bitsOf k y))))
  | .or => some (.int k (k.wrap (Nat.lor (bitsOf k x) (bitsOf k y))))
  | .xor => some (.int k (k.wrap (Nat.xor (bitsOf k x) (bitsOf k y))))
  | .andNot => some (.int k (k.wrap (Nat.land (bitsOf k x) (Nat.xor (2 ^ k.bits - 1) (bitsOf k y)))))
  | .eql => some (.bool (ieq x y))
  | .neq => some (.bool (!(ieq x y)))
  | .lss => some (.bool (ilt x y))
  | .leq => some (.bool (!(ilt y x)))
  | .gtr => some (.bool (ilt y x))
  | .geq => some (.bool (!(ilt x y)))
  | _ => none
def intShift (op : BinOp) (k : IntKind) (x y : Int) : Option AV :=
  bif ilt y 0 then none else
  match op with
  | .shl => some (.int k (k.wrap (x * 2 ^ (min y.toNat k.bits))))
  | .shr => some (.int k (x.fdiv (2 ^ (min y.toNat k.bits))))
  | _ => none
def strBin (op : BinOp) (a b : List UInt8) : Option AV :=
  match op with
  | .add => bif Nat.ble (lenU a + lenU b) 1099511627776 then some (.str (a ++ b)) else none
  | .eql => some (.bool (leq a b))
  | .neq => some (.bool (!(leq a b)))
  | .lss => some (.bool (llt a b))
  | .leq => some (.bool (llt a b || leq a b))
  | .gtr => some (.bool (!(llt a b || leq a b)))
  | .geq => some (.bool (!(llt a b)))
  | _ => none
def sameKind (j k : IntKind) : Bool := decide (j = k)
def partA (E : Env) (t : TypeId) (cs : List AV) (off : Nat) : Option AV :=
  match E.ty t with
  | none => none
  | some ti => bif ti.agg then (bif Nat.ble (off + ti.size) cs.length then some (.agg ((cs.drop off).take ti.size)) else none) else (cs.drop off).head?
def eqFs (E : Env) (rec : Nat → AV → AV → Option Bool) (asz bs : List AV) : List (Nat × Nat) → Option Bool
  | [] => some true
  | (o, ft) :: fs => match partA E ft asz o, partA E ft bs o with
    | some x, some y => match rec ft x y with
      | some true => eqFs E rec asz bs fs
      | some false => some false
      | none => none
    | _, _ => none
def eqv (E : Env) : Nat → Nat → AV → AV → Option Bool
  | 0, _, _, _ => none
  | d + 1, t, x, y =>
    match E.ty t with
    | none => none
    | some ti =>
      match ti.d, x, y with
      | .bool, .bool a, .bool b => some (a == b)
      | .int _, .int k a, .int k' b => bif sameKind k k' then some (ieq a b) else none
      | .str, .str a, .str b => some (leq a b)
      | .ptr _, .nilp, .nilp => some true
      | .ptr _, .nilp, .ptr _ _ => some false
      | .ptr _, .ptr _ _, .nilp => some false
      | .ptr e, .ptr i a, .ptr j b => match E.ty e with
        | some ei => bif Nat.beq i j && !(Nat.beq ei.size 0) then some (Nat.beq a b) else none
        | none => none
      | .slice _, .nils, .nils => some true
      | .slice _, .nils, .sl _ _ _ _ => some false
      | .slice _, .sl _ _ _ _, .nils => some false
      | .slice _, .nils, .sl0 => some false
      | .slice _, .sl0, .nils => some false
      | .func, .nilf, .nilf => some true
      | .func, .nilf, .fn _ _ _ => some false
      | .func, .fn _ _ _, .nilf => some false
      | .iface, .nili, .nili => some true
      | .iface, .nili, .iface _ _ => some false
      | .iface, .iface _ _, .nili => some false
      | .iface, .iface a v, .iface b u => bif Nat.beq a b then (match E.ty a with
          | some ai => bif ai.cmp then eqv E d a v u else none
          | none => none) else some false
      | .struct fs eqok, .agg asz, .agg bs => bif eqok then eqFs E (eqv E d) asz bs fs else none
      | .map _ _, .nilm, .nilm => some true
      | .map _ _, .nilm, .mapv _ => some false
      | .map _ _, .mapv _, .nilm => some false
      | _, _, _ => none
def binA (E : Env) (op : BinOp) (xt : TypeId) (x y : AV) : Option AV :=
  match op, x, y with
  | .shl, .int k a, .int _ b => intShift .shl k a b
  | .shr, .int k a, .int _ b => intShift .shr k a b
  | op, .int k a, .int k' b => bif sameKind k k' then intBin op k a b else none
  | op, .str a, .str b => strBin op a b
  | .eql, x, y => match eqv E 6 xt x y with | some b => some (.bool b) | none => none
  | .neq, x, y => match eqv E 6 xt x y with | some b => some (.bool (!b)) | none => none
  | _, _, _ => none
def unA (op : UnOp) (x : AV) : Option AV :=
  match op, x with
  | .neg, .int k n => some (.int k (k.wrap (0 - n)))
  | .xor, .int k n => some (.int k (k.wrap (Nat.xor (2 ^ k.bits - 1) (bitsOf k n))))
  | .not, .bool b => some (.bool (!b))
  | _, _ => none
def ofCells : List Value → Option (List AV)
  | [] => some []
  | .int k n :: r => match ofCells r with | some l => some (.int k n :: l) | none => none
  | .bool b :: r => match ofCells r with | some l => some (.bool b :: l) | none => none
  | .string s :: r => match ofCells r with | some l => some (.str s.data.toList :: l) | none => none
  | .pointer none :: r => match ofCells r with | some l => some (.nilp :: l) | none => none
  | .slice none 0 0 :: r => match ofCells r with | some l => some (.nils :: l) | none => none
  | .nilFunc :: r => match ofCells r with | some l => some (.nilf :: l) | none => none
  | .nilIface :: r => match ofCells r with | some l => some (.nili :: l) | none => none
  | .map none :: r => match ofCells r with | some l => some (.nilm :: l) | none => none
  | _ :: _ => none
def constA : Value → Option AV
  | .bool b => some (.bool b)
  | .int k n => some (.int k n)
  | .string s => some (.str s.data.toList)
  | .pointer none => some .nilp
  | .slice none 0 0 => some .nils
  | .nilFunc => some .nilf
  | .nilIface => some .nili
  | .map none => some .nilm
  | .agg cs => match ofCells cs.toList with | some l => some (.agg l) | none => none
  | .tuple vs => match ofCells vs.toList with | some l => some (.tup l) | none => none
  | _ => none
def opd (E : Env) (fr : Tr AV) : Operand → Option AV
  | .tmp t => fr.get t
  | .const v => constA v
  | .global g => bif Nat.blt g E.ng then some (.ptr g 0) else none
  | .func f => some (.fn f [] [])
def opds (E : Env) (fr : Tr AV) : List Operand → Option (List AV)
  | [] => some []
  | x :: xs => match opd E fr x with
    | none => none
    | some v => match opds E fr xs with
      | none => none
      | some vs => some (v :: vs)
def AV.cells : AV → List AV
  | .agg cs => cs
  | v => [v]
def AV.one : AV → Bool
  | .agg _ => false
  | .tup _ => false
  | _ => true
def loadVarA (E : Env) (H : AHeap) (t : TypeId) : AV → Option AV
  | .ptr id off => match E.ty t, H.get id with
    | some ti, some (.cells _ c _ _ _ _ _) => bif ti.agg then (match c.getAll off ti.size with | some l => some (.agg l) | none => none) else c.get off
    | _, _ => none
  | _ => none
def storeVarA (E : Env) (H : AHeap) (t : TypeId) (p v : AV) : Option AHeap :=
  match p with
  | .ptr id off => match E.ty t, H.get id with
    | some ti, some (.cells n c e g fz ro mk) =>
      bif Nat.beq v.cells.length ti.size && (v.cells.all AV.one && (Nat.ble (off + ti.size) n && (Nat.ble fz off && !ro))) then
        some (H.put id (.cells n (c.putAll off v.cells) e g fz ro mk)) else none
    | _, _ => none
  | _ => none
def newRowA (H : AHeap) (e : TypeId) (cs : List AV) : AHeap := H.new (.cells cs.length (Tr.nil.putAll 0 cs) e none 0 false false)
def rep (z : List AV) : Nat → List AV
  | 0 => []
  | n + 1 => z ++ rep z n
def putSub (l : List AV) (off : Nat) (vs : List AV) : List AV := l.take off ++ (vs ++ l.drop (off + vs.length))
def fillA (place : Nat → Option (Nat × Nat)) (cells : List AV) : List (Nat × AV) → Option (List AV)
  | [] => some cells
  | (i, v) :: rest => match place i with
    | none => none
    | some (off, size) => bif Nat.beq v.cells.length size && Nat.ble (off + size) cells.length then fillA place (putSub cells off v.cells) rest else none
def partsA (E : Env) (fr : Tr AV) : List (Nat × Operand) → Option (List (Nat × AV))
  | [] => some []
  | (i, x) :: r => match opd E fr x with
    | none => none
    | some v => match partsA E fr r with
      | none => none
      | some l => some ((i, v) :: l)
def nthF : List (Nat × Nat) → Nat → Option (Nat × Nat)
  | [], _ => none
  | a :: _, 0 => some a
  | _ :: asz, i + 1 => nthF asz i
def buildA (E : Env) (t : TypeId) (ps : List (Nat × AV)) : Option AV :=
  match E.ty t with
  | none => none
  | some ti => match ti.d with
    | .struct fs _ => match fillA (fun i => match nthF fs i with
        | none => none
        | some (off, ft) => match E.ty ft with | some fi => some (off, fi.size) | none => none) ti.zero ps with
      | some l => some (.agg l)
      | none => none
    | .array _ e => match E.ty e with
      | none => none
      | some ei => match fillA (fun i => some (i * ei.size, ei.size)) ti.zero ps with
        | some l => some (.agg l)
        | none => none
    | _ => none
def bytesA : List AV → Option (List UInt8)
  | [] => some []
  | .int .u8 n :: r => match bytesA r with | some l => some (UInt8.ofNat n.toNat :: l) | none => none
  | _ :: _ => none
def byteAV (b : UInt8) : AV := .int .u8 (Int.ofNat b.toNat)
def sliceCells (H : AHeap) (es n : Nat) : AV → Option (List AV)
  | .nils => some []
  | .sl0 => bif Nat.beq n 0 then some [] else none
  | .sl id off _ _ => match H.get id with
    | some (.cells _ c _ _ _ _ _) => c.getAll off (n * es)
    | _ => none
  | .str s => bif Nat.beq es 1 then some ((s.take n).map byteAV) else none
  | _ => none
def lenA : AV → Option Nat
  | .nils => some 0
  | .sl0 => some 0
  | .sl _ _ n _ => some n
  | .str s => some (lenU s)
  | _ => none
def roomy (n es : Nat) : Bool := Nat.ble ((n + 1) * (es + 1)) 68719476736 || (Nat.ble es 1000 && Nat.ble ((n + 1) * (es + 1)) 211106232532992)
def srcTy (E : Env) (t : TypeId) : Bool :=
  match E.ty t with
  | some ti => match ti.d with
    | .slice _ => true
    | .str => true
    | _ => false
  | none => false
def appendCells (H : AHeap) (e es eb m : Nat) (news : List AV) : AV → Option (AV × AHeap)
  | .nils => bif Nat.beq m 0 then some (.nils, H) else bif roomy m eb then
      some (.sl H.next 0 m none, H.new (.cells (m * es) (Tr.nil.putAll 0 news) e (some es) 0 false false)) else none
  | .sl id off len (some c) =>
    bif Nat.ble (len + m) c then
      bif Nat.beq m 0 then some (.sl id off (len + m) (some c), H) else
      match H.get id with
      | some (.cells n cs e' g fz ro mk) =>
          bif Nat.ble (off + (len + m) * es) n && (Nat.ble fz (off + len * es) && (!ro && news.all AV.one)) then
            some (.sl id off (len + m) (some c), H.put id (.cells n (cs.putAll (off + len * es) news) e' g fz ro mk)) else none
      | _ => none
    else bif roomy (len + m) eb then
      match sliceCells H es len (.sl id off len (some c)) with
      | some olds => some (.sl H.next 0 (len + m) none, H.new (.cells ((len + m) * es) (Tr.nil.putAll 0 (olds ++ news)) e (some es) 0 false false))
      | none => none
    else none
  | .sl id off len none =>
    bif Nat.beq m 0 then some (.sl id off len none, H) else
    match H.get id with
    | some (.cells n cs e' (some gs) fz false mk) =>
      bif Nat.beq off 0 && (Nat.beq gs es && (Nat.beq n (len * es) && (Nat.beq e e' && (Nat.ble fz n && (roomy (len + m) eb && news.all AV.one))))) then
        some (.sl H.next 0 (len + m) none, (H.kill id).new (.cells (n + m * es) (cs.putAll n news) e (some gs) fz false mk)) else none
    | _ => none
  | _ => none
def intTy (E : Env) (t : TypeId) : Bool :=
  match E.ty t with
  | some ti => match ti.d with
    | .int _ => true
    | _ => false
  | none => false
def appendA (E : Env) (H : AHeap) (t xt : TypeId) (s x : AV) : Option (AV × AHeap) :=
  match E.ty t with
  | none => none
  | some ti => match ti.d with
    | .slice e => match E.ty e with
      | none => none
      | some ei => bif srcTy E xt && !(Nat.beq ei.size 0) then
          match lenA x with
          | none => none
          | some m => match sliceCells H ei.size m x with
            | none => none
            | some news => appendCells H e ei.size ei.bytes m news s
        else bif intTy E xt && !(Nat.beq ei.size 0) then
          match x with
          | .int _ n => bif (!(ilt n 0)) && roomy n.toNat (ei.bytes + ei.size) then appendCells H e ei.size ei.bytes n.toNat (rep ei.zero n.toNat) s else none
          | _ => none
        else none
    | _ => none
def trimS (E : Env) (H : AHeap) (t : TypeId) (s : AV) : AHeap :=
  match s with
  | .sl id 0 len none => match E.ty t with
    | some ti => match ti.d with
      | .slice e => match E.ty e, H.get id with
        | some ei, some (.cells n c e' g fz false mk) => bif Nat.blt (len * ei.size) n && Nat.ble fz (len * ei.size) then
            match c.getAll 0 (len * ei.size) with
            | some vs => H.put id (.cells (len * ei.size) (Tr.nil.putAll 0 vs) e' g fz false mk)
            | none => H
          else H
        | _, _ => H
      | _ => H
    | none => H
  | _ => H
def bndV (v : AV) (top : Nat) : Option Nat :=
  match v with
  | .int _ i => bif ilt i 0 then none else bif Nat.ble i.toNat top then some i.toNat else none
  | _ => none
def bnds (len cap : Nat) (lo hi mx : Option AV) : Option (Nat × Nat × Nat) :=
  match (match mx with | some v => bndV v cap | none => some cap) with
  | none => none
  | some m => match (match hi, mx with | some v, _ => bndV v m | none, none => some len | none, some _ => none) with
    | none => none
    | some h => match (match lo with | some v => bndV v h | none => some 0) with
      | none => none
      | some l => some (l, h, m)
def sliceA (E : Env) (H : AHeap) (t : TypeId) (x : AV) (lo hi mx : Option AV) : Option AV :=
  match E.ty t with
  | none => none
  | some ti =>
    match ti.d, x with
    | .str, .str s => match mx with
      | some _ => none
      | none => match bnds (lenU s) (lenU s) lo hi none with
        | some (l, h, _) => (match hi with | none => some (.str (s.drop l)) | some _ => some (.str ((s.drop l).take (h - l))))
        | none => none
    | .slice e, .nils => match E.ty e, bnds 0 0 lo hi mx with
      | some _, some _ => some .nils
      | _, _ => none
    | .slice e, .sl0 => match mx with
      | some _ => none
      | none => match E.ty e, bnds 0 0 lo hi none with
        | some _, some _ => some .sl0
        | _, _ => none
    | .slice e, .sl id off len (some c) => match E.ty e with
      | none => none
      | some ei => match bnds len c lo hi mx with
        | some (l, h, m) => some (.sl id (bif Nat.beq m l then off else off + l * ei.size) (h - l) (some (m - l)))
        | none => none
    | .slice e, .sl id off len none =>
      match E.ty e, H.get id with
      | some ei, some (.cells n _ _ (some gs) _ _ _) =>
        bif Nat.beq gs ei.size && (!(Nat.beq gs 0) && Nat.ble (off + len * gs) n) then
          match bnds len ((n - off) / gs) lo hi mx with
          | some (l, h, m) => match mx with
            | none => bif Nat.blt (off + l * gs) n || Nat.beq l 0 then some (.sl id (off + l * gs) (h - l) none) else some .sl0
            | some _ => some (.sl id (bif Nat.beq m l then off else off + l * gs) (h - l) (some (m - l)))
          | none => none
        else none
      | _, _ => none
    | .array n e, .ptr id off => match E.ty e with
      | none => none
      | some ei => match bnds n n lo hi mx with
        | some (l, h, m) => some (.sl id (bif Nat.beq m l then off else off + l * ei.size) (h - l) (some (m - l)))
        | none => none
    | _, _ => none
def indexAddrA (E : Env) (t : TypeId) (x i : AV) : Option AV :=
  match E.ty t, i with
  | some ti, .int _ i =>
    bif ilt i 0 then none else
    match ti.d, x with
    | .array n e, .ptr id off => match E.ty e with
      | none => none
      | some ei => bif Nat.blt i.toNat n then some (.ptr id (off + i.toNat * ei.size)) else none
    | .slice e, .sl id off len _ => match E.ty e with
      | none => none
      | some ei => bif Nat.blt i.toNat len then some (.ptr id (off + i.toNat * ei.size)) else none
    | _, _ => none
  | _, _ => none
def indexA (E : Env) (t : TypeId) (x i : AV) : Option AV :=
  match E.ty t, i with
  | some ti, .int _ i =>
    bif ilt i 0 then none else
    match ti.d, x with
    | .array n e, .agg cs => match E.ty e with
      | none => none
      | some ei => bif Nat.blt i.toNat n then partA E e cs (i.toNat * ei.size) else none
    | .str, .str s => match nth s i.toNat with
      | some b => some (byteAV b)
      | none => none
    | _, _ => none
  | _, _ => none
def fieldAddrA (E : Env) (t : TypeId) (x : AV) (f : Nat) : Option AV :=
  match E.ty t, x with
  | some ti, .ptr id off => match ti.d with
    | .struct fs _ => match nthF fs f with
      | some (o, ft) => match E.ty ft with
        | some fi => bif Nat.beq fi.size 0 then none else some (.ptr id (off + o))
        | none => none
      | none => none
    | _ => none
  | _, _ => none
def fieldA (E : Env) (t : TypeId) (x : AV) (f : Nat) : Option AV :=
  match E.ty t, x with
  | some ti, .agg cs => match ti.d with
    | .struct fs _ => match nthF fs f with
      | some (o, ft) => partA E ft cs o
      | none => none
    | _ => none
  | _, _ => none
def convertA (E : Env) (H : AHeap) (src dst : TypeId) (x : AV) : Option (AV × AHeap) :=
  match E.ty src, E.ty dst with
  | some si, some di =>
    match di.d, x with
    | .int k, .int _ n => some (.int k (k.wrap n), H)
    | .str, .int _ n => bif (!(ilt n 0)) && ilt n 128 then some (.str [UInt8.ofNat n.toNat], H) else none
    | .str, .str s => some (.str s, H)
    | .str, v => match si.d with
      | .slice e => match E.ty e with
        | some ei => match ei.d, lenA v with
          | .int .u8, some n => match sliceCells H 1 n v with
            | some cs => match bytesA cs with | some s => some (.str s, H) | none => none
            | none => none
          | _, _ => none
        | none => none
      | _ => none
    | .slice e, .str s => match E.ty e with
      | some ei => match ei.d, si.d with
        | .int .u8, .str => bif roomy (lenU s) 1 then some (.sl H.next 0 (lenU s) none, H.new (.cells (lenU s) (Tr.nil.putAll 0 (s.map byteAV)) e (some 1) 0 false true)) else none
        | _, _ => none
      | none => none
    | .slice e, .sl id off len cap => match E.ty e, si.d, H.get id with
      | some ei, .slice _, some (.cells n c e' g 0 false false) => match ei.d with
        | .int .u8 => bif Nat.beq src dst then some (.sl id off len cap, H.put id (.cells n c e' g 0 false true)) else none
        | _ => none
      | _, _, _ => none
    | _, _ => none
  | _, _ => none
def lies (E : Env) (e u n off k : Nat) : Bool := E.ra e u n off k
def convertU (E : Env) (H : AHeap) (src dst : TypeId) (x : AV) : Option AV :=
  match E.ty src, E.ty dst with
  | some si, some di => match si.d, di.d, x with
    | .ptr _, .uptr, .nilp => some .nilp
    | .ptr t, .uptr, .ptr id off => match E.ty t, H.get id with
      | some ti, some (.cells n _ _ _ _ _ _) => bif Nat.beq ti.size 0 || !(Nat.blt off n) then none else some (.ptr id off)
      | _, _ => none
    | .uptr, .ptr _, .nilp => some .nilp
    | .uptr, .ptr u, .ptr id off => match E.ty u, H.get id with
      | some _, some (.cells n _ e _ _ false _) => bif lies E e u n off 1 then some (.ptr id off) else none
      | _, _ => none
    | _, _, _ => none
  | _, _ => none
def copyA (E : Env) (H : AHeap) (t : TypeId) (d s : AV) : Option (AV × AHeap) :=
  match E.ty t, lenA d, lenA s with
  | some ti, some dn, some sn => match ti.d with
    | .slice e => match E.ty e with
      | none => none
      | some ei => match sliceCells H ei.size (min sn dn) s with
        | none => none
        | some news => match d with
          | .nils => some (.int .i64 0, H)
          | .sl0 => some (.int .i64 0, H)
          | .sl id off _ _ => bif Nat.beq (min sn dn) 0 then some (.int .i64 0, H) else match H.get id with
            | some (.cells n c e' g fz ro mk) => bif Nat.ble (off + (min sn dn) * ei.size) n && (Nat.ble fz off && (!ro && news.all AV.one)) then
                some (.int .i64 (Int.ofNat (min sn dn)), H.put id (.cells n (c.putAll off news) e' g fz ro mk)) else none
            | _ => none
          | _ => none
    | _ => none
  | _, _, _ => none
def AV.eqb : AV → AV → Bool
  | .bool a, .bool b => a == b
  | .int j a, .int k b => sameKind j k && ieq a b
  | .str a, .str b => leq a b
  | .nilp, .nilp => true
  | .ptr a b, .ptr c d => Nat.beq a c && Nat.beq b d
  | .nils, .nils => true
  | .sl a b c none, .sl d e f none => Nat.beq a d && (Nat.beq b e && Nat.beq c f)
  | .sl a b c (some x), .sl d e f (some y) => Nat.beq a d && (Nat.beq b e && (Nat.beq c f && Nat.beq x y))
  | .sl0, .sl0 => true
  | .nilf, .nilf => true
  | .fn f x y, .fn g u v => Nat.beq f g && (eqbs x u && eqbs y v)
  | .yld a, .yld b => Nat.beq a b
  | .nili, .nili => true
  | .iface t a, .iface u b => Nat.beq t u && AV.eqb a b
  | .nilm, .nilm => true
  | .opq a, .opq b => decide (a = b)
  | .ext j k b o n c, .ext j' k' b' o' n' c' => Nat.beq j j' && (Nat.beq k k' && (Nat.beq b b' && (Nat.beq o o' && (Nat.beq n n' && Nat.beq c c'))))
  | .mapv a, .mapv b => Nat.beq a b
  | .agg asz, .agg bs => eqbs asz bs
  | .tup asz, .tup bs => eqbs asz bs
  | _, _ => false
where
  eqbs : List AV → List AV → Bool
  | [], [] => true
  | a :: asz, b :: bs => AV.eqb a b && eqbs asz bs
  | _, _ => false
inductive ARes where
  | val (v : AV) (H : AHeap)
  | skip (H : AHeap)
  | panic (v : AV) (H : AHeap)
  | call (f : FuncId) (args : List AV)
  | ycall (id : Nat) (args : List AV)
  | defer (f : FuncId) (args : List AV)
  deriving Inhabited
def vh (H : AHeap) : Option AV → Option ARes
  | some v => some (.val v H)
  | none => none
def vhh : Option (AV × AHeap) → Option ARes
  | some (v, H) => some (.val v H)
  | none => none
def optOpd (E : Env) (fr : Tr AV) : Option Operand → Option (Option AV)
  | none => some none
  | some x => match opd E fr x with | some v => some (some v) | none => none
def builtinA (E : Env) (H : AHeap) (b : Builtin) (ts : List TypeId) (args : List AV) : Option ARes :=
  match b, ts, args with
  | .len, t :: _, [x] => match E.ty t with
    | some ti => match ti.d, x with
      | .str, .str s => some (.val (.int .i64 (Int.ofNat (lenU s))) H)
      | .slice _, .nils => some (.val (.int .i64 0) H)
      | .slice _, .sl0 => some (.val (.int .i64 0) H)
      | .slice _, .sl _ _ n _ => some (.val (.int .i64 (Int.ofNat n)) H)
      | .array n _, _ => some (.val (.int .i64 (Int.ofNat n)) H)
      | .map _ _, .nilm => some (.val (.int .i64 0) H)
      | .map _ _, .mapv id => match H.get id with
        | some (.mp es _ _) => some (.val (.int .i64 (Int.ofNat es.length)) H)
        | _ => none
      | _, _ => none
    | none => none
  | .cap, t :: _, [x] => match E.ty t with
    | some ti => match ti.d, x with
      | .slice _, .nils => some (.val (.int .i64 0) H)
      | .slice _, .sl _ _ _ (some c) => some (.val (.int .i64 (Int.ofNat c)) H)
      | _, _ => none
    | none => none
  | .append, t :: u :: _, [s, x] => vhh (appendA E (trimS E H t s) t u s x)
  | .copy, t :: _, [d, s] => vhh (copyA E H t d s)
  | .min, _, [.int k x, .int _ y] => some (.val (.int k (bif ilt y x then y else x)) H)
  | .max, _, [.int k x, .int _ y] => some (.val (.int k (bif ilt x y then y else x)) H)
  | .unsafeSliceData, _, [x] => match x with
    | .nils => some (.val .nilp H)
    | .sl id off len none => bif Nat.beq len 0 then none else some (.val (.ptr id off) H)
    | .sl id off _ (some c) => bif Nat.beq c 0 then none else some (.val (.ptr id off) H)
    | _ => none
  | .unsafeString, t :: _, [.ptr id off, .int _ n] => bif ilt n 1 then none else
    match E.ty t, H.get id with
    | some ti, some (.cells m c e g fz false false) => match ti.d with
      | .ptr u => bif lies E e u m off n.toNat && (Nat.ble (off + n.toNat) m && Nat.ble n.toNat 1099511627776) then
          match c.getAll off n.toNat with
          | some cs => match bytesA cs with
            | some s => some (.val (.str s) (H.put id (.cells m c e g (max fz (off + n.toNat)) false false)))
            | none => none
          | none => none
        else none
      | _ => none
    | _, _ => none
  | _, _, _ => none
def isConst : Operand → Bool
  | .const _ => true
  | _ => false
def typeAssertA (E : Env) (x : AV) (t : TypeId) (ok : Bool) : Option AV :=
  match E.ty t with
  | none => none
  | some ti => match ti.d, x with
    | .iface, _ => none
    | _, .nili => bif ok then (match zeroVal ti with | some z => some (.tup [z, .bool false]) | none => none) else none
    | _, .iface u v => bif Nat.beq u t then (bif ok then some (.tup [v, .bool true]) else some v) else
        bif ok then (match zeroVal ti with | some z => some (.tup [z, .bool false]) | none => none) else none
    | _, _ => none
where
  zeroVal (ti : ATy) : Option AV := bif ti.agg then some (.agg ti.zero) else (match ti.zero with | [z] => some z | _ => none)
def keyB (E : Env) (t : Nat) : Bool :=
  match E.ty t with
  | some ti => match ti.d with
    | .int _ => true
    | .bool => true
    | .str => true
    | _ => false
  | none => false
def isAggV : AV → Bool
  | .agg _ => true
  | _ => false
def keyOk (E : Env) (t : Nat) (v : AV) : Bool :=
  match E.ty t with
  | some ti => match ti.d with
    | .int _ => true
    | .bool => true
    | .str => true
    | .struct fs _ => isAggV v && fs.all fun f => keyB E f.2 && (partA E f.2 v.cells f.1).isSome
    | .array n e => match E.ty e with
      | some ei => isAggV v && (keyB E e && (List.range n).all fun i => (partA E e v.cells (i * ei.size)).isSome)
      | none => false
    | _ => false
  | none => false
def eqEs (E : Env) (rec : Nat → AV → AV → Option Bool) (et size : Nat) (asz bs : List AV) : Nat → Nat → Option Bool
  | 0, _ => some true
  | n + 1, i => match partA E et asz (i * size), partA E et bs (i * size) with
    | some x, some y => match rec et x y with
      | some true => eqEs E rec et size asz bs n (i + 1)
      | some false => some false
      | none => none
    | _, _ => none
def eqK (E : Env) (t : Nat) (x y : AV) : Option Bool :=
  match E.ty t, x, y with
  | some ti, .agg asz, .agg bs => match ti.d with
    | .array n e => match E.ty e with
      | some ei => eqEs E (eqv E 5) e ei.size asz bs n 0
      | none => none
    | _ => eqv E 6 t x y
  | _, _, _ => eqv E 6 t x y
def keyFind (E : Env) (kt : Nat) (k : AV) : List (AV × AV × Nat) → Nat → Option (Option (Nat × AV))
  | [], _ => some none
  | (k', v, _) :: es, i => match eqK E kt k k' with
    | some true => some (some (i, v))
    | some false => keyFind E kt k es (i + 1)
    | none => none
def mapRow (H : AHeap) : AV → Option (List (AV × AV × Nat))
  | .nilm => some []
  | .mapv id => match H.get id with
    | some (.mp es _ _) => some es
    | _ => none
  | _ => none
def zeroV (ti : ATy) : Option AV := bif ti.agg then some (.agg ti.zero) else (match ti.zero with | [z] => some z | _ => none)
def lookupA (E : Env) (H : AHeap) (t : TypeId) (x k : AV) (ok : Bool) : Option AV :=
  match E.ty t with
  | some ti => match ti.d with
    | .map kt et => bif keyOk E kt k then
        match mapRow H x with
        | some es => match keyFind E kt k es 0, E.ty et with
          | some (some (_, v)), _ => some (bif ok then .tup [v, .bool true] else v)
          | some none, some ei => match zeroV ei with
            | some z => some (bif ok then .tup [z, .bool false] else z)
            | none => none
          | _, _ => none
        | none => none
      else none
    | _ => none
  | none => none
def stays : AV → Bool
  | .int _ _ => true
  | .str _ => true
  | .bool _ => true
  | .agg l => l.all fun v => match v with | .int _ _ => true | .str _ => true | .bool _ => true | _ => false
  | _ => false
def putAt (v : AV) : List (AV × AV × Nat) → Nat → List (AV × AV × Nat)
  | [], _ => []
  | (k, _, b) :: es, 0 => (k, v, b) :: es
  | e :: es, i + 1 => e :: putAt v es i
def keyAt : List (AV × AV × Nat) → Nat → Option AV
  | [], _ => none
  | (k, _, _) :: _, 0 => some k
  | _ :: es, i + 1 => keyAt es i
def updateA (E : Env) (H : AHeap) (t : TypeId) (x k v : AV) : Option AHeap :=
  match E.ty t, x with
  | some ti, .mapv id => match ti.d, H.get id with
    | .map kt _, some (.mp es clock false) => bif keyOk E kt k then
        match keyFind E kt k es 0 with
        | some (some (i, _)) => match keyAt es i with
          | some k' => bif stays k && AV.eqb k' k then some (H.put id (.mp (putAt v es i) clock false)) else none
          | none => none
        | some none => some (H.put id (.mp (es ++ [(k, v, clock)]) (clock + 1) false))
        | none => none
      else none
    | _, _ => none
  | _, _ => none
def memB (n : Nat) : List Nat → Bool
  | [] => false
  | x :: xs => Nat.beq x n || memB n xs
def unseen (seen : List Nat) : List (AV × AV × Nat) → List (AV × AV × Nat)
  | [] => []
  | (k, v, b) :: es => bif memB b seen then unseen seen es else (k, v, b) :: unseen seen es
def anyIn {α : Type} : List α → Bool
  | [] => false
  | _ => true
def nextA (H : AHeap) (id : Nat) : Option (AV × AHeap) :=
  match H.get id with
  | some (.miter none _ _ _) => some (.tup [.bool false], H)
  | some (.miter (some m) since seen last) => match H.get m with
    | some (.mp es clock _) =>
      bif anyIn seen && (anyIn es && es.all fun e => Nat.ble last e.2.2) then none else
      match unseen seen es with
      | [] => some (.tup [.bool false], H)
      | [(k, v, b)] => bif Nat.blt b since then some (.tup [.bool true, k, v], H.put id (.miter (some m) since (seen ++ [b]) clock)) else none
      | _ => none
    | _ => none
  | _ => none
def bornAt (b : Nat) : List (AV × AV × Nat) → Option (AV × AV)
  | [] => none
  | (k, v, c) :: es => bif Nat.beq c b then some (k, v) else bornAt b es
def lastOf : List Nat → Option Nat
  | [] => none
  | [x] => some x
  | _ :: y :: l => lastOf (y :: l)
def entryA (H : AHeap) (id : Nat) : Option AV :=
  match H.get id with
  | some (.miter (some m) _ seen stepped) => match H.get m, lastOf seen with
    | some (.mp es clock _), some b => bif Nat.beq clock stepped then (match bornAt b es with
        | some (k, v) => some (.tup [k, v])
        | none => none) else none
    | _, _ => none
  | _ => none
def execA (E : Env) (H : AHeap) (fr : Tr AV) (o : Oper) : Option ARes :=
  match o.op with
  | .move x => vh H (opd E fr x)
  | .assign x => vh H (opd E fr x)
  | .pick c a b => match opd E fr c with
    | some (.bool true) => vh H (opd E fr a)
    | some (.bool false) => vh H (opd E fr b)
    | _ => none
  | .alloc e => match E.ty e with
    | some ti => some (.val (.ptr H.next 0) (newRowA H e ti.zero))
    | none => none
  | .box e x => match opd E fr x with
    | some v => bif v.cells.all AV.one then some (.val (.ptr H.next 0) (newRowA H e v.cells)) else none
    | none => none
  | .build t ps => match partsA E fr ps.toList with
    | some l => vh H (buildA E t l)
    | none => none
  | .buildSlice t len ps => match partsA E fr ps.toList, E.ty t with
    | some l, some ti => match ti.d with
      | .slice e => match E.ty e with
        | some ei => bif Nat.ble (len * ei.size) 65536 then
            match fillA (fun i => some (i * ei.size, ei.size)) (rep ei.zero len) l with
            | some cs => bif cs.all AV.one then some (.val (.sl H.next 0 len (some len)) (newRowA H e cs)) else none
            | none => none
          else none
        | none => none
      | _ => none
    | _, _ => none
  | .load t a => match opd E fr a with
    | some p => vh H (loadVarA E H t p)
    | none => none
  | .store t a x => match opd E fr a, opd E fr x with
    | some p, some v => match storeVarA E H t p v with
      | some H' => some (.skip H')
      | none => none
    | _, _ => none
  | .nilCheck x => match opd E fr x with
    | some (.ptr i o) => some (.val (.ptr i o) H)
    | some (.fn f a b) => some (.val (.fn f a b) H)
    | some (.iface t v) => some (.val (.iface t v) H)
    | _ => none
  | .binOp op t x y _ => match opd E fr x, opd E fr y with
    | some .nili, some .nili => bif isConst x || isConst y then vh H (binA E op t .nili .nili) else none
    | some a, some b => vh H (binA E op t a b)
    | _, _ => none
  | .unOp op _ x => match opd E fr x with
    | some a => vh H (unA op a)
    | none => none
  | .convert s d x => match opd E fr x with
    | some a => match convertU E H s d a with
      | some v => some (.val v H)
      | none => vhh (convertA E H s d a)
    | none => none
  | .makeInterface t x => match opd E fr x, E.ty t with
    | some a, some ti => match ti.d with
      | .iface => none
      | _ => some (.val (.iface t a) H)
    | _, _ => none
  | .makeFunc (.func f) a b => match opds E fr a.toList, opds E fr b.toList with
    | some l, some m => some (.val (.fn f l m) H)
    | _, _ => none
  | .makeSlice t l c => match opd E fr l, opd E fr c, E.ty t with
    | some (.int _ l), some (.int _ c), some ti => match ti.d with
      | .slice e => match E.ty e with
        | some ei => bif (!(ilt l 0)) && (!(ilt c l) && roomy c.toNat (ei.bytes + ei.size)) then
            some (.val (.sl H.next 0 l.toNat (some c.toNat)) (newRowA H e (rep ei.zero c.toNat))) else none
        | none => none
      | _ => none
    | _, _, _ => none
  | .slice t x lo hi mx => match opd E fr x, optOpd E fr lo, optOpd E fr hi, optOpd E fr mx with
    | some a, some l, some h, some m => vh H (sliceA E H t a l h m)
    | _, _, _, _ => none
  | .fieldAddr t x f => match opd E fr x with
    | some a => vh H (fieldAddrA E t a f)
    | none => none
  | .field t x f => match opd E fr x with
    | some a => vh H (fieldA E t a f)
    | none => none
  | .indexAddr t x i => match opd E fr x, opd E fr i with
    | some a, some b => vh H (indexAddrA E t a b)
    | _, _ => none
  | .index t x i => match opd E fr x, opd E fr i with
    | some a, some b => vh H (indexA E t a b)
    | _, _ => none
  | .typeAssert x _ t ok => match opd E fr x with
    | some a => vh H (typeAssertA E a t ok)
    | none => none
  | .extract x i => match opd E fr x with
    | some (.tup vs) => match (vs.drop i).head? with
      | some v => some (.val v H)
      | none => none
    | _ => none
  | .panic x => match opd E fr x with
    | some (.iface t v) => some (.panic (.iface t v) H)
    | _ => none
  | .range t x => match opd E fr x, E.ty t with
    | some (.str s), some ti => match ti.d with
      | .str => some (.val (.ptr H.next 0) (H.new (.siter s 0)))
      | _ => none
    | some .nilm, some ti => match ti.d with
      | .map _ _ => some (.val (.ptr H.next 0) (H.new (.miter none 0 [] 0)))
      | _ => none
    | some (.mapv id), some ti => match ti.d, H.get id with
      | .map _ _, some (.mp _ clock _) => some (.val (.ptr H.next 0) (H.new (.miter (some id) clock [] clock)))
      | _, _ => none
    | _, _ => none
  | .next x true => match opd E fr x with
    | some (.ptr id 0) => match H.get id with
      | some (.siter s pos) => match nth s pos with
        | none => some (.val (.tup [.bool false]) H)
        | some b => bif Nat.blt b.toNat 128 then some (.val (.tup [.bool true, .int .i64 (Int.ofNat pos), .int .i32 (Int.ofNat b.toNat)]) (H.put id (.siter s (pos + 1)))) else none
      | _ => none
    | _ => none
  | .next x false => match opd E fr x with
    | some (.ptr id 0) => vhh (nextA H id)
    | _ => none
  | .entry x => match opd E fr x with
    | some (.ptr id 0) => vh H (entryA H id)
    | _ => none
  | .makeMap _ none => some (.val (.mapv H.next) (H.new (.mp [] 0 false)))
  | .lookup t x i ok => match opd E fr x, opd E fr i with
    | some a, some b => vh H (lookupA E H t a b ok)
    | _, _ => none
  | .mapUpdate t m k x => match opd E fr m, opd E fr k, opd E fr x with
    | some a, some b, some c => (match updateA E H t a b c with
      | some H' => some (.skip H')
      | none => none)
    | _, _, _ => none
  | .insert t m k x => match opd E fr m, opd E fr k, opd E fr x with
    | some a, some b, some c => (match updateA E H t a b c with
      | some H' => some (.skip H')
      | none => none)
    | _, _, _ => none
  | .call c => match c.callee with
    | .builtin b => match opds E fr c.args.toList with
      | some l => builtinA E H b c.argTypes.toList l
      | none => none
    | .value f => match opd E fr f, opds E fr c.args.toList with
      | some (.fn g first cap), some l => some (.call g (first ++ (l ++ cap)))
      | some (.yld id), some l => some (.ycall id l)
      | _, _ => none
    | .invoke _ _ => none
  | .defer c => match c.callee with
    | .value f => match opd E fr f, opds E fr c.args.toList with
      | some (.fn g first cap), some l => some (.defer g (first ++ (l ++ cap)))
      | _, _ => none
    | _ => none
  | _ => none
inductive CRes where
  | ret (v : AV) (H : AHeap)
  | pan (v : AV) (H : AHeap)
  deriving Inhabited
inductive DRes where
  | back (taken : Bool) (H : AHeap)
  deriving Inhabited
inductive Task where
  | code (c : Code) (fr : AFr) (H : AHeap)
  | call (f : FuncId) (args : List AV) (H : AHeap)
  | dcall (f : FuncId) (args : List AV) (pan : Option AV) (H : AHeap)
  | yield (id : Nat) (args : List AV) (H : AHeap)
  deriving Inhabited
inductive TRes where
  | code (e : AExit) (fr : AFr) (H : AHeap)
  | call (r : CRes)
  | dcall (r : DRes)
  deriving Inhabited
def wantedA (ops : Array Oper) (fr : Tr AV) (o : Oper) : Option Bool :=
  match o.guard with
  | none => some true
  | some (j, want) => match (ops[j]?).bind (·.dst) with
    | none => some false
    | some d => match fr.get d with
      | some (.bool b) => some (b == want)
      | some (.tup _) => some false
      | _ => none
def AFr.put (fr : AFr) (d : Option Tmp) (v : AV) : AFr :=
  match d with
  | some d => bif Nat.blt d fr.n then { fr with t := fr.t.set d v } else fr
  | none => fr
def callsA (ih : Task → Option TRes) (H : AHeap) : ARes → Option ARes
  | .call f args => match ih (.call f args H) with
    | some (.call (.ret v H)) => some (.val v H)
    | some (.call (.pan v H)) => some (.panic v H)
    | _ => none
  | .ycall id args => match ih (.yield id args H) with
    | some (.call (.ret v H)) => some (.val v H)
    | _ => none
  | r => some r
def opsA (E : Env) (ih : Task → Option TRes) (all : Array Oper) : List Oper → AFr → AHeap → Option TRes
  | [], fr, H => some (.code .normal fr H)
  | o :: rest, fr, H => match wantedA all fr.t o with
    | none => none
    | some false => opsA E ih all rest (fr.put o.dst undefA) H
    | some true => match execA E H fr.t o with
      | none => none
      | some r => match callsA ih H r with
        | some (.val v H) => opsA E ih all rest (fr.put o.dst v) H
        | some (.skip H) => opsA E ih all rest (fr.put o.dst undefA) H
        | some (.panic v H) => some (.code (.panic v) fr H)
        | some (.defer f args) => bif fr.rd then none else opsA E ih all rest ({ fr with df := .call f args :: fr.df }.put o.dst undefA) H
        | _ => none
def quietOp (E : Env) : Op → Bool
  | .move _ => true
  | .assign _ => true
  | .pick _ _ _ => true
  | .build _ _ => true
  | .load _ _ => true
  | .nilCheck _ => true
  | .binOp _ _ _ _ _ => true
  | .unOp _ _ _ => true
  | .makeInterface _ _ => true
  | .makeFunc _ _ _ => true
  | .slice _ _ _ _ _ => true
  | .fieldAddr _ _ _ => true
  | .field _ _ _ => true
  | .indexAddr _ _ _ => true
  | .index _ _ _ => true
  | .typeAssert _ _ _ _ => true
  | .extract _ _ => true
  | .lookup _ _ _ _ => true
  | .convert _ d _ => match E.ty d with
    | some di => (match di.d with | .slice _ => false | _ => true)
    | none => false
  | .call c => match c.callee with
    | .builtin .len => true
    | .builtin .cap => true
    | .builtin .min => true
    | .builtin .max => true
    | _ => false
  | _ => false
def quietA (E : Env) (H : AHeap) (fr : Tr AV) (o : Oper) : Option AV :=
  match execA E H fr o with
  | some (.val v _) => some v
  | _ => none
def ancOf (acc : Tr Nat) : List Edge → Nat → Option Nat
  | [], _ => some 0
  | e :: es, i => match e.ground with
    | .textOnly _ => ancOf acc es i
    | .gcOnly _ => ancOf acc es i
    | _ => bif Nat.blt e.on i then (match acc.get e.on, ancOf acc es i with
        | some m, some r => some (Nat.lor (Nat.lor (2 ^ e.on) m) r)
        | _, _ => none) else none
def ancs : List Oper → Nat → Tr Nat → Option (Tr Nat)
  | [], _, acc => some acc
  | o :: os, i, acc => match ancOf acc o.after.toList i with
    | none => none
    | some m => ancs os (i + 1) (acc.set i m)
def bitIn (m i : Nat) : Bool := Nat.beq (Nat.land (m / 2 ^ i) 1) 1
def isTmp (t : Nat) : Operand → Bool
  | .tmp u => Nat.beq t u
  | _ => false
def reads (t : Nat) (o : Oper) : Bool := o.op.operands.toList.any (isTmp t)
def ordered (an : Tr Nat) (i j : Nat) : Bool :=
  match an.get i, an.get j with
  | some mi, some mj => bitIn mj i || bitIn mi j
  | _, _ => false
def freshOp : Op → Bool
  | .alloc _ => true
  | .box _ _ => true
  | .buildSlice _ _ _ => true
  | .makeSlice _ _ _ => true
  | _ => false
def loudsOf (E : Env) : List Oper → Nat → Nat
  | [], _ => 0
  | o :: os, i => bif quietOp E o.op then loudsOf E os (i + 1) else Nat.lor (2 ^ i) (loudsOf E os (i + 1))
def freshOf : List Oper → Nat → Nat
  | [], _ => 0
  | o :: os, i => bif freshOp o.op then Nat.lor (2 ^ i) (freshOf os (i + 1)) else freshOf os (i + 1)
def wmap : List Oper → Nat → Tr Nat → Option (Tr Nat)
  | [], _, acc => some acc
  | o :: os, i, acc => match o.dst with
    | none => wmap os (i + 1) acc
    | some d => match acc.get d with
      | some _ => none
      | none => bif Nat.blt d 1000001 then wmap os (i + 1) (acc.set d i) else none
def within (a b : Nat) : Bool := Nat.beq (Nat.land a b) b
def argOk (lm fm : Nat) (an wm : Tr Nat) (j m : Nat) : Operand → Bool
  | .tmp t => match wm.get t with
    | none => true
    | some w => bif Nat.blt w j then bitIn m w && (!(bitIn fm w) || within m (lm % 2 ^ (w + 1)))
        else bif Nat.blt j w then (match an.get w with | some mw => bitIn mw j | none => false) else false
  | _ => true
def oneOk (E : Env) (lm fm : Nat) (an wm : Tr Nat) (j : Nat) (o : Oper) : Bool :=
  match an.get j with
  | none => false
  | some m => o.op.operands.toList.all (argOk lm fm an wm j m) && ((match o.guard with | some (g, _) => bitIn m g && !(bitIn fm g) | none => true) && (quietOp E o.op || (freshOp o.op || within m (lm % 2 ^ j))))
def allFrom (E : Env) (lm fm : Nat) (an wm : Tr Nat) : List Oper → Nat → Bool
  | [], _ => true
  | o :: os, j => oneOk E lm fm an wm j o && allFrom E lm fm an wm os (j + 1)
def allOk (E : Env) (an : Tr Nat) (os : List Oper) : Bool :=
  match wmap os 0 .nil with
  | none => false
  | some wm => allFrom E (loudsOf E os 0) (freshOf os 0) an wm os 0
structure QRec where
  i : Nat
  o : Oper
  fr : Tr AV
  v : AV
structure ERec where
  j : Nat
  H : AHeap
def sameAt (E : Env) (H : AHeap) (q : QRec) : Bool :=
  match quietA E H q.fr q.o with
  | some u => AV.eqb u q.v
  | none => false
def stableE (E : Env) (q : QRec) (m : Nat) : List ERec → Bool
  | [] => true
  | e :: es => (bitIn m e.j || sameAt E e.H q) && stableE E q m es
def stableQ (E : Env) (H : AHeap) (m : Nat) : List QRec → Bool
  | [] => true
  | q :: qs => (bitIn m q.i || sameAt E H q) && stableQ E H m qs
def delDsts (t : Tr AV) : List Oper → Tr AV
  | [] => t
  | o :: os => delDsts (match o.dst with | some d => t.del d | none => t) os
def restOk (an : Tr Nat) (i : Nat) : List Oper → Nat → Bool
  | [], _ => true
  | _ :: os, j => (match an.get j with | some m => bitIn m i | none => false) && restOk an i os (j + 1)
def opsD (E : Env) (ih : Task → Option TRes) (all : Array Oper) (an : Tr Nat) (fr0 : AFr) : List Oper → Nat → List QRec → List ERec → AFr → AHeap → Option TRes
  | [], _, _, _, fr, H => some (.code .normal fr H)
  | o :: rest, i, qs, es, fr, H => match wantedA all fr.t o, an.get i with
    | some false, _ => opsD E ih all an fr0 rest (i + 1) qs es (fr.put o.dst undefA) H
    | some true, some m =>
      match execA E H fr.t o with
      | none => none
      | some r =>
        bif quietOp E o.op then
          match r with
          | .val v _ => bif stableE E ⟨i, o, fr.t, v⟩ m es then opsD E ih all an fr0 rest (i + 1) (⟨i, o, fr.t, v⟩ :: qs) es (fr.put o.dst v) H else none
          | _ => none
        else match callsA ih H r with
          | some (.val v H') => bif stableQ E H' m qs then opsD E ih all an fr0 rest (i + 1) qs (⟨i, H⟩ :: es) (fr.put o.dst v) H' else none
          | some (.skip H') => bif stableQ E H' m qs then opsD E ih all an fr0 rest (i + 1) qs (⟨i, H⟩ :: es) (fr.put o.dst undefA) H' else none
          | some (.panic v H') => bif restOk an i rest (i + 1) then some (.code (.panic v) { fr0 with t := delDsts fr0.t all.toList } H') else none
          | _ => none
    | _, _ => none
def regionA (E : Env) (ih : Task → Option TRes) (ops : Array Oper) (draw : Bool) (fr : AFr) (H : AHeap) : Option TRes :=
  bif draw then
    match ancs ops.toList 0 .nil with
    | none => none
    | some an => bif allOk E an ops.toList && (Nat.ble fr.n 1000000 && Nat.ble ops.size 1000000) then opsD E ih ops an fr ops.toList 0 [] [] fr H else none
  else opsA E ih ops ops.toList fr H
def codeA (E : Env) (ih : Task → Option TRes) : Code → AFr → AHeap → Option TRes
  | .skip, fr, H => some (.code .normal fr H)
  | .label _, fr, H => some (.code .normal fr H)
  | .ret, fr, H => some (.code .ret fr H)
  | .exit id, fr, H => some (.code (.exit id) fr H)
  | .seq a b, fr, H => match codeA E ih a fr H with
    | some (.code .normal fr H) => codeA E ih b fr H
    | r => r
  | .cond c a b, fr, H => match opd E fr.t c with
    | some (.bool true) => codeA E ih a fr H
    | some (.bool false) => codeA E ih b fr H
    | _ => none
  | .block id c, fr, H => match codeA E ih c fr H with
    | some (.code (.exit i) fr H) => bif Nat.beq i id then some (.code .normal fr H) else some (.code (.exit i) fr H)
    | r => r
  | .loop c, fr, H => match codeA E ih c fr H with
    | some (.code .normal fr H) => ih (.code (.loop c) fr H)
    | r => r
  | .region _ ops draw, fr, H => regionA E ih ops draw fr H
  | .rangeFunc f ps assign body, fr, H => bif fr.rd then none else match opd E fr.t f with
    | some (.fn g first cap) => match E.fn g with
      | none => none
      | some _ => match ih (.call g (first ++ (.yld (H.next + 1) :: cap)) ((H.new .dfr).new (.loop .ready none fr.n fr.t ps.toList assign body H.next))) with
        | some (.call (.ret _ H')) => match H'.get (H.next + 1) with
          | some (.loop .busy _ _ _ _ _ _ _) => none
          | some (.loop _ none n t p a b d) => some (.code .normal { fr with df := .mark H.next :: fr.df } (H'.put (H.next + 1) (.loop .exhausted none n t p a b d)))
          | some (.loop _ (some .ret) n t p a b d) => some (.code .ret { fr with df := .mark H.next :: fr.df } (H'.put (H.next + 1) (.loop .exhausted (some .ret) n t p a b d)))
          | some (.loop _ (some (.exit i)) n t p a b d) => some (.code (.exit i) { fr with df := .mark H.next :: fr.df } (H'.put (H.next + 1) (.loop .exhausted (some (.exit i)) n t p a b d)))
          | _ => none
        | _ => none
    | _ => none
  | _, _, _ => none
def resA (E : Env) (fr : Tr AV) (H : AHeap) : List ResultVar → Option (List AV)
  | [] => some []
  | .tmp t :: r => match fr.get t with
    | none => none
    | some v => match resA E fr H r with | some l => some (v :: l) | none => none
  | .cell a t :: r => match fr.get a with
    | none => none
    | some p => match loadVarA E H t p with
      | none => none
      | some v => match resA E fr H r with | some l => some (v :: l) | none => none
def resV : List AV → AV
  | [v] => v
  | l => .tup l
def setParams (n : Nat) : List Nat → List AV → Tr AV → Option (Tr AV)
  | [], [], t => some t
  | p :: ps, v :: vs, t => bif Nat.blt p n then setParams n ps vs (t.set p v) else none
  | _, _, _ => none
def leaveA (E : Env) (ih : Task → Option TRes) (rs : List ResultVar) (t : Tr AV) : List ADf → Option AV → AHeap → Option TRes
  | [], none, H => match resA E t H rs with
    | some l => some (.call (.ret (resV l) H))
    | none => none
  | [], some v, H => some (.call (.pan v H))
  | .mark id :: ds, p, H => match H.get id with
    | some .dfr => leaveA E ih rs t ds p (H.kill id)
    | _ => none
  | .call f args :: ds, p, H => match ih (.dcall f args p H) with
    | some (.dcall (.back taken H)) => leaveA E ih rs t ds (bif taken then none else p) H
    | _ => none
def isRecover (o : Oper) : Bool :=
  match o.op with
  | .call c => (match c.callee with | .builtin .recover => true | _ => false) && (match o.guard with | none => true | some _ => false)
  | _ => false
def recOf : Option AV → AV
  | some v => v
  | none => .nili
def endD (E : Env) (rs : List ResultVar) (taken : Bool) : Option TRes → Option TRes
  | some (.code .normal ⟨_, t, [], _⟩ H) => match resA E t H rs with
    | some _ => some (.dcall (.back taken H))
    | none => none
  | some (.code .ret ⟨_, t, [], _⟩ H) => match resA E t H rs with
    | some _ => some (.dcall (.back taken H))
    | none => none
  | _ => none
def recFirst : Code → Option (Oper × Code)
  | .seq (.region _ ops false) rest => match ops.toList with
    | [o] => bif isRecover o then some (o, rest) else none
    | _ => none
  | _ => none
def newFr (fn : AFunc) (args : List AV) : AFr := ⟨args.length + (fn.ntmps - args.length), Tr.nil.putAll 0 args, [], false⟩
def stepA (E : Env) (ih : Task → Option TRes) : Task → Option TRes
  | .code c fr H => codeA E ih c fr H
  | .call f args H => match E.fn f with
    | some fn => match codeA E ih fn.body (newFr fn args) H with
      | some (.code .normal fr H) => leaveA E ih fn.results fr.t fr.df none H
      | some (.code .ret fr H) => leaveA E ih fn.results fr.t fr.df none H
      | some (.code (.panic v) fr H) => leaveA E ih fn.results fr.t fr.df (some v) H
      | _ => none
    | none => match E.sm f args H with
      | some (v, H) => some (.call (.ret v H))
      | none => none
  | .dcall f args pan H => match E.fn f with
    | some fn => match recFirst fn.body with
      | some (o, rest) => endD E fn.results pan.isSome (codeA E ih rest ((newFr fn args).put o.dst (recOf pan)) H)
      | none => endD E fn.results false (codeA E ih fn.body (newFr fn args) H)
    | none => none
  | .yield id args H => match H.get id with
    | some (.loop .ready _pend n t ps assign body _d) => match setParams n ps args t with
      | none => none
      | some t' => match codeA E ih assign ⟨n, t', [], true⟩ H with
        | some (.code .normal fr1 H1) => match H1.get id with
          | some (.loop .ready pend1 m1 u1 ps1 as1 bo1 d1) => match codeA E ih body fr1 (H1.put id (.loop .busy pend1 m1 u1 ps1 as1 bo1 d1)) with
            | some (.code e _ H2) => match H2.get id with
              | some (.loop _ _ m2 u2 ps2 as2 bo2 d2) => match e with
                | .normal => some (.call (.ret (.bool true) (H2.put id (.loop .ready none m2 u2 ps2 as2 bo2 d2))))
                | .ret => some (.call (.ret (.bool false) (H2.put id (.loop .done (some .ret) m2 u2 ps2 as2 bo2 d2))))
                | .exit i => some (.call (.ret (.bool false) (H2.put id (.loop .done (some (.exit i)) m2 u2 ps2 as2 bo2 d2))))
                | .panic _ => none
              | _ => none
            | _ => none
          | _ => none
        | _ => none
    | _ => none
def run (E : Env) (n : Nat) : Task → Option TRes :=
  match n with
  | 0 => fun _ => none
  | n + 1 => fun t => stepA E (run E n) t
end
end Go.Vai
end
section
namespace Go.Vai
namespace Tr
variable {α : Type}
theorem setF_zero (t : Tr α) (i : Nat) (v : Option α) : setF 0 t i v = .nil := rfl
theorem setF_nz (f : Nat) (v : Option α) : setF (f + 1) (.nil : Tr α) 0 v = .node v .nil .nil := rfl
theorem setF_tz (f : Nat) (x : Option α) (l r : Tr α) (v : Option α) : setF (f + 1) (.node x l r) 0 v = .node v l r := rfl
theorem setF_ns (f i : Nat) (v : Option α) : setF (f + 1) (.nil : Tr α) (i + 1) v = bif Nat.beq (i % 2) 0 then .node none (setF f .nil (i / 2) v) .nil else .node none .nil (setF f .nil (i / 2) v) := by
  show Bool.rec (motive := fun _ => Tr α) _ _ (Nat.beq (i % 2) 0) = _
  cases Nat.beq (i % 2) 0 <;> rfl
theorem setF_ts (f : Nat) (x : Option α) (l r : Tr α) (i : Nat) (v : Option α) : setF (f + 1) (.node x l r) (i + 1) v = bif Nat.beq (i % 2) 0 then .node x (setF f l (i / 2) v) r else .node x l (setF f r (i / 2) v) := by
  show Bool.rec (motive := fun _ => Tr α) _ _ (Nat.beq (i % 2) 0) = _
  cases Nat.beq (i % 2) 0 <;> rfl
theorem putAll_nil (t : Tr α) (k : Nat) : t.putAll k [] = t := rfl
theorem putAll_cons (t : Tr α) (k : Nat) (v : α) (vs : List α) : t.putAll k (v :: vs) = putAll (t.set k v) (k + 1) vs := rfl
theorem getAll_zero (t : Tr α) (k : Nat) : t.getAll k 0 = some [] := rfl
theorem getAll_succ (t : Tr α) (k n : Nat) : t.getAll k (n + 1) = (match t.get k with
    | none => none
    | some v => match getAll t (k + 1) n with
      | none => none
      | some vs => some (v :: vs)) := by
  show Option.rec (motive := fun _ => Option (List α)) none (fun v => Option.rec (motive := fun _ => Option (List α)) none (fun vs => some (v :: vs)) (getAll t (k + 1) n)) (t.get k) = _
  cases t.get k with
  | none => rfl
  | some v => cases getAll t (k + 1) n <;> rfl
theorem get_nil (i : Nat) : (Tr.nil : Tr α).get i = none := rfl
theorem get_zero (v : Option α) (l r : Tr α) : (Tr.node v l r).get 0 = v := rfl
theorem get_succ (v : Option α) (l r : Tr α) (i : Nat) : (Tr.node v l r).get (i + 1) = bif Nat.beq (i % 2) 0 then l.get (i / 2) else r.get (i / 2) := by
  show Bool.rec (motive := fun _ => Option α) _ _ (Nat.beq (i % 2) 0) = _
  cases Nat.beq (i % 2) 0 <;> rfl
theorem get_setF : ∀ (f : Nat) (t : Tr α) (i j : Nat) (v : Option α) (x : α), (setF f t i v).get j = some x → (j = i ∧ v = some x) ∨ (j ≠ i ∧ t.get j = some x) := by
  intro f
  induction f with
  | zero => intro t i j v x h; simp [setF_zero, get_nil] at h
  | succ f ih =>
    intro t i j v x h
    cases i with
    | zero =>
      cases t with
      | nil =>
        cases j with
        | zero => simp only [setF_nz, get_zero] at h; exact .inl ⟨rfl, h⟩
        | succ j => simp only [setF_nz, get_succ, get_nil] at h; cases hb : Nat.beq (j % 2) 0 <;> rw [hb] at h <;> simp at h
      | node y l r =>
        cases j with
        | zero => simp only [setF_tz, get_zero] at h; exact .inl ⟨rfl, h⟩
        | succ j => simp only [setF_tz, get_succ] at h; exact .inr ⟨by omega, by simp only [get_succ]; exact h⟩
    | succ i =>
      have par : ∀ j, Nat.beq (i % 2) 0 = Nat.beq (j % 2) 0 → j / 2 = i / 2 → j = i := by
        intro j hp hd
        cases h1 : Nat.beq (i % 2) 0
        · rw [h1] at hp
          have a := Nat.ne_of_beq_eq_false h1
          have b := Nat.ne_of_beq_eq_false hp.symm
          omega
        · rw [h1] at hp
          have a := Nat.eq_of_beq_eq_true h1
          have b := Nat.eq_of_beq_eq_true hp.symm
          omega
      cases t with
      | nil =>
        cases hi : Nat.beq (i % 2) 0 <;> simp only [setF_ns, hi, cond_true, cond_false] at h
        all_goals
          cases j with
          | zero => simp [get_zero] at h
          | succ j =>
            simp only [get_succ, get_nil] at h
            cases hj : Nat.beq (j % 2) 0 <;> simp only [hj, cond_true, cond_false] at h
            all_goals first
              | (cases h; done)
              | (rcases ih _ _ _ _ _ h with ⟨h1, h2⟩ | ⟨_, h2⟩
                 · exact .inl ⟨by rw [par j (hi.trans hj.symm) h1], h2⟩
                 · simp [get_nil] at h2)
      | node y l r =>
        cases hi : Nat.beq (i % 2) 0 <;> simp only [setF_ts, hi, cond_true, cond_false] at h
        all_goals
          cases j with
          | zero => simp only [get_zero] at h ⊢; exact .inr ⟨by omega, h⟩
          | succ j =>
            simp only [get_succ] at h ⊢
            cases hj : Nat.beq (j % 2) 0 <;> simp only [hj, cond_true, cond_false] at h ⊢
            all_goals first
              | (rcases ih _ _ _ _ _ h with ⟨h1, h2⟩ | ⟨h1, h2⟩
                 · exact .inl ⟨by rw [par j (hi.trans hj.symm) h1], h2⟩
                 · exact .inr ⟨by intro e; apply h1; have : j = i := by omega
                                  rw [this], h2⟩)
              | (refine .inr ⟨?_, h⟩
                 intro e
                 have : j = i := by omega
                 subst this
                 rw [hi] at hj
                 cases hj)
theorem getF_eq : ∀ (f : Nat) (t : Tr α) (i j : Nat) (v : Option α), i + 1 < 2 ^ f → (setF f t i v).get j = if j = i then v else t.get j := by
  intro f
  induction f with
  | zero => intro t i j v h; omega
  | succ f ih =>
    intro t i j v h
    cases i with
    | zero =>
      cases t with
      | nil =>
        cases j with
        | zero => rfl
        | succ j => simp only [setF_nz, get_succ, get_nil]; cases Nat.beq (j % 2) 0 <;> simp
      | node y l r =>
        cases j with
        | zero => rfl
        | succ j => simp only [setF_tz, get_succ]; simp
    | succ i =>
      have hi : i / 2 + 1 < 2 ^ f := by rw [Nat.pow_succ] at h; omega
      have par : j ≠ 0 → Nat.beq (i % 2) 0 = Nat.beq ((j - 1) % 2) 0 → (j - 1) / 2 = i / 2 → j = i + 1 := by
        intro hj hp hd
        have : (i % 2 = 0) ↔ ((j - 1) % 2 = 0) := by rw [← Nat.beq_eq, ← Nat.beq_eq, hp]
        omega
      cases t with
      | nil =>
        cases j with
        | zero => simp only [setF_ns]; cases Nat.beq (i % 2) 0 <;> simp [get_zero, get_nil]
        | succ j =>
          simp only [Nat.add_sub_cancel, ne_eq, Nat.succ_ne_zero, not_false_eq_true, forall_const] at par
          simp only [setF_ns]
          cases hb : Nat.beq (i % 2) 0 <;> simp only [cond_true, cond_false, get_succ] <;> cases hc : Nat.beq (j % 2) 0 <;> simp only [cond_true, cond_false]
          · rw [ih _ _ _ _ hi]
            rw [hb, hc] at par
            simp only [get_nil, Nat.add_right_cancel_iff] at par ⊢
            by_cases e : j / 2 = i / 2
            · rw [if_pos e, if_pos (par trivial e)]
            · rw [if_neg e, if_neg (fun x => e (by rw [x]))]
          · rw [get_nil, get_nil, if_neg]
            intro x; simp only [Nat.add_right_cancel_iff] at x; rw [x, hb] at hc; cases hc
          · rw [get_nil, get_nil, if_neg]
            intro x; simp only [Nat.add_right_cancel_iff] at x; rw [x, hb] at hc; cases hc
          · rw [ih _ _ _ _ hi]
            rw [hb, hc] at par
            simp only [get_nil, Nat.add_right_cancel_iff] at par ⊢
            by_cases e : j / 2 = i / 2
            · rw [if_pos e, if_pos (par trivial e)]
            · rw [if_neg e, if_neg (fun x => e (by rw [x]))]
      | node y l r =>
        cases j with
        | zero => simp only [setF_ts]; cases Nat.beq (i % 2) 0 <;> simp [get_zero]
        | succ j =>
          simp only [Nat.add_sub_cancel, ne_eq, Nat.succ_ne_zero, not_false_eq_true, forall_const] at par
          simp only [setF_ts]
          cases hb : Nat.beq (i % 2) 0 <;> simp only [cond_true, cond_false, get_succ] <;> cases hc : Nat.beq (j % 2) 0 <;> simp only [cond_true, cond_false]
          · rw [ih _ _ _ _ hi]
            rw [hb, hc] at par
            simp only [Nat.add_right_cancel_iff] at par ⊢
            by_cases e : j / 2 = i / 2
            · rw [if_pos e, if_pos (par trivial e)]
            · rw [if_neg e, if_neg (fun x => e (by rw [x]))]
          · rw [if_neg]
            intro x; simp only [Nat.add_right_cancel_iff] at x; rw [x, hb] at hc; cases hc
          · rw [if_neg]
            intro x; simp only [Nat.add_right_cancel_iff] at x; rw [x, hb] at hc; cases hc
          · rw [ih _ _ _ _ hi]
            rw [hb, hc] at par
            simp only [Nat.add_right_cancel_iff] at par ⊢
            by_cases e : j / 2 = i / 2
            · rw [if_pos e, if_pos (par trivial e)]
            · rw [if_neg e, if_neg (fun x => e (by rw [x]))]
theorem get_set_eq (t : Tr α) {i : Nat} (j : Nat) (v : α) (h : i < 1000001) : (t.set i v).get j = if j = i then some v else t.get j := getF_eq 48 t i j (some v) (by omega)
theorem get_set {t : Tr α} {i j : Nat} {v x : α} (h : (t.set i v).get j = some x) : (j = i ∧ v = x) ∨ (j ≠ i ∧ t.get j = some x) := by
  rcases get_setF _ _ _ _ _ _ h with ⟨a, b⟩ | b
  · exact .inl ⟨a, by simpa using b⟩
  · exact .inr b
theorem get_del {t : Tr α} {i j : Nat} {x : α} (h : (t.del i).get j = some x) : j ≠ i ∧ t.get j = some x := by
  rcases get_setF _ _ _ _ _ _ h with ⟨_, b⟩ | b
  · cases b
  · exact b
theorem get_putAll : ∀ (vs : List α) {t : Tr α} {k j : Nat} {x : α}, (t.putAll k vs).get j = some x →
    (∃ i, j = k + i ∧ vs[i]? = some x) ∨ ((j < k ∨ k + vs.length ≤ j) ∧ t.get j = some x) := by
  intro vs
  induction vs with
  | nil => intro t k j x h; exact .inr ⟨by simp; omega, h⟩
  | cons v vs ih =>
    intro t k j x h
    rcases ih h with ⟨i, hi, hx⟩ | ⟨hj, hx⟩
    · exact .inl ⟨i + 1, by omega, by simpa using hx⟩
    · rcases get_set hx with ⟨a, b⟩ | ⟨a, b⟩
      · exact .inl ⟨0, by omega, by simp [b]⟩
      · refine .inr ⟨?_, b⟩
        simp only [List.length_cons]
        omega
theorem getAll_spec : ∀ (n : Nat) {t : Tr α} {k : Nat} {vs : List α}, t.getAll k n = some vs → vs.length = n ∧ ∀ i, i < n → t.get (k + i) = vs[i]? := by
  intro n
  induction n with
  | zero => intro t k vs h; simp only [getAll_zero, Option.some.injEq] at h; subst h; exact ⟨rfl, fun i hi => absurd hi (Nat.not_lt_zero _)⟩
  | succ n ih =>
    intro t k vs h
    simp only [getAll_succ] at h
    cases hg : t.get k with
    | none => simp [hg] at h
    | some v =>
      simp only [hg] at h
      cases ha : getAll t (k + 1) n with
      | none => simp [ha] at h
      | some us =>
        simp only [ha, Option.some.injEq] at h
        subst h
        obtain ⟨hl, hv⟩ := ih ha
        refine ⟨by simp [hl], fun i hi => ?_⟩
        cases i with
        | zero => simpa using hg
        | succ i =>
          have := hv i (by omega)
          rw [show k + (i + 1) = k + 1 + i from by omega]
          simpa using this
end Tr
theorem ieq_iff (a b : Int) : ieq a b = decide (a = b) := by
  cases a with
  | ofNat a => cases b with
    | ofNat b => simp only [ieq]; rw [Bool.eq_iff_iff]; simp [Nat.beq_eq]; omega
    | negSucc b => simp [ieq]
  | negSucc a => cases b with
    | ofNat b => simp [ieq]
    | negSucc b => simp only [ieq]; rw [Bool.eq_iff_iff]; simp [Nat.beq_eq]
theorem blt_iff (a b : Nat) : Nat.blt a b = decide (a < b) := by
  rw [Bool.eq_iff_iff]; simp [Nat.blt, Nat.ble_eq]; omega
theorem ilt_iff (a b : Int) : ilt a b = decide (a < b) := by
  cases a with
  | ofNat a => cases b with
    | ofNat b => simp only [ilt, blt_iff]; rw [Bool.eq_iff_iff]; simp
    | negSucc b => simp only [ilt]; rw [Bool.eq_iff_iff]; simp; omega
  | negSucc a => cases b with
    | ofNat b => simp only [ilt]; rw [Bool.eq_iff_iff]; simp; omega
    | negSucc b => simp only [ilt, blt_iff]; rw [Bool.eq_iff_iff]; simp; omega
theorem u8beq (a b : UInt8) : Nat.beq a.toNat b.toNat = decide (a = b) := by
  rw [Bool.eq_iff_iff]; simp [Nat.beq_eq, UInt8.toNat_inj]
theorem leq_iff : ∀ (a b : List UInt8), leq a b = decide (a = b)
  | [], [] => rfl
  | [], _ :: _ => by simp [leq]
  | _ :: _, [] => by simp [leq]
  | a :: asz, b :: bs => by
    simp only [leq, u8beq, leq_iff asz bs]
    by_cases h : a = b <;> simp [h]
theorem llt_iff : ∀ (a b : List UInt8), llt a b = Op.bytesLess a b
  | [], [] => rfl
  | [], _ :: _ => rfl
  | _ :: _, [] => rfl
  | a :: asz, b :: bs => by
    simp only [llt, Op.bytesLess, u8beq, llt_iff asz bs, blt_iff]
    by_cases h : a.toNat < b.toNat
    · simp [h, UInt8.lt_iff_toNat_lt]
    · by_cases e : a = b <;> simp [h, e, UInt8.lt_iff_toNat_lt]
theorem nth_eq : ∀ (l : List UInt8) (i : Nat), nth l i = l[i]?
  | [], _ => by simp [nth]
  | _ :: _, 0 => by simp [nth]
  | _ :: asz, i + 1 => by simp [nth, nth_eq asz i]
theorem nthF_eq : ∀ (l : List (Nat × Nat)) (i : Nat), nthF l i = l[i]?
  | [], _ => by simp [nthF]
  | _ :: _, 0 => by simp [nthF]
  | _ :: asz, i + 1 => by simp [nthF, nthF_eq asz i]
theorem sameKind_iff (j k : IntKind) : sameKind j k = true ↔ j = k := by simp [sameKind]
theorem ble_iff (a b : Nat) : Nat.ble a b = decide (a ≤ b) := by rw [Bool.eq_iff_iff]; simp [Nat.ble_eq]
theorem beq_iff (a b : Nat) : Nat.beq a b = decide (a = b) := by rw [Bool.eq_iff_iff]; simp [Nat.beq_eq]
theorem bitsOf_eq (k : IntKind) (x : Int) : bitsOf k x = (BitVec.ofInt k.bits x).toNat := by
  simp [bitsOf, BitVec.toNat_ofInt]
end Go.Vai
end
section
namespace Go.Vai
structure MEnt where
  block : Nat
  base : Nat
  tot : Nat
  es : Nat
def extV : Nat → Nat → Nat → Nat → Nat → Value
  | 0, b, o, n, c => .slice (some ⟨b, o, none⟩) n c
  | _ + 1, b, o, _, _ => .pointer (some ⟨b, o, none⟩)
mutual
def VRel (M : List MEnt) : AV → Value → Prop
  | .bool b, v => v = .bool b
  | .int k n, v => v = .int k n
  | .str s, v => v = .string ⟨⟨s⟩⟩
  | .nilp, v => v = .pointer none
  | .ptr id off, v => ∃ m, M[id]? = some m ∧ v = .pointer (some ⟨m.block, m.base + off, none⟩)
  | .nils, v => v = .slice none 0 0
  | .sl id off len cap, v => ∃ m c, M[id]? = some m ∧ v = .slice (some ⟨m.block, m.base + off, none⟩) len c ∧
      (∀ d, cap = some d → c = d) ∧ (cap = none → len ≤ c ∧ off + c * m.es = m.tot ∧ 0 < m.es)
  | .sl0, v => ∃ a c, v = .slice (some a) 0 c
  | .nilf, v => v = .nilFunc
  | .fn f first cap, v => ∃ fs cs, v = .func (.func f) (List.toArray fs) (List.toArray cs) ∧ VRels M first fs ∧ VRels M cap cs
  | .yld id, v => ∃ m, M[id]? = some m ∧ v = .func (.yield m.block) #[] #[]
  | .nili, v => v = .nilIface
  | .iface t x, v => ∃ y, v = .iface t y ∧ VRel M x y
  | .agg cs, v => ∃ vs, v = .agg (List.toArray vs) ∧ VRels M cs vs
  | .tup cs, v => ∃ vs, v = .tuple (List.toArray vs) ∧ VRels M cs vs
  | .nilm, v => v = .map none
  | .ext _ k b o n c, v => v = extV k b o n c
  | .opq o, v => (∀ cs, v ≠ .agg cs) ∧ (∀ vs, v ≠ .tuple vs) ∧ ∀ k, o = some k → ∃ m, v = .int k m
  | .mapv id, v => ∃ m, M[id]? = some m ∧ v = .map (some m.block)
def VRels (M : List MEnt) : List AV → List Value → Prop
  | [], [] => True
  | a :: asz, v :: vs => VRel M a v ∧ VRels M asz vs
  | [], _ :: _ => False
  | _ :: _, [] => False
end
theorem pre_get {M M' : List MEnt} (h : M <+: M') {i : Nat} {m : MEnt} (hm : M[i]? = some m) : M'[i]? = some m := by
  obtain ⟨L, rfl⟩ := h
  rw [List.getElem?_append_left (by exact (List.getElem?_eq_some_iff.1 hm).1)]
  exact hm
mutual
theorem VRel.mono {M M' : List MEnt} (h : M <+: M') : ∀ {a : AV} {v : Value}, VRel M a v → VRel M' a v
  | .bool _, _, r => r
  | .int _ _, _, r => r
  | .str _, _, r => r
  | .nilp, _, r => r
  | .ptr _ _, _, ⟨m, hm, e⟩ => ⟨m, pre_get h hm, e⟩
  | .nils, _, r => r
  | .sl _ _ _ _, _, ⟨m, c, hm, e⟩ => ⟨m, c, pre_get h hm, e⟩
  | .sl0, _, r => r
  | .nilf, _, r => r
  | .fn _ _ _, _, ⟨fs, cs, e, r1, r2⟩ => ⟨fs, cs, e, VRels.mono h r1, VRels.mono h r2⟩
  | .yld _, _, ⟨m, hm, e⟩ => ⟨m, pre_get h hm, e⟩
  | .nili, _, r => r
  | .iface _ _, _, ⟨y, e, r⟩ => ⟨y, e, VRel.mono h r⟩
  | .agg _, _, ⟨vs, e, r⟩ => ⟨vs, e, VRels.mono h r⟩
  | .tup _, _, ⟨vs, e, r⟩ => ⟨vs, e, VRels.mono h r⟩
  | .nilm, _, r => r
  | .opq _, _, r => r
  | .ext _ _ _ _ _ _, _, r => r
  | .mapv _, _, ⟨m, hm, e⟩ => ⟨m, pre_get h hm, e⟩
theorem VRels.mono {M M' : List MEnt} (h : M <+: M') : ∀ {asz : List AV} {vs : List Value}, VRels M asz vs → VRels M' asz vs
  | [], [], _ => trivial
  | _ :: _, _ :: _, ⟨r1, r2⟩ => ⟨VRel.mono h r1, VRels.mono h r2⟩
end
theorem VRels.length {M : List MEnt} : ∀ {asz : List AV} {vs : List Value}, VRels M asz vs → asz.length = vs.length
  | [], [], _ => rfl
  | _ :: _, _ :: _, h => by simp [VRels.length h.2]
theorem VRels.get {M : List MEnt} : ∀ {asz : List AV} {vs : List Value}, VRels M asz vs → ∀ (i : Nat) (a : AV), asz[i]? = some a → ∃ v, vs[i]? = some v ∧ VRel M a v
  | [], [], _, i, a, h => by simp at h
  | x :: asz, y :: vs, h, 0, a, e => by simp at e; subst e; exact ⟨y, by simp, h.1⟩
  | x :: asz, y :: vs, h, i + 1, a, e => by
    obtain ⟨v, hv, r⟩ := VRels.get h.2 i a (by simpa using e)
    exact ⟨v, by simpa using hv, r⟩
theorem VRels.of {M : List MEnt} : ∀ {asz : List AV} {vs : List Value}, asz.length = vs.length → (∀ (i : Nat) (a : AV) (v : Value), asz[i]? = some a → vs[i]? = some v → VRel M a v) → VRels M asz vs
  | [], [], _, _ => trivial
  | x :: asz, y :: vs, hl, h => ⟨h 0 x y (by simp) (by simp), VRels.of (by simpa using hl) (fun i a v ha hv => h (i + 1) a v (by simpa using ha) (by simpa using hv))⟩
theorem VRels.append {M : List MEnt} : ∀ {asz bs : List AV} {vs us : List Value}, VRels M asz vs → VRels M bs us → VRels M (asz ++ bs) (vs ++ us)
  | [], _, [], _, _, h => h
  | _ :: _, _, _ :: _, _, h, k => ⟨h.1, VRels.append h.2 k⟩
theorem VRels.drop {M : List MEnt} {asz : List AV} {vs : List Value} (h : VRels M asz vs) (n : Nat) : VRels M (asz.drop n) (vs.drop n) :=
  VRels.of (by simp [h.length]) fun i a v ha hv => by
    rw [List.getElem?_drop] at ha hv
    obtain ⟨u, hu, r⟩ := h.get _ _ ha
    rw [hv] at hu; cases hu; exact r
theorem VRels.take {M : List MEnt} {asz : List AV} {vs : List Value} (h : VRels M asz vs) (n : Nat) : VRels M (asz.take n) (vs.take n) :=
  VRels.of (by simp [h.length]) fun i a v ha hv => by
    rw [List.getElem?_take] at ha hv
    split at ha
    · rename_i hi
      rw [if_pos hi] at hv
      obtain ⟨u, hu, r⟩ := h.get _ _ ha
      rw [hv] at hu; cases hu; exact r
    · cases ha
def TRel (M : List MEnt) (t : Tr AV) (tmps : Array Value) : Prop := ∀ i v, t.get i = some v → ∃ cv, tmps[i]? = some cv ∧ VRel M v cv
theorem TRel.mono {M M' : List MEnt} (h : M <+: M') {t : Tr AV} {tmps : Array Value} (r : TRel M t tmps) : TRel M' t tmps := fun i v e => by
  obtain ⟨cv, hc, hv⟩ := r i v e
  exact ⟨cv, hc, hv.mono h⟩
def lstOf : LSt → LoopState
  | .ready => .ready
  | .busy => .busy
  | .done => .done
  | .exhausted => .exhausted
def PRel : Option AExit → Option Code → Prop
  | none, c => c = none
  | some .ret, c => c = some .ret
  | some (.exit i), c => c = some (.exit i)
  | some _, _ => False
def EsRel (M : List MEnt) : List (AV × AV × Nat) → List MapEntry → Prop
  | [], [] => True
  | (k, v, b) :: es, e :: ces => VRel M k e.key ∧ VRel M v e.val ∧ e.born = b ∧ EsRel M es ces
  | [], _ :: _ => False
  | _ :: _, [] => False
theorem EsRel.mono {M M' : List MEnt} (h : M <+: M') : ∀ {es : List (AV × AV × Nat)} {ces : List MapEntry}, EsRel M es ces → EsRel M' es ces
  | [], [], _ => trivial
  | (_, _, _) :: _, _ :: _, ⟨r1, r2, r3, r4⟩ => ⟨r1.mono h, r2.mono h, r3, EsRel.mono h r4⟩
def MiRel (M : List MEnt) : Option Nat → Option Nat → Prop
  | none, c => c = none
  | some id, c => ∃ m, M[id]? = some m ∧ c = some m.block
def AObj.isRo : AObj → Bool
  | .cells _ _ _ _ _ ro _ => ro
  | .mp _ _ ro => ro
  | _ => false
def ORel (M : List MEnt) (m : MEnt) (w : World) : AObj → Prop
  | .cells n t e g fz ro mk => ∃ cur e' lo hi, w.heap[m.block]? = some (.cells cur e' (lo, hi)) ∧ (ro = false → e' = e ∧ m.base = 0) ∧ m.base + n ≤ cur.size ∧
      (∀ gs, g = some gs → m.es = gs ∧ m.tot = cur.size ∧ m.base = 0) ∧ (ro = false → ∀ i, lo ≤ i → i < hi → i < cur.size → i < fz) ∧
      (ro = false → mk = false → hi ≤ cur.size ∧ lo ≤ hi) ∧ (∀ i v, t.get i = some v → i < n ∧ ∃ cv, cur[m.base + i]? = some cv ∧ VRel M v cv)
  | .loop st pend n tmps params assign body blk => ∃ L : Loop, w.heap[m.block]? = some (.loop L) ∧ L.state = lstOf st ∧ PRel pend L.pending ∧ L.params.toList = params ∧
      L.assign = assign ∧ L.body = body ∧ L.tmps.size = n ∧ TRel M tmps L.tmps ∧ ∃ d, M[blk]? = some d ∧ L.defers = d.block
  | .siter s pos => w.heap[m.block]? = some (.stringIter ⟨⟨s⟩⟩ pos) ∧ m.base = 0
  | .dfr => w.heap[m.block]? = some (.deferred (some []))
  | .mp es clock _ => ∃ ces, w.heap[m.block]? = some (.map (List.toArray ces) clock) ∧ EsRel M es ces
  | .miter mi since seen last => ∃ c, w.heap[m.block]? = some (.mapIter c since (List.toArray seen) last) ∧ m.base = 0 ∧ MiRel M mi c
theorem ORel.lt {M : List MEnt} {m : MEnt} {w : World} {o : AObj} (h : ORel M m w o) : m.block < w.heap.size := by
  have : ∃ x, w.heap[m.block]? = some x := by
    cases o with
    | cells n t e g fz ro mk => obtain ⟨_, _, _, _, h, _⟩ := h; exact ⟨_, h⟩
    | loop => obtain ⟨_, h, _⟩ := h; exact ⟨_, h⟩
    | siter => exact ⟨_, h.1⟩
    | dfr => exact ⟨_, h⟩
    | mp => obtain ⟨_, h, _⟩ := h; exact ⟨_, h⟩
    | miter => obtain ⟨_, h, _⟩ := h; exact ⟨_, h⟩
  obtain ⟨x, hx⟩ := this
  exact (Array.getElem?_eq_some_iff.1 hx).1
theorem ORel.carry {M M' : List MEnt} {m : MEnt} {w w' : World} {o : AObj} (h : ORel M m w o) (hM : M <+: M') (hb : w'.heap[m.block]? = w.heap[m.block]?) : ORel M' m w' o := by
  cases o with
  | cells n t e g fz ro mk =>
    obtain ⟨cur, e', lo, hi, h1, h2, h3, h4, h5, h6, h7⟩ := h
    exact ⟨cur, e', lo, hi, hb.trans h1, h2, h3, h4, h5, h6, fun i v hv => by
      obtain ⟨a, cv, b, c⟩ := h7 i v hv
      exact ⟨a, cv, b, c.mono hM⟩⟩
  | loop =>
    obtain ⟨L, h1, h2, h3, h4, h5, h6, h7, h8, d, h9, h10⟩ := h
    exact ⟨L, hb.trans h1, h2, h3, h4, h5, h6, h7, h8.mono hM, d, pre_get hM h9, h10⟩
  | siter => exact ⟨hb.trans h.1, h.2⟩
  | dfr => exact Eq.trans hb h
  | mp =>
    obtain ⟨ces, h1, h2⟩ := h
    exact ⟨ces, hb.trans h1, h2.mono hM⟩
  | miter mi =>
    obtain ⟨c, h1, h2, h3⟩ := h
    refine ⟨c, hb.trans h1, h2, ?_⟩
    cases mi with
    | none => exact h3
    | some id => obtain ⟨k, a, b⟩ := h3; exact ⟨k, pre_get hM a, b⟩
structure HRel (M : List MEnt) (H : AHeap) (w : World) : Prop where
  len : M.length = H.next
  obj : ∀ id o, H.get id = some o → ∃ m, M[id]? = some m ∧ ORel M m w o
  inj : ∀ i j o p m k, H.get i = some o → H.get j = some p → M[i]? = some m → M[j]? = some k → i ≠ j → m.block = k.block → o.isRo = true ∧ p.isRo = true
def Wr (M : List MEnt) (H : AHeap) (b : Nat) : Prop := ∃ id o m, H.get id = some o ∧ o.isRo = false ∧ M[id]? = some m ∧ m.block = b
def Kn (M : List MEnt) (H : AHeap) (b : Nat) : Prop := ∃ id o m, H.get id = some o ∧ M[id]? = some m ∧ m.block = b
structure Ext (M : List MEnt) (H : AHeap) (w : World) (M' : List MEnt) (H' : AHeap) (w' : World) : Prop where
  pre : M <+: M'
  size : w.heap.size ≤ w'.heap.size
  os : w'.os = w.os
  tape : w'.tape = w.tape
  output : w'.output = w.output
  old : ∀ b, b < w.heap.size → ¬ Wr M H b → w'.heap[b]? = w.heap[b]? ∧ ¬ Wr M' H' b
  kn : ∀ b, b < w.heap.size → ¬ Kn M H b → ¬ Kn M' H' b
theorem Ext.refl (M : List MEnt) (H : AHeap) (w : World) : Ext M H w M H w := ⟨List.prefix_refl _, Nat.le_refl _, rfl, rfl, rfl, fun _ _ h => ⟨rfl, h⟩, fun _ _ h => h⟩
theorem Ext.trans {M M1 M2 : List MEnt} {H H1 H2 : AHeap} {w w1 w2 : World} (a : Ext M H w M1 H1 w1) (b : Ext M1 H1 w1 M2 H2 w2) : Ext M H w M2 H2 w2 :=
  ⟨a.pre.trans b.pre, Nat.le_trans a.size b.size, b.os.trans a.os, b.tape.trans a.tape, b.output.trans a.output, fun k hk hn => by
    obtain ⟨e1, n1⟩ := a.old k hk hn
    obtain ⟨e2, n2⟩ := b.old k (Nat.lt_of_lt_of_le hk a.size) n1
    exact ⟨e2.trans e1, n2⟩, fun k hk hn => b.kn k (Nat.lt_of_lt_of_le hk a.size) (a.kn k hk hn)⟩
theorem Ext.drew {M : List MEnt} {H : AHeap} {w w' : World} (hh : w'.heap = w.heap) (ho : w'.os = w.os) (ht : w'.tape = w.tape) (hp : w'.output = w.output) : Ext M H w M H w' :=
  ⟨List.prefix_refl _, by rw [hh]; exact Nat.le_refl _, ho, ht, hp, fun _ _ h => ⟨by rw [hh], h⟩, fun _ _ h => h⟩
theorem HRel.drew {M : List MEnt} {H : AHeap} {w w' : World} (h : HRel M H w) (hh : w'.heap = w.heap) : HRel M H w' :=
  ⟨h.len, fun id o e => by
    obtain ⟨m, hm, r⟩ := h.obj id o e
    exact ⟨m, hm, r.carry (List.prefix_refl _) (by rw [hh])⟩, h.inj⟩
theorem AHeap.get_new {H : AHeap} {o p : AObj} {id : Nat} (h : (H.new o).get id = some p) : (id = H.next ∧ o = p) ∨ (id ≠ H.next ∧ H.get id = some p) := Tr.get_set h
theorem AHeap.get_put {H : AHeap} {o p : AObj} {id j : Nat} (h : (H.put j o).get id = some p) : (id = j ∧ o = p) ∨ (id ≠ j ∧ H.get id = some p) := Tr.get_set h
theorem AHeap.get_kill {H : AHeap} {p : AObj} {id j : Nat} (h : (H.kill j).get id = some p) : id ≠ j ∧ H.get id = some p := Tr.get_del h
theorem HRel.lt {M : List MEnt} {H : AHeap} {w : World} (h : HRel M H w) {id : Nat} {o : AObj} (e : H.get id = some o) : id < M.length := by
  obtain ⟨m, hm, _⟩ := h.obj id o e
  exact (List.getElem?_eq_some_iff.1 hm).1
theorem HRel.blk {M : List MEnt} {H : AHeap} {w : World} (h : HRel M H w) {id : Nat} {o : AObj} {m : MEnt} (e : H.get id = some o) (hm : M[id]? = some m) : ORel M m w o := by
  obtain ⟨k, hk, r⟩ := h.obj id o e
  rw [hm] at hk; cases hk; exact r
theorem HRel.new {M : List MEnt} {H : AHeap} {w w' : World} (h : HRel M H w) (hg : w.grownBy w' none) (o : AObj) (m : MEnt) (hm : w.heap.size ≤ m.block) (ho : ORel (M ++ [m]) m w' o) :
    HRel (M ++ [m]) (H.new o) w' ∧ Ext M H w (M ++ [m]) (H.new o) w' := by
  have pre : M <+: M ++ [m] := List.prefix_append _ _
  have hnew : (M ++ [m])[H.next]? = some m := by rw [← h.len]; simp
  have lt : ∀ id p k, H.get id = some p → (M ++ [m])[id]? = some k → M[id]? = some k ∧ k.block < w.heap.size := fun id p k e ek => by
    obtain ⟨k', hk', r⟩ := h.obj id p e
    have := pre_get pre hk'
    rw [ek] at this; cases this
    exact ⟨hk', r.lt⟩
  refine ⟨⟨by simp [AHeap.new, h.len], fun id p e => ?_, fun i j p q k l ei ej ek el hij hb => ?_⟩, ⟨pre, hg.size, hg.os, hg.tape, hg.output, fun b hb hn => ⟨hg.block b hb (by simp), fun hw => ?_⟩, fun b hb hn hw => ?_⟩⟩
  · rcases AHeap.get_new e with ⟨rfl, rfl⟩ | ⟨_, e⟩
    · exact ⟨m, hnew, ho⟩
    · obtain ⟨k, hk, r⟩ := h.obj id p e
      exact ⟨k, pre_get pre hk, r.carry pre (hg.block _ r.lt (by simp))⟩
  · rcases AHeap.get_new ei with ⟨rfl, rfl⟩ | ⟨_, ei⟩ <;> rcases AHeap.get_new ej with ⟨rfl, rfl⟩ | ⟨_, ej⟩
    · exact absurd rfl hij
    · have := (lt _ _ _ ej el).2
      rw [hnew] at ek; cases ek; omega
    · have := (lt _ _ _ ei ek).2
      rw [hnew] at el; cases el; omega
    · exact h.inj i j p q k l ei ej (lt _ _ _ ei ek).1 (lt _ _ _ ej el).1 hij hb
  · obtain ⟨id, p, k, e, hr, ek, rfl⟩ := hw
    rcases AHeap.get_new e with ⟨rfl, rfl⟩ | ⟨_, e⟩
    · rw [hnew] at ek; cases ek; omega
    · exact hn ⟨id, p, k, e, hr, (lt _ _ _ e ek).1, rfl⟩
  · obtain ⟨id, p, k, e, ek, rfl⟩ := hw
    rcases AHeap.get_new e with ⟨rfl, rfl⟩ | ⟨_, e⟩
    · rw [hnew] at ek; cases ek; omega
    · exact hn ⟨id, p, k, e, (lt _ _ _ e ek).1, rfl⟩
theorem HRel.put {M : List MEnt} {H : AHeap} {w w' : World} (h : HRel M H w) {id : Nat} {o : AObj} {m : MEnt} (e : H.get id = some o) (hro : o.isRo = false) (hm : M[id]? = some m)
    (hg : w.grownBy w' (some m.block)) (o' : AObj) (ho : ORel M m w' o') : HRel M (H.put id o') w' ∧ Ext M H w M (H.put id o') w' := by
  have ne : ∀ j p k, H.get j = some p → M[j]? = some k → j ≠ id → k.block ≠ m.block := fun j p k ej ek hj hb => by
    have := (h.inj j id p o k m ej e ek hm hj hb).2
    rw [hro] at this; cases this
  refine ⟨⟨h.len, fun j p ej => ?_, fun i j p q k l ei ej ek el hij hb => ?_⟩, ⟨List.prefix_refl _, hg.size, hg.os, hg.tape, hg.output, fun b hb hn => ⟨hg.block b hb ?_, fun hw => ?_⟩, fun b hb hn hw => ?_⟩⟩
  · rcases AHeap.get_put ej with ⟨rfl, rfl⟩ | ⟨hj, ej⟩
    · exact ⟨m, hm, ho⟩
    · obtain ⟨k, hk, r⟩ := h.obj j p ej
      exact ⟨k, hk, r.carry (List.prefix_refl _) (hg.block _ r.lt (by have := ne j p k ej hk hj; simp [this]))⟩
  · rcases AHeap.get_put ei with ⟨rfl, rfl⟩ | ⟨hi, ei'⟩ <;> rcases AHeap.get_put ej with ⟨rfl, rfl⟩ | ⟨hj, ej'⟩
    · exact absurd rfl hij
    · rw [hm] at ek; cases ek; exact absurd hb.symm (ne j q l ej' el hj)
    · rw [hm] at el; cases el; exact absurd hb (ne i p k ei' ek hi)
    · exact h.inj i j p q k l ei' ej' ek el hij hb
  · intro he
    simp only [Option.some.injEq] at he
    exact hn ⟨id, o, m, e, hro, hm, he.symm⟩
  · obtain ⟨j, p, k, ej, hr, ek, rfl⟩ := hw
    rcases AHeap.get_put ej with ⟨rfl, rfl⟩ | ⟨hj, ej⟩
    · exact hn ⟨_, o, m, e, hro, hm, by rw [hm] at ek; cases ek; rfl⟩
    · exact hn ⟨j, p, k, ej, hr, ek, rfl⟩
  · obtain ⟨j, p, k, ej, ek, rfl⟩ := hw
    rcases AHeap.get_put ej with ⟨rfl, rfl⟩ | ⟨hj, ej⟩
    · exact hn ⟨_, o, m, e, hm, by rw [hm] at ek; cases ek; rfl⟩
    · exact hn ⟨j, p, k, ej, ek, rfl⟩
theorem HRel.kill {M : List MEnt} {H : AHeap} {w : World} (h : HRel M H w) (id : Nat) : HRel M (H.kill id) w ∧ Ext M H w M (H.kill id) w :=
  ⟨⟨h.len, fun j p ej => h.obj j p (AHeap.get_kill ej).2, fun i j p q k l ei ej => h.inj i j p q k l (AHeap.get_kill ei).2 (AHeap.get_kill ej).2⟩,
   ⟨List.prefix_refl _, Nat.le_refl _, rfl, rfl, rfl, fun _ _ hn => ⟨rfl, fun ⟨j, p, k, ej, r⟩ => hn ⟨j, p, k, (AHeap.get_kill ej).2, r⟩⟩, fun _ _ hn ⟨j, p, k, ej, r⟩ => hn ⟨j, p, k, (AHeap.get_kill ej).2, r⟩⟩⟩
theorem HRel.rename {M : List MEnt} {H : AHeap} {w w' : World} (h : HRel M H w) {id : Nat} {o : AObj} {m : MEnt} (e : H.get id = some o) (hro : o.isRo = false) (hm : M[id]? = some m)
    (hg : w.grownBy w' (some m.block)) (o' : AObj) (m' : MEnt) (hb' : m'.block = m.block) (ho : ORel (M ++ [m']) m' w' o') :
    HRel (M ++ [m']) ((H.kill id).new o') w' ∧ Ext M H w (M ++ [m']) ((H.kill id).new o') w' := by
  have pre : M <+: M ++ [m'] := List.prefix_append _ _
  have hnew : (M ++ [m'])[(H.kill id).next]? = some m' := by show (M ++ [m'])[H.next]? = _; rw [← h.len]; simp
  have ne : ∀ j p k, H.get j = some p → M[j]? = some k → j ≠ id → k.block ≠ m.block := fun j p k ej ek hj hb => by
    have := (h.inj j id p o k m ej e ek hm hj hb).2
    rw [hro] at this; cases this
  have old : ∀ j p k, H.get j = some p → (M ++ [m'])[j]? = some k → M[j]? = some k := fun j p k ej ek => by
    obtain ⟨k', hk', r⟩ := h.obj j p ej
    have := pre_get pre hk'
    rw [ek] at this; cases this
    exact hk'
  refine ⟨⟨by simp [AHeap.new, AHeap.kill, h.len], fun j p ej => ?_, fun i j p q k l ei ej ek el hij hb => ?_⟩, ⟨pre, hg.size, hg.os, hg.tape, hg.output, fun b hb hn => ⟨hg.block b hb ?_, fun hw => ?_⟩, fun b hb hn hw => ?_⟩⟩
  · rcases AHeap.get_new ej with ⟨rfl, rfl⟩ | ⟨_, ej⟩
    · exact ⟨m', hnew, ho⟩
    · obtain ⟨hj, ej⟩ := AHeap.get_kill ej
      obtain ⟨k, hk, r⟩ := h.obj j p ej
      exact ⟨k, pre_get pre hk, r.carry pre (hg.block _ r.lt (by have := ne j p k ej hk hj; simp [this]))⟩
  · rcases AHeap.get_new ei with ⟨rfl, rfl⟩ | ⟨_, ei⟩ <;> rcases AHeap.get_new ej with ⟨rfl, rfl⟩ | ⟨_, ej⟩
    · exact absurd rfl hij
    · obtain ⟨hj, ej⟩ := AHeap.get_kill ej
      rw [hnew] at ek; cases ek
      exact absurd (hb.symm.trans hb') (ne j q l ej (old _ _ _ ej el) hj)
    · obtain ⟨hi, ei⟩ := AHeap.get_kill ei
      rw [hnew] at el; cases el
      exact absurd (hb.trans hb') (ne i p k ei (old _ _ _ ei ek) hi)
    · obtain ⟨_, ei⟩ := AHeap.get_kill ei
      obtain ⟨_, ej⟩ := AHeap.get_kill ej
      exact h.inj i j p q k l ei ej (old _ _ _ ei ek) (old _ _ _ ej el) hij hb
  · intro he
    simp only [Option.some.injEq] at he
    exact hn ⟨id, o, m, e, hro, hm, he.symm⟩
  · obtain ⟨j, p, k, ej, hr, ek, rfl⟩ := hw
    rcases AHeap.get_new ej with ⟨rfl, rfl⟩ | ⟨_, ej⟩
    · rw [hnew] at ek; cases ek
      exact hn ⟨id, o, m, e, hro, hm, hb'.symm⟩
    · obtain ⟨_, ej⟩ := AHeap.get_kill ej
      exact hn ⟨j, p, k, ej, hr, old _ _ _ ej ek, rfl⟩
  · obtain ⟨j, p, k, ej, ek, rfl⟩ := hw
    rcases AHeap.get_new ej with ⟨rfl, rfl⟩ | ⟨_, ej⟩
    · rw [hnew] at ek; cases ek
      exact hn ⟨id, o, m, e, hm, hb'.symm⟩
    · obtain ⟨_, ej⟩ := AHeap.get_kill ej
      exact hn ⟨j, p, k, ej, old _ _ _ ej ek, rfl⟩
end Go.Vai
end
